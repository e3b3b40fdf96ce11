/- Texts of the proof of RootSquares, packed by pack.py: part 7 of 18. -/
import Derived.KernelRfl
import Derived.Test.YthdpfjffdipipaaRsq6
namespace Go.Ai
open Go.IntKind (i64 u64 u32)
open Go.RowKit
def SLe (s s':Zg):Prop:=s.length=s'.length/\∀ t,Z7 s t = .dead\/Z7 s t=Z7 s' t
theorem SLe.refl (s:Zg):SLe s s:=⟨rfl,fun _ => .inr rfl⟩
theorem SLe.trans {a b c:Zg} (h:SLe a b) (k:SLe b c):SLe a c:=by
 refine⟨h.1.trans k.1,fun t => ?_⟩;rcases h.2 t with h1 | h1
 ·exact .inl h1
 ·rcases k.2 t with k1 | k1
  ·exact .inl (h1.trans k1)
  ·exact .inr (h1.trans k1)
theorem SLe.get {s s':Zg} (h:SLe s s') {t:Nat} {r:Reg} (hr:Z7 s t=r) (hd:r ≠ .dead):Z7 s' t=r:=by
 rcases h.2 t with h1 | h1
 ·exact absurd (hr.symm.trans h1) hd
 ·rw[<- h1,hr]
theorem SLe.av {s s':Zg} (h:SLe s s') {o:Opd} {x:AV} (hx:o.av s=some x):o.av s'=some x:=by
 cases o with
 | c y=>exact hx
 | t n =>
  simp only[Opd.av,Opd.reg] at hx |-;split at hx
  ·rename_i y hy;cases hx;rw[h.get hy (by nofun)]
  ·cases hx
theorem SLe.avs {s s':Zg} (h:SLe s s'):∀ {l:List Opd} {xs:List AV},avs s l=some xs->avs s' l=some xs
 | [],xs,hx=>hx
 | o::l,xs,hx=>by
  simp only[Go.Ai.avs] at hx |-;cases h1:o.av s with
  | none=>rw[h1] at hx;cases hx
  | some x =>
   rw[h1] at hx;rw[h.av h1];cases h2:Go.Ai.avs s l with
   | none=>rw[h2] at hx;cases hx
   | some ys =>
    rw[h2] at hx;rw[h.avs h2];exact hx
theorem SLe.fill {s s':Zg} (h:SLe s s'):∀ {ps:List (Nat × Nat × Opd)} {cs cs':List AV},Wq s cs ps=some cs'->Wq s' cs ps=some cs'
 | [],_,_,hx=>hx
 | (off,n,o)::ps,cs,cs',hx=>by
  simp only[Wq] at hx |-;cases h1:o.av s with
  | none=>rw[h1] at hx;cases hx
  | some x =>
   rw[h1] at hx;rw[h.av h1];dsimp only at hx |-;cases h2:Vz x n with
   | none=>rw[h2] at hx;cases hx
   | some ys =>
    rw[h2] at hx;dsimp only at hx |-;cases h3:U4 cs off ys with
    | none=>rw[h3] at hx;cases hx
    | some cs1 =>
     rw[h3] at hx;dsimp only at hx |-;exact h.fill hx
theorem SLe.reg {s s':Zg} (h:SLe s s') {o:Opd} {r:Reg} (hx:o.reg s=r) (hd:r ≠ .dead):o.reg s'=r:=by
 cases o with
 | c y=>exact hx
 | t n=>exact h.get hx hd
theorem SLe.bnd {s s':Zg} (h:SLe s s') {o:Option Opd} {d n:Nat} (hx:Ec s d o=some n):Ec s' d o=some n:=by
 cases o with
 | none=>exact hx
 | some o =>
  simp only[Ec] at hx |-;split at hx
  ·rename_i k i hi;rw[h.av hi];exact hx
  ·cases hx
theorem SLe.firm {s s':Zg} (h:SLe s s') {l:List Nat} (hl:(l.all fun t=>Vy (Z7 s t))=true):(l.all fun t=>Vy (Z7 s' t))=true:=by
 rw[List.all_eq_true] at hl |-;intro t ht;have h1:=hl t ht;rw[h.get (r:=Z7 s t) rfl (by intro e;rw[e] at h1;cases h1)];exact h1
theorem Zkp {F:Qd} {s s':Zg} (h:SLe s s') {k:K} {p:Reg × List (Nat × Reg)} (hk:evK F s k=some p):evK F s' k=some p:=by
 cases k <;> simp only[evK] at hk |-
 case mov x =>
  simp only[Option.map_eq_some_iff] at hk |-;obtain⟨v,hv,e⟩:=hk;exact⟨v,h.av hv,e⟩
 case pick c a b =>
  split at hk
  ·rename_i hc;rw[h.av hc];simp only[Option.map_eq_some_iff] at hk |-;obtain⟨v,hv,e⟩:=hk;exact⟨v,h.av hv,e⟩
  ·rename_i hc;rw[h.av hc];simp only[Option.map_eq_some_iff] at hk |-;obtain⟨v,hv,e⟩:=hk;exact⟨v,h.av hv,e⟩
  ·cases hk
 case bin op x y =>
  split at hk
  ·rename_i hx hy;rw[h.av hx,h.av hy];exact hk
  ·cases hk
 case eqb neg x y =>
  split at hk
  ·rename_i hx hy;rw[h.av hx,h.av hy];exact hk
  ·cases hk
 case un op x =>
  split at hk
  ·rename_i hx;rw[h.av hx];exact hk
  ·cases hk
 case cv k x =>
  split at hk
  ·rename_i hx;rw[h.av hx];exact hk
  ·cases hk
 case new z ks=>exact hk
 case box x ks =>
  split at hk
  ·rename_i hx;rw[h.av hx];exact hk
  ·rename_i y hne hx;rw[h.av hx];split at hk
   ·rename_i hd;cases hk;cases y <;> first | (cases hd;done) | simp only[Ay,if_true]
   ·cases hk
  ·cases hk
 case bld z ps =>
  simp only[Option.map_eq_some_iff] at hk |-;obtain⟨v,hv,e⟩:=hk;exact⟨v,h.fill hv,e⟩
 case bls n z ps =>
  simp only[Option.map_eq_some_iff] at hk |-;obtain⟨v,hv,e⟩:=hk;exact⟨v,h.fill hv,e⟩
 case adr x d off =>
  cases hr:Z7 s x <;> rw[hr] at hk <;> first | (cases hk;done) | (rw[h.get hr (by nofun)];exact hk)
 case ld x d n one =>
  cases hr:Z7 s x with
  | box cs=>rw[hr] at hk;rw[h.get hr (by nofun)];exact hk
  | mem cs=>rw[hr] at hk;rw[h.get hr (by nofun)];exact hk
  | ptr d' off =>
   rw[hr] at hk;rw[h.get hr (by nofun)];dsimp only at hk |-;split at hk
   ·rename_i hd;rw[if_pos hd];cases hr2:Z7 s d <;> rw[hr2] at hk <;> first | (cases hk;done) | (rw[h.get hr2 (by nofun)];exact hk)
   ·cases hk
  | val x=>rw[hr] at hk;cases hk
  | own _ _ _=>rw[hr] at hk;cases hk
  | agn _ _ _ _=>rw[hr] at hk;cases hk
  | bxl _=>rw[hr] at hk;cases hk
  | dup d=>rw[hr] at hk;cases hk
  | sub _ _ _ _=>rw[hr] at hk;cases hk
  | dead=>rw[hr] at hk;cases hk
 case st x d n v =>
  split at hk
  ·cases hk
  ·rename_i a ha;rw[h.av ha];dsimp only at hk |-;split at hk
   ·cases hk
   ·rename_i ys hys;cases hr:Z7 s x with
    | box cs=>rw[hr] at hk;rw[h.get hr (by nofun)];exact hk
    | ptr d' off =>
     rw[hr] at hk;rw[h.get hr (by nofun)];dsimp only at hk |-;split at hk
     ·rename_i hd;rw[if_pos hd];cases hr2:Z7 s d <;> rw[hr2] at hk <;> first | (cases hk;done) | (rw[h.get hr2 (by nofun)];exact hk)
     ·cases hk
    | mem cs=>rw[hr] at hk;cases hk
    | val x=>rw[hr] at hk;cases hk
    | own _ _ _=>rw[hr] at hk;cases hk
    | agn _ _ _ _=>rw[hr] at hk;cases hk
    | bxl _=>rw[hr] at hk;cases hk
    | dup d=>rw[hr] at hk;cases hk
    | sub _ _ _ _=>rw[hr] at hk;cases hk
    | dead=>rw[hr] at hk;cases hk
 case fld x off n one =>
  split at hk
  ·rename_i hx;rw[h.av hx];exact hk
  ·cases hk
 case ixa x i k =>
  split at hk
  ·rename_i k1 iv hi;rw[h.av hi];dsimp only at hk |-;split at hk
   ·rename_i n cs hr;rw[h.get hr (by nofun)];exact hk
   ·cases hk
  ·cases hk
 case six x i =>
  split at hk
  ·rename_i hx hi;rw[h.av hx,h.av hi];exact hk
  ·cases hk
 case ext x i =>
  split at hk
  ·rename_i hx;rw[h.av hx];exact hk
  ·cases hk
 case len x =>
  split at hk
  ·rename_i hx;rw[h.av hx];exact hk
  ·rename_i hx;rw[h.av hx];exact hk
  ·cases hk
 case mx xs =>
  split at hk
  ·rename_i hx;rw[h.avs hx];exact hk
  ·cases hk
 case mn xs =>
  split at hk
  ·rename_i hx;rw[h.avs hx];exact hk
  ·cases hk
 case call f xs =>
  split at hk
  ·rename_i hx;rw[h.avs hx];exact hk
  ·cases hk
 case clo f xs =>
  split at hk
  ·rename_i hx;rw[h.avs hx];exact hk
  ·cases hk
 case brw f x d =>
  cases hr:Z7 s x <;> rw[hr] at hk <;> first | (cases hk;done) | skip
  rename_i d';rw[h.get hr (by nofun)];simp only at hk |-;by_cases hd:d'=d
  ·rw[if_pos hd] at hk |-;cases hr2:Z7 s d <;> rw[hr2] at hk <;> first | (cases hk;done) | skip
   rw[h.get hr2 (by nofun)];exact hk
  ·rw[if_neg hd] at hk;cases hk
 case cpy x =>
  cases hr:Z7 s x <;> rw[hr] at hk <;> first | (cases hk;done) | (rw[h.get hr (by nofun)];exact hk)
 case tra x =>
  cases hr:Z7 s x <;> rw[hr] at hk <;> first | (cases hk;done) | (rw[h.get hr (by nofun)];exact hk)
 case frz x =>
  cases hr:Z7 s x <;> rw[hr] at hk <;> first | (cases hk;done) | (rw[h.get hr (by nofun)];exact hk)
 case mks z n =>
  split at hk
  ·rename_i hx;rw[h.av hx];exact hk
  ·cases hk
 case blo k n z ps =>
  simp only[Option.map_eq_some_iff] at hk |-;obtain⟨v,hv,e⟩:=hk;exact⟨v,h.fill hv,e⟩
 case apd ow x y k B =>
  split at hk
  ·rename_i hy;rw[h.av hy];dsimp only;cases hr:x.reg s <;> rw[hr] at hk <;> first | (cases hk;done) | (rw[h.reg hr (by nofun)];exact hk)
  ·rename_i m ys hy;rw[h.av hy];dsimp only;split at hk
   ·rename_i hl;rw[if_pos hl];cases hr:x.reg s <;> rw[hr] at hk <;> first | (cases hk;done) | (rw[h.reg hr (by nofun)];exact hk)
   ·cases hk
  ·cases hk
 case sli x lo hi mx k =>
  split at hk
  ·rename_i hx;rw[h.av hx];dsimp only;split at hk
   ·rename_i b1 b2 b3;rw[h.bnd b1,h.bnd b2,h.bnd b3];exact hk
   ·cases hk
  ·rename_i n cs hx;rw[h.av hx];dsimp only;split at hk
   ·rename_i m hh l b1 b2 b3;rw[h.bnd b1,h.bnd b2,h.bnd b3];exact hk
   ·cases hk
  ·cases hk
 case ixo x d i k =>
  split at hk
  ·rename_i k1 iv hi;rw[h.av hi];dsimp only at hk |-;split at hk
   ·rename_i n cs hr;rw[h.get hr (by nofun)];exact hk
   ·rename_i d' hr;rw[h.get hr (by nofun)];dsimp only;split at hk
    ·rename_i hd;rw[if_pos hd];split at hk
     ·rename_i k' n cs hr2;rw[h.get hr2 (by nofun)];exact hk
     ·cases hk
    ·cases hk
   ·cases hk
  ·cases hk
 case lno x d =>
  split at hk
  ·rename_i hr;rw[h.get hr (by nofun)];exact hk
  ·rename_i n cs hr;rw[h.get hr (by nofun)];exact hk
  ·rename_i d' hr;rw[h.get hr (by nofun)];dsimp only;split at hk
   ·rename_i hd;rw[if_pos hd];split at hk
    ·rename_i k' n cs hr2;rw[h.get hr2 (by nofun)];exact hk
    ·cases hk
   ·cases hk
  ·cases hk
 case nlo k=>exact hk
 case bdo y x ls =>
  split at hk
  ·rename_i b hb;rw[h.av hb];dsimp only at hk |-;split at hk
   ·rename_i k n cs hr;rw[h.get hr (by nofun)];dsimp only;split at hk
    ·rename_i hl;rw[if_pos (h.firm hl)];exact hk
    ·cases hk
   ·cases hk
  ·cases hk
 case cln f xs ls =>
  split at hk
  ·rename_i vs hvs;rw[h.avs hvs];dsimp only;split at hk
   ·rename_i hl;rw[if_pos (h.firm hl)];exact hk
   ·cases hk
  ·cases hk
 case stl x v =>
  split at hk
  ·rename_i cs hr;rw[h.get hr (by nofun)];dsimp only;split at hk
   ·rename_i b k n ds hr2;rw[h.get hr2 (by nofun)];exact hk
   ·cases hk
  ·cases hk
 case fdo x =>
  split at hk
  ·rename_i b k n cs hr;rw[h.get hr (by nofun)];exact hk
  ·cases hk
 case exo x =>
  split at hk
  ·rename_i b k n cs hr;rw[h.get hr (by nofun)];exact hk
  ·cases hk
 case slo x hi k =>
  split at hk
  ·rename_i k1 iv hiv;rw[h.av hiv];dsimp only at hk |-;split at hk
   ·rename_i k' n cs hr;rw[h.get hr (by nofun)];exact hk
   ·cases hk
  ·cases hk
 case bad=>cases hk
theorem SLe.set {s s':Zg} (h:SLe s s') (d:Nat) (r:Reg):SLe (s.set d r) (s'.set d r):=by
 refine⟨by simp[h.1],fun t => ?_⟩;rw[Jk,Jk,h.1];split
 ·exact .inr rfl
 ·exact h.2 t
theorem SLe.puts {s s':Zg} (h:SLe s s'):∀ (l:List (Nat × Reg)),SLe (Qx s l) (Qx s' l):=by
 intro l;induction l generalizing s s' with
 | nil=>exact h
 | cons p l ih=>obtain⟨t,r⟩:=p;exact ih (h.set t r)
theorem SLe.put {s s':Zg} (h:SLe s s') (d:Option Nat) (r:Reg):SLe (Wb s d r) (Wb s' d r):=by
 cases d with
 | none=>exact h
 | some d=>exact h.set d r
theorem E3 {s s':Zg} (h:SLe s s') {g:Option (Nat × Bool)} {b:Bool} (hw:Kn s g=some b):Kn s' g=some b:=by
 cases g with
 | none=>exact hw
 | some p =>
  obtain⟨t,x⟩:=p;simp only[Kn] at hw |-;split at hw
  ·rename_i hr;rw[h.get hr (by nofun)];exact hw
  ·rename_i hr;rw[h.get hr (by nofun)];exact hw
  ·cases hw
theorem Zfy {F:Qd} {o:IOp} {s s' t:Zg} (h:SLe s s') (he:Df F o s=some t):∃ t',Df F o s'=some t'/\SLe t t':=by
 have h:SLe (kill s o.ks) (kill s' o.ks):=h.puts _;simp only[Df,Ff] at he |-;generalize kill s o.ks=s at *
 generalize kill s' o.ks=s' at *
 split at he
 ·cases he
 ·rename_i hw;cases he;rw[E3 h hw];exact⟨_,rfl,h.put _ _⟩
 ·rename_i hw;rw[E3 h hw];split at he
  ·cases he
  ·rename_i r l hk;cases he;rw[Zkp h hk];exact⟨_,rfl,(h.puts l).put _ _⟩
theorem Nq {F:Qd}:∀ {l:List IOp} {s s' t:Zg},SLe s s'->Up F l s=some t->∃ t',Up F l s'=some t'/\SLe t t'
 | [],s,s',t,h,he=>by
  simp only[Up,Option.some.injEq] at he;subst he;exact⟨s',rfl,h⟩
 | o::l,s,s',t,h,he=>by
  simp only[Up] at he |-;cases h1:Df F o s with
  | none=>rw[h1] at he;cases he
  | some s1 =>
   rw[h1] at he;obtain⟨s2,h2,h3⟩:=Zfy h h1;rw[h2];exact Nq h3 he
theorem Zkr {F:Qd}:∀ (n:Nat) {c:ICode} {s s' t:Zg} {ex:Ex},SLe s s'->evC F n c s=some (ex,t)->∃ t',evC F n c s'=some (ex,t')/\SLe t t':=by
 intro n;induction n with
 | zero=>intro c s s' t ex _ he;simp[evC] at he
 | succ n ih =>
  intro c s s' t ex h he;cases c with
  | skip=>simp only[evC,Option.some.injEq,Prod.mk.injEq] at he |-;obtain⟨rfl,rfl⟩:=he;exact⟨s',⟨rfl,rfl⟩,h⟩
  | exit id=>simp only[evC,Option.some.injEq,Prod.mk.injEq] at he |-;obtain⟨rfl,rfl⟩:=he;exact⟨s',⟨rfl,rfl⟩,h⟩
  | ret=>simp only[evC,Option.some.injEq,Prod.mk.injEq] at he |-;obtain⟨rfl,rfl⟩:=he;exact⟨s',⟨rfl,rfl⟩,h⟩
  | region d ops =>
   simp only[evC,Option.map_eq_some_iff] at he |-;obtain⟨s1,h1,e⟩:=he;cases e;obtain⟨t',h2,h3⟩:=Nq h h1;exact⟨t',⟨t',h2,rfl⟩,h3⟩
  | seq a b =>
   simp only[evC] at he |-;cases h1:evC F n a s with
   | none=>rw[h1] at he;cases he
   | some p =>
    obtain⟨e1,s1⟩:=p;rw[h1] at he;obtain⟨s2,h2,h3⟩:=ih h h1;rw[h2];cases e1 with
    | norm=>exact ih h3 he
    | exit i=>cases he;exact⟨s2,rfl,h3⟩
    | ret=>cases he;exact⟨s2,rfl,h3⟩
  | cond c a b =>
   simp only[evC] at he |-;have key:∀ v,D4 s c=some v->D4 s' c=some v:=by
    intro v hv;unfold D4 at hv |-;split at hv
    ·rename_i b' hb;rw[h.av hb];exact hv
    ·cases hv
   split at he
   ·rename_i hc;rw[key _ hc];exact ih h he
   ·rename_i hc;rw[key _ hc];exact ih h he
   ·cases he
  | block id c =>
   simp only[evC] at he |-;cases h1:evC F n c s with
   | none=>rw[h1] at he;cases he
   | some p =>
    obtain⟨e1,s1⟩:=p;rw[h1] at he;obtain⟨s2,h2,h3⟩:=ih h h1;rw[h2];cases e1 with
    | norm=>cases he;exact⟨s2,rfl,h3⟩
    | ret=>cases he;exact⟨s2,rfl,h3⟩
    | exit i =>
     dsimp only at he |-;split at he
     ·rename_i hi;cases he;exact⟨s2,by rw[if_pos hi],h3⟩
     ·rename_i hi;cases he;exact⟨s2,by rw[if_neg hi],h3⟩
  | scope c=>simp only[evC] at he |-;exact ih h he
  | loop c =>
   simp only[evC] at he |-;cases h1:evC F n c s with
   | none=>rw[h1] at he;cases he
   | some p =>
    obtain⟨e1,s1⟩:=p;rw[h1] at he;obtain⟨s2,h2,h3⟩:=ih h h1;rw[h2];cases e1 with
    | norm=>exact ih h3 he
    | exit i=>cases he;exact⟨s2,rfl,h3⟩
    | ret=>cases he;exact⟨s2,rfl,h3⟩
def Za (prog:Nat->Option IFunc) (c:ICode) (s:Zg) (ex:Ex) (t:Zg):Prop:=∃ t',Qb prog c s ex t'/\SLe t t'
section
variable {prog:Nat->Option IFunc}
theorem Qb.w {c:ICode} {s t:Zg} {ex:Ex} (h:Qb prog c s ex t):Za prog c s ex t:=⟨t,h,SLe.refl t⟩
theorem Qb.mono {c:ICode} {s s' t:Zg} {ex:Ex} (h:Qb prog c s ex t) (hs:SLe s s'):Za prog c s' ex t:=by
 obtain⟨n,h⟩:=h;obtain⟨t',h1,h2⟩:=Zkr n hs h;exact⟨t',⟨n,h1⟩,h2⟩
theorem Za.weak {c:ICode} {s s' t t':Zg} {ex:Ex} (h:Za prog c s ex t) (hs:SLe s s') (ht:SLe t' t):Za prog c s' ex t':=by
 obtain⟨t1,h1,h2⟩:=h;obtain⟨t2,h3,h4⟩:=h1.mono hs;exact⟨t2,h3,(ht.trans h2).trans h4⟩
theorem Za.seq {a b:ICode} {s s1 t:Zg} {ex:Ex} (h1:Za prog a s .norm s1) (h2:Za prog b s1 ex t):Za prog (.seq a b) s ex t:=by
 obtain⟨u,k1,k2⟩:=h1;obtain⟨v,k3,k4⟩:=h2.weak k2 (SLe.refl t);exact⟨v,Qb.seq k1 k3,k4⟩
theorem Za.seq_out {a b:ICode} {s t:Zg} {ex:Ex} (h1:Za prog a s ex t) (hex:ex ≠ .norm):Za prog (.seq a b) s ex t:=by
 obtain⟨u,k1,k2⟩:=h1;exact⟨u,Qb.seq_out k1 hex,k2⟩
theorem Qb.inv {prog:Nat->Option IFunc} {a b:ICode} {s t:Zg} {ex:Ex} (h:Qb prog (.seq a b) s ex t):(Qb prog a s ex t/\ex ≠ .norm)\/∃ v,Qb prog a s .norm v/\Qb prog b v ex t:=by
 obtain⟨n,h⟩:=h;cases n with
 | zero=>simp[evC] at h
 | succ n =>
  simp only[evC] at h;have up:∀ {c:ICode} {s:Zg} {q:Ex × Zg},evC (evF prog (n+1)) n c s=some q->evC (evF prog (n+1)) (n+1) c s=some q:=fun hh=>Ve (X4 prog (Nat.le_refl _)) (Nat.le_succ n) hh;split at h
  ·rename_i v hv;exact .inr ⟨v,⟨n+1,up hv⟩,⟨n+1,up h⟩⟩
  ·rename_i hne;refine .inl ⟨⟨n+1,up h⟩,?_⟩;intro e;subst e;exact hne _ h
theorem Za.asc {a b r:ICode} {s t:Zg} {ex:Ex} (h:Za prog (.seq (.seq a b) r) s ex t):Za prog (.seq a (.seq b r)) s ex t:=by
 obtain⟨u,k1,k2⟩:=h;refine⟨u,?_,k2⟩;rcases k1.inv with ⟨h1,hne⟩ | ⟨v,h1,h2⟩
 ·rcases h1.inv with ⟨h3,_⟩ | ⟨x,h3,h4⟩
  ·exact Qb.seq_out h3 hne
  ·exact Qb.seq h3 (Qb.seq_out h4 hne)
 ·rcases h1.inv with ⟨_,hne⟩ | ⟨x,h3,h4⟩
  ·exact absurd rfl hne
  ·exact Qb.seq h3 (Qb.seq h4 h2)
theorem Za.csi {p i l r:ICode} {s t:Zg} {ex:Ex} (h:Za prog (.seq (.seq p i) (.seq l r)) s ex t):Za prog (.seq p (.seq (.seq i l) r)) s ex t:=by
 obtain⟨u,k1,k2⟩:=h;refine⟨u,?_,k2⟩;rcases k1.inv with ⟨h1,hne⟩ | ⟨v,h1,h2⟩
 ·rcases h1.inv with ⟨h3,_⟩ | ⟨x,h3,h4⟩
  ·exact Qb.seq_out h3 hne
  ·exact Qb.seq h3 (Qb.seq_out (Qb.seq_out h4 hne) hne)
 ·rcases h1.inv with ⟨_,hne⟩ | ⟨x,h3,h4⟩
  ·exact absurd rfl hne
  ·rcases h2.inv with ⟨h5,hne⟩ | ⟨y,h5,h6⟩
   ·exact Qb.seq h3 (Qb.seq_out (Qb.seq h4 h5) hne)
   ·exact Qb.seq h3 (Qb.seq (Qb.seq h4 h5) h6)
theorem Za.scope {c:ICode} {s t:Zg} {ex:Ex} (h:Za prog c s ex t):Za prog (.scope c) s ex t:=by
 obtain⟨u,k1,k2⟩:=h;exact⟨u,Qb.scope k1,k2⟩
theorem Za.block {id:Nat} {c:ICode} {s t:Zg} (h:Za prog c s (.exit id) t):Za prog (.block id c) s .norm t:=by
 obtain⟨u,k1,k2⟩:=h;exact⟨u,Qb.block k1,k2⟩
theorem Za.block_ret {id:Nat} {c:ICode} {s t:Zg} (h:Za prog c s .ret t):Za prog (.block id c) s .ret t:=by
 obtain⟨u,k1,k2⟩:=h;exact⟨u,Qb.block_ret k1,k2⟩
theorem Za.block_norm {id:Nat} {c:ICode} {s t:Zg} (h:Za prog c s .norm t):Za prog (.block id c) s .norm t:=by
 obtain⟨u,k1,k2⟩:=h;exact⟨u,Qb.block_norm k1,k2⟩
theorem Za.loop {c:ICode} {s s1 t:Zg} {ex:Ex} (h1:Za prog c s .norm s1) (h2:Za prog (.loop c) s1 ex t):Za prog (.loop c) s ex t:=by
 obtain⟨u,k1,k2⟩:=h1;obtain⟨v,k3,k4⟩:=h2.weak k2 (SLe.refl t);exact⟨v,Qb.loop k1 k3,k4⟩
theorem Za.loop_out {c:ICode} {s t:Zg} {ex:Ex} (h1:Za prog c s ex t) (hex:ex ≠ .norm):Za prog (.loop c) s ex t:=by
 obtain⟨u,k1,k2⟩:=h1;exact⟨u,Qb.loop_out k1 hex,k2⟩
theorem Zd2 {s s':Zg} (h:SLe s s') {r:IRes} {x:AV} (hr:Hv s r=some x):Hv s' r=some x:=by
 cases r with
 | tmp t =>
  simp only[Hv] at hr |-;split at hr
  ·rename_i y hy;rw[h.get hy (by nofun)];exact hr
  ·rename_i k n cs hy;rw[h.get hy (by nofun)];exact hr
  ·cases hr
 | cell t n one =>
  simp only[Hv] at hr |-;split at hr
  ·rename_i y hy;rw[h.get hy (by nofun)];exact hr
  ·cases hr
theorem F0 {s s':Zg} (h:SLe s s'):∀ {l:List IRes} {xs:List AV},X3 s l=some xs->X3 s' l=some xs
 | [],xs,hx=>hx
 | r::l,xs,hx=>by
  simp only[X3] at hx |-;cases h1:Hv s r with
  | none=>rw[h1] at hx;cases hx
  | some x =>
   rw[h1] at hx;rw[Zd2 h h1];cases h2:X3 s l with
   | none=>rw[h2] at hx;cases hx
   | some ys =>
    rw[h2] at hx;rw[F0 h h2];exact hx
theorem Sl {s s':Zg} (h:SLe s s') {l:List IRes} {x:AV} (hx:Ke s l=some x):Ke s' l=some x:=by
 unfold Ke at hx |-;split at hx
 ·rename_i t;split at hx
  ·rename_i k n cs hr;rw[h.get hr (by nofun)];exact hx
  ·rename_i b k n cs hr;rw[h.get hr (by nofun)];exact hx
  ·cases hx
 ·rename_i t u;split at hx
  ·rename_i k n cs hr;rw[h.get hr (by nofun)];dsimp only;split at hx
   ·rename_i b hru;rw[h.get hru (by nofun)];exact hx
   ·cases hx
  ·cases hx
 ·rename_i t n one;split at hx
  ·rename_i d hr;rw[h.get hr (by nofun)];dsimp only;split at hx
   ·rename_i b k m cs hr2;rw[h.get hr2 (by nofun)];exact hx
   ·cases hx
  ·cases hx
 ·cases hx
theorem A4 {s s':Zg} (h:SLe s s') {l:List IRes} {xs:List AV} (hf:Ke s l=none) (hx:X3 s l=some xs):Ke s' l=none:=by
 cases l with
 | nil=>rfl
 | cons r l =>
  cases r with
  | cell t n one =>
   cases l with
   | cons _ _=>rfl
   | nil =>
    simp only[Ke] at hf |-;cases hr:Z7 s t with
    | box cs=>rw[h.get hr (by nofun)]
    | val x=>simp only[X3,Hv,hr] at hx;cases hx
    | own k n cs=>simp only[X3,Hv,hr] at hx;cases hx
    | agn b k n cs=>simp only[X3,Hv,hr] at hx;cases hx
    | bxl _=>simp only[X3,Hv,hr] at hx;cases hx
    | ptr _ _=>simp only[X3,Hv,hr] at hx;cases hx
    | mem _=>simp only[X3,Hv,hr] at hx;cases hx
    | dup _=>simp only[X3,Hv,hr] at hx;cases hx
    | sub _ _ _ _=>simp only[X3,Hv,hr] at hx;cases hx
    | dead=>simp only[X3,Hv,hr] at hx;cases hx
  | tmp t =>
   cases l with
   | cons r2 l2 =>
    cases r2 with
    | cell _ _ _=>rfl
    | tmp u =>
     cases l2 with
     | cons _ _=>rfl
     | nil =>
      have hru:∃ r,Hv s (.tmp u)=some r:=by
       cases h1:Hv s (.tmp t) with
       | none=>simp only[X3,h1] at hx;cases hx
       | some x1 =>
        cases h2:Hv s (.tmp u) with
        | none=>simp only[X3,h1,h2] at hx;cases hx
        | some x2=>exact⟨x2,rfl⟩
      have hrt:∃ r,Hv s (.tmp t)=some r:=by
       cases h1:Hv s (.tmp t) with
       | none=>simp only[X3,h1] at hx;cases hx
       | some x1=>exact⟨x1,rfl⟩
      obtain⟨_,hru⟩:=hru;obtain⟨_,hrt⟩:=hrt;simp only[Ke] at hf |-;have gt:Z7 s' t=Z7 s t:=by
       have hne:Z7 s t ≠ .dead:=by
        intro e;simp only[Hv,e] at hrt;cases hrt
       exact h.get rfl hne
      have gu:Z7 s' u=Z7 s u:=by
       have hne:Z7 s u ≠ .dead:=by
        intro e;simp only[Hv,e] at hru;cases hru
       exact h.get rfl hne
      rw[gt,gu];exact hf
   | nil =>
    simp only[Ke] at hf |-;cases hr:Z7 s t with
    | val x=>rw[h.get hr (by nofun)]
    | own k n cs=>rw[hr] at hf;cases hf
    | agn b k n cs=>rw[hr] at hf;cases hf
    | bxl _=>simp only[X3,Hv,hr] at hx;cases hx
    | box _=>simp only[X3,Hv,hr] at hx;cases hx
    | ptr _ _=>simp only[X3,Hv,hr] at hx;cases hx
    | mem _=>simp only[X3,Hv,hr] at hx;cases hx
    | dup _=>simp only[X3,Hv,hr] at hx;cases hx
    | sub _ _ _ _=>simp only[X3,Hv,hr] at hx;cases hx
    | dead=>simp only[X3,Hv,hr] at hx;cases hx
theorem Zc.of_bodyW {f:Nat} {fn:IFunc} {args:List AV} {s:Zg} {ex:Ex} {r:AV} (hf:prog f=some fn) (hl:args.length=fn.params) (h:Za prog fn.body (Gi fn args) ex s)
  (hex:∀ i,ex ≠ .exit i) (hr:V7 s fn.res=some r):Zc prog f args r:=by
 obtain⟨u,k1,k2⟩:=h;refine Zc.of_body hf hl k1 hex ?_;unfold V7 at hr |-;cases hfr:Ke s fn.res with
 | some y=>rw[hfr] at hr;rw[Sl k2 hfr];exact hr
 | none =>
  rw[hfr] at hr;dsimp only at hr;split at hr
  ·rename_i y hy;cases hr;rw[A4 k2 hfr hy,F0 k2 hy]
  ·rename_i ys hne hy;cases hr;rw[A4 k2 hfr hy,F0 k2 hy];cases ys with
   | nil=>rfl
   | cons y l =>
    cases l with
    | nil=>exact (hne y rfl).elim
    | cons _ _=>rfl
  ·cases hr
def Zfa (ks:List Nat) (s:Zg):Zg:=s.zipIdx.map fun p=>if ks.contains p.2 then p.1 else .dead
theorem Zaj (ks:List Nat) (s:Zg):SLe (Zfa ks s) s:=by
 refine⟨by simp[Zfa],fun t => ?_⟩;simp only[Z7,Zfa,List.getD_eq_getElem?_getD,List.getElem?_map,List.getElem?_zipIdx];cases h:s[t]? with
 | none=>simp
 | some r =>
  simp only[Option.map_some,Nat.zero_add,Option.getD_some];split
  ·exact .inr rfl
  ·exact .inl rfl
def evPS (prog:Nat->Option IFunc) (T:Jx) (n:Nat) (c:ICode) (s:Zg) (sc:List Sc) (ks:List Nat):Option (Ex × Zg × List Prop) :=
 match En prog T n c s sc [] with
 | some ((ex,t),[],ps)=>some (ex,Zfa ks t,ps)
 | _=>none
theorem Za.script {T:Jx} (hT:Qn prog T) (n:Nat) {c:ICode} {s t:Zg} {ex:Ex} (sc:List Sc) (ks:List Nat) {ps:List Prop}
  (h:evPS prog T n c s sc ks=some (ex,t,ps)) (hp:D2 ps):Za prog c s ex t:=by
 unfold evPS at h;split at h
 ·rename_i ex' t' ps' h1;cases h;exact⟨_,Qb.script hT n sc h1 hp,Zaj ks _⟩
 ·cases h
theorem Za.go {T:Jx} (hT:Qn prog T) (n:Nat) {c:ICode} {s t:Zg} {ex:Ex} (sc:List Sc) (ks:List Nat) {ps:List Prop}
  (hp:D2 ps) (h:evPS prog T n c s sc ks=some (ex,t,ps):=by kernel_rfl):Za prog c s ex t:=Za.script hT n sc ks h hp
end
theorem ac {p:Prop} {ps:List Prop} (h:p) (hs:D2 ps):D2 (p::ps):=⟨h,hs⟩
theorem a0:D2 []:=trivial
theorem Zc.go {prog:Nat->Option IFunc} {T:Jx} (hT:Qn prog T) {f:Nat} {fn:IFunc} (hf:prog f=some fn) (n:Nat) {args:List AV} (hl:args.length=fn.params) (sc:List Sc) {r:AV} {ps:List Prop}
  (hp:D2 ps) (h:evFS prog T n fn args sc=some (r,ps):=by kernel_rfl):Zc prog f args r:=Zc.script hT hf n hl sc h hp
end Go.Ai
