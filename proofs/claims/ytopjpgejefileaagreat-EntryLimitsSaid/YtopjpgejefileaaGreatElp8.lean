/- Texts of the proof of EntryLimits, packed by pack.py: part 8 of 13. -/
import Derived.KernelRfl
import Derived.Test.YtopjpgejefileaaGreatElp7
namespace Go.Ai
open Go.IntKind (i64 u64 u32)
open Go.RowKit
def SLe (s s':Zg):Prop:=s.length=s'.length∧∀ t,Zk s t = .dead∨Zk s t=Zk s' t
theorem SLe.refl (s:Zg):SLe s s:=⟨rfl,fun _ => .inr rfl⟩
theorem SLe.trans {a b c:Zg} (h:SLe a b) (k:SLe b c):SLe a c:=by
 refine⟨h.1.trans k.1,fun t => ?_⟩
 rcases h.2 t with h1 | h1
 ·exact .inl h1
 ·rcases k.2 t with k1 | k1
  ·exact .inl (h1.trans k1)
  ·exact .inr (h1.trans k1)
theorem SLe.get {s s':Zg} (h:SLe s s') {t:Nat} {r:Reg} (hr:Zk s t=r) (hd:r ≠ .dead):Zk s' t=r:=by
 rcases h.2 t with h1 | h1
 ·exact absurd (hr.symm.trans h1) hd
 ·rw[← h1,hr]
theorem SLe.av {s s':Zg} (h:SLe s s') {o:Opd} {x:AV} (hx:o.av s=some x):o.av s'=some x:=by
 cases o with
 | c y=>exact hx
 | t n =>
  simp only[Opd.av,Opd.reg] at hx ⊢
  split at hx
  ·rename_i y hy
   cases hx
   rw[h.get hy (by intro e;cases e)]
  ·cases hx
theorem SLe.avs {s s':Zg} (h:SLe s s'):∀ {l:List Opd} {xs:List AV},avs s l=some xs→avs s' l=some xs
 | [],xs,hx=>hx
 | o::l,xs,hx=>by
  simp only[Go.Ai.avs] at hx ⊢
  cases h1:o.av s with
  | none=>rw[h1] at hx;cases hx
  | some x =>
   rw[h1] at hx
   rw[h.av h1]
   cases h2:Go.Ai.avs s l with
   | none=>rw[h2] at hx;cases hx
   | some ys =>
    rw[h2] at hx
    rw[h.avs h2]
    exact hx
theorem SLe.fill {s s':Zg} (h:SLe s s'):∀ {ps:List (Nat × Nat × Opd)} {cs cs':List AV},Q4 s cs ps=some cs'→Q4 s' cs ps=some cs'
 | [],_,_,hx=>hx
 | (off,n,o)::ps,cs,cs',hx=>by
  simp only[Q4] at hx ⊢
  cases h1:o.av s with
  | none=>rw[h1] at hx;cases hx
  | some x =>
   rw[h1] at hx
   rw[h.av h1]
   dsimp only at hx ⊢
   cases h2:Qq x n with
   | none=>rw[h2] at hx;cases hx
   | some ys =>
    rw[h2] at hx
    dsimp only at hx ⊢
    cases h3:Jh cs off ys with
    | none=>rw[h3] at hx;cases hx
    | some cs1 =>
     rw[h3] at hx
     dsimp only at hx ⊢
     exact h.fill hx
theorem SLe.reg {s s':Zg} (h:SLe s s') {o:Opd} {r:Reg} (hx:o.reg s=r) (hd:r ≠ .dead):o.reg s'=r:=by
 cases o with
 | c y=>exact hx
 | t n=>exact h.get hx hd
theorem SLe.bnd {s s':Zg} (h:SLe s s') {o:Option Opd} {d n:Nat} (hx:X3 s d o=some n):X3 s' d o=some n:=by
 cases o with
 | none=>exact hx
 | some o =>
  simp only[X3] at hx ⊢
  split at hx
  ·rename_i k i hi
   rw[h.av hi]
   exact hx
  ·cases hx
theorem SLe.firm {s s':Zg} (h:SLe s s') {l:List Nat} (hl:(l.all fun t=>Qp (Zk s t))=true):(l.all fun t=>Qp (Zk s' t))=true:=by
 rw[List.all_eq_true] at hl ⊢
 intro t ht
 have h1:=hl t ht
 rw[h.get (r:=Zk s t) rfl (by intro e;rw[e] at h1;cases h1)]
 exact h1
theorem Gy {F:Zl} {s s':Zg} (h:SLe s s') {k:K} {p:Reg × List (Nat × Reg)} (hk:evK F s k=some p):evK F s' k=some p:=by
 cases k <;> simp only[evK] at hk ⊢
 case mov x =>
  simp only[Option.map_eq_some_iff] at hk ⊢
  obtain⟨v,hv,e⟩:=hk
  exact⟨v,h.av hv,e⟩
 case pick c a b =>
  split at hk
  ·rename_i hc
   rw[h.av hc]
   simp only[Option.map_eq_some_iff] at hk ⊢
   obtain⟨v,hv,e⟩:=hk
   exact⟨v,h.av hv,e⟩
  ·rename_i hc
   rw[h.av hc]
   simp only[Option.map_eq_some_iff] at hk ⊢
   obtain⟨v,hv,e⟩:=hk
   exact⟨v,h.av hv,e⟩
  ·cases hk
 case bin op x y =>
  split at hk
  ·rename_i hx hy;rw[h.av hx,h.av hy];exact hk
  ·cases hk
 case eqb neg x y =>
  split at hk
  ·rename_i hx hy;rw[h.av hx,h.av hy];exact hk
  ·cases hk
 case eqv neg n x y =>
  split at hk
  ·rename_i hx hy;rw[h.av hx,h.av hy];exact hk
  ·cases hk
 case un op x =>
  split at hk
  ·rename_i hx;rw[h.av hx];exact hk
  ·cases hk
 case cv k x =>
  split at hk
  ·rename_i hx;rw[h.av hx];exact hk
  ·cases hk
 case new z ks=>exact hk
 case box x ks =>
  split at hk
  ·rename_i hx;rw[h.av hx];exact hk
  ·rename_i y hne hx
   rw[h.av hx]
   split at hk
   ·rename_i hd
    cases hk
    cases y <;> first | (cases hd;done) | simp only[Uk,if_true]
   ·cases hk
  ·cases hk
 case bld z ps =>
  simp only[Option.map_eq_some_iff] at hk ⊢
  obtain⟨v,hv,e⟩:=hk
  exact⟨v,h.fill hv,e⟩
 case bls n z ps =>
  simp only[Option.map_eq_some_iff] at hk ⊢
  obtain⟨v,hv,e⟩:=hk
  exact⟨v,h.fill hv,e⟩
 case adr x d off =>
  cases hr:Zk s x <;> rw[hr] at hk <;> first | (cases hk;done) | (rw[h.get hr (by intro e;cases e)];exact hk)
 case ld x d n one =>
  cases hr:Zk s x with
  | box cs=>rw[hr] at hk;rw[h.get hr (by intro e;cases e)];exact hk
  | mem cs=>rw[hr] at hk;rw[h.get hr (by intro e;cases e)];exact hk
  | ptr d' off =>
   rw[hr] at hk
   rw[h.get hr (by intro e;cases e)]
   dsimp only at hk ⊢
   split at hk
   ·rename_i hd
    rw[if_pos hd]
    cases hr2:Zk s d <;> rw[hr2] at hk <;> first | (cases hk;done) | (rw[h.get hr2 (by intro e;cases e)];exact hk)
   ·cases hk
  | val x=>rw[hr] at hk;cases hk
  | own _ _ _=>rw[hr] at hk;cases hk
  | agn _ _ _ _=>rw[hr] at hk;cases hk
  | bxl _=>rw[hr] at hk;cases hk
  | dup d=>rw[hr] at hk;cases hk
  | sub _ _ _ _=>rw[hr] at hk;cases hk
  | dead=>rw[hr] at hk;cases hk
 case st x d n v =>
  split at hk
  ·cases hk
  ·rename_i a ha
   rw[h.av ha]
   dsimp only at hk ⊢
   split at hk
   ·cases hk
   ·rename_i ys hys
    cases hr:Zk s x with
    | box cs=>rw[hr] at hk;rw[h.get hr (by intro e;cases e)];exact hk
    | ptr d' off =>
     rw[hr] at hk
     rw[h.get hr (by intro e;cases e)]
     dsimp only at hk ⊢
     split at hk
     ·rename_i hd
      rw[if_pos hd]
      cases hr2:Zk s d <;> rw[hr2] at hk <;> first | (cases hk;done) | (rw[h.get hr2 (by intro e;cases e)];exact hk)
     ·cases hk
    | mem cs=>rw[hr] at hk;cases hk
    | val x=>rw[hr] at hk;cases hk
    | own _ _ _=>rw[hr] at hk;cases hk
    | agn _ _ _ _=>rw[hr] at hk;cases hk
    | bxl _=>rw[hr] at hk;cases hk
    | dup d=>rw[hr] at hk;cases hk
    | sub _ _ _ _=>rw[hr] at hk;cases hk
    | dead=>rw[hr] at hk;cases hk
 case fld x off n one =>
  split at hk
  ·rename_i hx;rw[h.av hx];exact hk
  ·cases hk
 case ixa x i k =>
  split at hk
  ·rename_i k1 iv hi
   rw[h.av hi]
   dsimp only at hk ⊢
   split at hk
   ·rename_i n cs hr;rw[h.get hr (by intro e;cases e)];exact hk
   ·cases hk
  ·cases hk
 case ixb x i len k =>
  split at hk
  ·rename_i k1 iv hi
   rw[h.av hi]
   dsimp only at hk ⊢
   split at hk
   ·rename_i cs hr;rw[h.get hr (by intro e;cases e)];exact hk
   ·cases hk
  ·cases hk
 case idx x i len n one =>
  split at hk
  ·rename_i hx hi;rw[h.av hx,h.av hi];exact hk
  ·cases hk
 case six x i =>
  split at hk
  ·rename_i hx hi;rw[h.av hx,h.av hi];exact hk
  ·cases hk
 case ext x i =>
  split at hk
  ·rename_i hx;rw[h.av hx];exact hk
  ·cases hk
 case len x =>
  split at hk
  ·rename_i hx;rw[h.av hx];exact hk
  ·rename_i hx;rw[h.av hx];exact hk
  ·cases hk
 case mx xs =>
  split at hk
  ·rename_i hx;rw[h.avs hx];exact hk
  ·cases hk
 case mn xs =>
  split at hk
  ·rename_i hx;rw[h.avs hx];exact hk
  ·cases hk
 case call f xs =>
  split at hk
  ·rename_i hx;rw[h.avs hx];exact hk
  ·cases hk
 case clo f xs =>
  split at hk
  ·rename_i hx;rw[h.avs hx];exact hk
  ·cases hk
 case brw f x d =>
  cases hr:Zk s x <;> rw[hr] at hk <;> first | (cases hk;done) | skip
  rename_i d'
  rw[h.get hr (by intro e;cases e)]
  simp only at hk ⊢
  by_cases hd:d'=d
  ·rw[if_pos hd] at hk ⊢
   cases hr2:Zk s d <;> rw[hr2] at hk <;> first | (cases hk;done) | skip
   rw[h.get hr2 (by intro e;cases e)]
   exact hk
  ·rw[if_neg hd] at hk;cases hk
 case cpy x =>
  cases hr:Zk s x <;> rw[hr] at hk <;> first | (cases hk;done) | (rw[h.get hr (by intro e;cases e)];exact hk)
 case tra x =>
  cases hr:Zk s x <;> rw[hr] at hk <;> first | (cases hk;done) | (rw[h.get hr (by intro e;cases e)];exact hk)
 case frz x =>
  cases hr:Zk s x <;> rw[hr] at hk <;> first | (cases hk;done) | (rw[h.get hr (by intro e;cases e)];exact hk)
 case mks z n =>
  split at hk
  ·rename_i hx;rw[h.av hx];exact hk
  ·cases hk
 case blo k n z ps =>
  simp only[Option.map_eq_some_iff] at hk ⊢
  obtain⟨v,hv,e⟩:=hk
  exact⟨v,h.fill hv,e⟩
 case apd ow x y k =>
  split at hk
  ·rename_i hy
   rw[h.av hy]
   dsimp only
   cases hr:x.reg s <;> rw[hr] at hk <;> first | (cases hk;done) | (rw[h.reg hr (by intro e;cases e)];exact hk)
  ·rename_i m ys hy
   rw[h.av hy]
   dsimp only
   split at hk
   ·rename_i hl
    rw[if_pos hl]
    cases hr:x.reg s <;> rw[hr] at hk <;> first | (cases hk;done) | (rw[h.reg hr (by intro e;cases e)];exact hk)
   ·cases hk
  ·cases hk
 case sli x lo hi mx k =>
  split at hk
  ·rename_i hx
   rw[h.av hx]
   dsimp only
   split at hk
   ·rename_i b1 b2 b3
    rw[h.bnd b1,h.bnd b2,h.bnd b3]
    exact hk
   ·cases hk
  ·rename_i n cs hx
   rw[h.av hx]
   dsimp only
   split at hk
   ·rename_i m hh l b1 b2 b3
    rw[h.bnd b1,h.bnd b2,h.bnd b3]
    exact hk
   ·cases hk
  ·cases hk
 case ixo x d i k =>
  split at hk
  ·rename_i k1 iv hi
   rw[h.av hi]
   dsimp only at hk ⊢
   split at hk
   ·rename_i n cs hr;rw[h.get hr (by intro e;cases e)];exact hk
   ·rename_i d' hr
    rw[h.get hr (by intro e;cases e)]
    dsimp only
    split at hk
    ·rename_i hd
     rw[if_pos hd]
     split at hk
     ·rename_i k' n cs hr2
      rw[h.get hr2 (by intro e;cases e)]
      exact hk
     ·cases hk
    ·cases hk
   ·cases hk
  ·cases hk
 case lno x d =>
  split at hk
  ·rename_i hr;rw[h.get hr (by intro e;cases e)];exact hk
  ·rename_i n cs hr;rw[h.get hr (by intro e;cases e)];exact hk
  ·rename_i d' hr
   rw[h.get hr (by intro e;cases e)]
   dsimp only
   split at hk
   ·rename_i hd
    rw[if_pos hd]
    split at hk
    ·rename_i k' n cs hr2
     rw[h.get hr2 (by intro e;cases e)]
     exact hk
    ·cases hk
   ·cases hk
  ·cases hk
 case isn neg x d =>
  split at hk
  ·rename_i hr;rw[h.get hr (by intro e;cases e)];exact hk
  ·rename_i n cs hr;rw[h.get hr (by intro e;cases e)];exact hk
  ·rename_i d' hr
   rw[h.get hr (by intro e;cases e)]
   dsimp only
   split at hk
   ·rename_i hd
    rw[if_pos hd]
    split at hk
    ·rename_i k' n cs hr2
     rw[h.get hr2 (by intro e;cases e)]
     exact hk
    ·cases hk
   ·cases hk
  ·cases hk
 case nlo k=>exact hk
 case bdo y x ls =>
  split at hk
  ·rename_i b hb
   rw[h.av hb]
   dsimp only at hk ⊢
   split at hk
   ·rename_i k n cs hr
    rw[h.get hr (by intro e;cases e)]
    dsimp only
    split at hk
    ·rename_i hl
     rw[if_pos (h.firm hl)]
     exact hk
    ·cases hk
   ·cases hk
  ·cases hk
 case cln f xs ls =>
  split at hk
  ·rename_i vs hvs
   rw[h.avs hvs]
   dsimp only
   split at hk
   ·rename_i hl
    rw[if_pos (h.firm hl)]
    exact hk
   ·cases hk
  ·cases hk
 case stl x v =>
  split at hk
  ·rename_i cs hr
   rw[h.get hr (by intro e;cases e)]
   dsimp only
   split at hk
   ·rename_i b k n ds hr2
    rw[h.get hr2 (by intro e;cases e)]
    exact hk
   ·cases hk
  ·cases hk
 case fdo x =>
  split at hk
  ·rename_i b k n cs hr
   rw[h.get hr (by intro e;cases e)]
   exact hk
  ·cases hk
 case cpo x=>exact hk
 case exo x =>
  split at hk
  ·rename_i b k n cs hr
   rw[h.get hr (by intro e;cases e)]
   exact hk
  ·cases hk
 case sub x d lo hi k =>
  split at hk
  ·rename_i d' hr
   rw[h.get hr (by intro e;cases e)]
   dsimp only
   split at hk
   ·rename_i hd
    rw[if_pos hd]
    split at hk
    ·rename_i k' n cs hr2
     rw[h.get hr2 (by intro e;cases e)]
     dsimp only
     split at hk
     ·rename_i hh l b1 b2
      rw[h.bnd b1,h.bnd b2]
      exact hk
     ·cases hk
    ·cases hk
   ·cases hk
  ·cases hk
 case app ow x d y k =>
  split at hk
  ·rename_i d' k' l hh hr
   rw[h.get hr (by intro e;cases e)]
   dsimp only
   split at hk
   ·rename_i hd
    rw[if_pos hd]
    split at hk
    ·rename_i k'' n cs hr2
     rw[h.get hr2 (by intro e;cases e)]
     dsimp only
     split at hk
     ·rename_i hd2
      rw[if_pos hd2]
      split at hk
      ·rename_i m ys hy
       rw[h.av hy]
       exact hk
      ·cases hk
     ·cases hk
    ·cases hk
   ·cases hk
  ·cases hk
 case apb ow x y d k =>
  split at hk
  ·rename_i k0 n cs hr
   rw[h.get hr (by intro e;cases e)]
   dsimp only
   split at hk
   ·rename_i d' k' l hh hr1
    rw[h.get hr1 (by intro e;cases e)]
    dsimp only
    split at hk
    ·rename_i hd
     rw[if_pos hd]
     split at hk
     ·rename_i k'' n' cs' hr2
      rw[h.get hr2 (by intro e;cases e)]
      exact hk
     ·cases hk
    ·cases hk
   ·cases hk
  ·cases hk
 case slo x hi k =>
  split at hk
  ·rename_i k1 iv hiv
   rw[h.av hiv]
   dsimp only at hk ⊢
   split at hk
   ·rename_i k' n cs hr
    rw[h.get hr (by intro e;cases e)]
    exact hk
   ·cases hk
  ·cases hk
 case mkf f x =>
  split at hk
  ·rename_i cs hr
   rw[h.get hr (by intro e;cases e)]
   exact hk
  ·cases hk
 case cal f x xs =>
  split at hk
  ·rename_i f' cs vs hx hvs
   rw[h.av hx,h.avs hvs]
   exact hk
  ·cases hk
 case bad=>cases hk
theorem SLe.set {s s':Zg} (h:SLe s s') (d:Nat) (r:Reg):SLe (s.set d r) (s'.set d r):=by
 refine⟨by simp[h.1],fun t => ?_⟩
 rw[Zp,Zp,h.1]
 split
 ·exact .inr rfl
 ·exact h.2 t
theorem SLe.puts {s s':Zg} (h:SLe s s'):∀ (l:List (Nat × Reg)),SLe (Zq s l) (Zq s' l):=by
 intro l
 induction l generalizing s s' with
 | nil=>exact h
 | cons p l ih=>obtain⟨t,r⟩:=p;exact ih (h.set t r)
theorem SLe.put {s s':Zg} (h:SLe s s') (d:Option Nat) (r:Reg):SLe (Qt s d r) (Qt s' d r):=by
 cases d with
 | none=>exact h
 | some d=>exact h.set d r
theorem Uw {s s':Zg} (h:SLe s s') {g:Option (Nat × Bool)} {b:Bool} (hw:Jk s g=some b):Jk s' g=some b:=by
 cases g with
 | none=>exact hw
 | some p =>
  obtain⟨t,x⟩:=p
  simp only[Jk] at hw ⊢
  split at hw
  ·rename_i hr;rw[h.get hr (by intro e;cases e)];exact hw
  ·rename_i hr;rw[h.get hr (by intro e;cases e)];exact hw
  ·cases hw
theorem Hc {F:Zl} {o:IOp} {s s' t:Zg} (h:SLe s s') (he:Xs F o s=some t):∃ t',Xs F o s'=some t'∧SLe t t':=by
 have h:SLe (kill s o.ks) (kill s' o.ks):=h.puts _
 simp only[Xs,Xh] at he ⊢
 generalize kill s o.ks=s at *
 generalize kill s' o.ks=s' at *
 split at he
 ·cases he
 ·rename_i hw
  cases he
  rw[Uw h hw]
  exact⟨_,rfl,h.put _ _⟩
 ·rename_i hw
  rw[Uw h hw]
  split at he
  ·cases he
  ·rename_i r l hk
   cases he
   rw[Gy h hk]
   exact⟨_,rfl,(h.puts l).put _ _⟩
theorem U6 {F:Zl}:∀ {l:List IOp} {s s' t:Zg},SLe s s'→Qb F l s=some t→∃ t',Qb F l s'=some t'∧SLe t t'
 | [],s,s',t,h,he=>by
  simp only[Qb,Option.some.injEq] at he
  subst he
  exact⟨s',rfl,h⟩
 | o::l,s,s',t,h,he=>by
  simp only[Qb] at he ⊢
  cases h1:Xs F o s with
  | none=>rw[h1] at he;cases he
  | some s1 =>
   rw[h1] at he
   obtain⟨s2,h2,h3⟩:=Hc h h1
   rw[h2]
   exact U6 h3 he
theorem G0 {F:Zl}:∀ (n:Nat) {c:ICode} {s s' t:Zg} {ex:Ex},SLe s s'→evC F n c s=some (ex,t)→∃ t',evC F n c s'=some (ex,t')∧SLe t t':=by
 intro n
 induction n with
 | zero=>intro c s s' t ex _ he;simp[evC] at he
 | succ n ih =>
  intro c s s' t ex h he
  cases c with
  | skip=>simp only[evC,Option.some.injEq,Prod.mk.injEq] at he ⊢;obtain⟨rfl,rfl⟩:=he;exact⟨s',⟨rfl,rfl⟩,h⟩
  | exit id=>simp only[evC,Option.some.injEq,Prod.mk.injEq] at he ⊢;obtain⟨rfl,rfl⟩:=he;exact⟨s',⟨rfl,rfl⟩,h⟩
  | ret=>simp only[evC,Option.some.injEq,Prod.mk.injEq] at he ⊢;obtain⟨rfl,rfl⟩:=he;exact⟨s',⟨rfl,rfl⟩,h⟩
  | region d ops =>
   simp only[evC,Option.map_eq_some_iff] at he ⊢
   obtain⟨s1,h1,e⟩:=he
   cases e
   obtain⟨t',h2,h3⟩:=U6 h h1
   exact⟨t',⟨t',h2,rfl⟩,h3⟩
  | seq a b =>
   simp only[evC] at he ⊢
   cases h1:evC F n a s with
   | none=>rw[h1] at he;cases he
   | some p =>
    obtain⟨e1,s1⟩:=p
    rw[h1] at he
    obtain⟨s2,h2,h3⟩:=ih h h1
    rw[h2]
    cases e1 with
    | norm=>exact ih h3 he
    | exit i=>cases he;exact⟨s2,rfl,h3⟩
    | ret=>cases he;exact⟨s2,rfl,h3⟩
  | cond c a b =>
   simp only[evC] at he ⊢
   have key:∀ v,Uu s c=some v→Uu s' c=some v:=by
    intro v hv
    unfold Uu at hv ⊢
    split at hv
    ·rename_i b' hb;rw[h.av hb];exact hv
    ·cases hv
   split at he
   ·rename_i hc;rw[key _ hc];exact ih h he
   ·rename_i hc;rw[key _ hc];exact ih h he
   ·cases he
  | block id c =>
   simp only[evC] at he ⊢
   cases h1:evC F n c s with
   | none=>rw[h1] at he;cases he
   | some p =>
    obtain⟨e1,s1⟩:=p
    rw[h1] at he
    obtain⟨s2,h2,h3⟩:=ih h h1
    rw[h2]
    cases e1 with
    | norm=>cases he;exact⟨s2,rfl,h3⟩
    | ret=>cases he;exact⟨s2,rfl,h3⟩
    | exit i =>
     dsimp only at he ⊢
     split at he
     ·rename_i hi;cases he;exact⟨s2,by rw[if_pos hi],h3⟩
     ·rename_i hi;cases he;exact⟨s2,by rw[if_neg hi],h3⟩
  | scope c=>simp only[evC] at he ⊢;exact ih h he
  | loop c =>
   simp only[evC] at he ⊢
   cases h1:evC F n c s with
   | none=>rw[h1] at he;cases he
   | some p =>
    obtain⟨e1,s1⟩:=p
    rw[h1] at he
    obtain⟨s2,h2,h3⟩:=ih h h1
    rw[h2]
    cases e1 with
    | norm=>exact ih h3 he
    | exit i=>cases he;exact⟨s2,rfl,h3⟩
    | ret=>cases he;exact⟨s2,rfl,h3⟩
def Zx (prog:Nat→Option IFunc) (c:ICode) (s:Zg) (ex:Ex) (t:Zg):Prop:=∃ t',Zs prog c s ex t'∧SLe t t'
section
variable {prog:Nat→Option IFunc}
theorem Zs.w {c:ICode} {s t:Zg} {ex:Ex} (h:Zs prog c s ex t):Zx prog c s ex t:=⟨t,h,SLe.refl t⟩
theorem Zs.mono {c:ICode} {s s' t:Zg} {ex:Ex} (h:Zs prog c s ex t) (hs:SLe s s'):Zx prog c s' ex t:=by
 obtain⟨n,h⟩:=h
 obtain⟨t',h1,h2⟩:=G0 n hs h
 exact⟨t',⟨n,h1⟩,h2⟩
theorem Zx.weak {c:ICode} {s s' t t':Zg} {ex:Ex} (h:Zx prog c s ex t) (hs:SLe s s') (ht:SLe t' t):Zx prog c s' ex t':=by
 obtain⟨t1,h1,h2⟩:=h
 obtain⟨t2,h3,h4⟩:=h1.mono hs
 exact⟨t2,h3,(ht.trans h2).trans h4⟩
theorem Zx.seq {a b:ICode} {s s1 t:Zg} {ex:Ex} (h1:Zx prog a s .norm s1) (h2:Zx prog b s1 ex t):Zx prog (.seq a b) s ex t:=by
 obtain⟨u,k1,k2⟩:=h1
 obtain⟨v,k3,k4⟩:=h2.weak k2 (SLe.refl t)
 exact⟨v,Zs.seq k1 k3,k4⟩
theorem Zx.seq_out {a b:ICode} {s t:Zg} {ex:Ex} (h1:Zx prog a s ex t) (hex:ex ≠ .norm):Zx prog (.seq a b) s ex t:=by
 obtain⟨u,k1,k2⟩:=h1
 exact⟨u,Zs.seq_out k1 hex,k2⟩
theorem Zx.scope {c:ICode} {s t:Zg} {ex:Ex} (h:Zx prog c s ex t):Zx prog (.scope c) s ex t:=by
 obtain⟨u,k1,k2⟩:=h
 exact⟨u,Zs.scope k1,k2⟩
theorem Zx.block {id:Nat} {c:ICode} {s t:Zg} (h:Zx prog c s (.exit id) t):Zx prog (.block id c) s .norm t:=by
 obtain⟨u,k1,k2⟩:=h
 exact⟨u,Zs.block k1,k2⟩
theorem Zx.block_ret {id:Nat} {c:ICode} {s t:Zg} (h:Zx prog c s .ret t):Zx prog (.block id c) s .ret t:=by
 obtain⟨u,k1,k2⟩:=h
 exact⟨u,Zs.block_ret k1,k2⟩
theorem Zx.block_norm {id:Nat} {c:ICode} {s t:Zg} (h:Zx prog c s .norm t):Zx prog (.block id c) s .norm t:=by
 obtain⟨u,k1,k2⟩:=h
 exact⟨u,Zs.block_norm k1,k2⟩
theorem Zx.loop {c:ICode} {s s1 t:Zg} {ex:Ex} (h1:Zx prog c s .norm s1) (h2:Zx prog (.loop c) s1 ex t):Zx prog (.loop c) s ex t:=by
 obtain⟨u,k1,k2⟩:=h1
 obtain⟨v,k3,k4⟩:=h2.weak k2 (SLe.refl t)
 exact⟨v,Zs.loop k1 k3,k4⟩
theorem Zx.loop_out {c:ICode} {s t:Zg} {ex:Ex} (h1:Zx prog c s ex t) (hex:ex ≠ .norm):Zx prog (.loop c) s ex t:=by
 obtain⟨u,k1,k2⟩:=h1
 exact⟨u,Zs.loop_out k1 hex,k2⟩
def Gr (ks:List Nat) (s:Zg):Zg:=s.zipIdx.map fun p=>if ks.contains p.2 then p.1 else .dead
theorem Gq (ks:List Nat) (s:Zg):SLe (Gr ks s) s:=by
 refine⟨by simp[Gr],fun t => ?_⟩
 simp only[Zk,Gr,List.getD_eq_getElem?_getD,List.getElem?_map,List.getElem?_zipIdx]
 cases h:s[t]? with
 | none=>simp
 | some r =>
  simp only[Option.map_some,Nat.zero_add,Option.getD_some]
  split
  ·exact .inr rfl
  ·exact .inl rfl
def evPS (prog:Nat→Option IFunc) (T:Qx) (n:Nat) (c:ICode) (s:Zg) (sc:List Sc) (ks:List Nat):Option (Ex × Zg × List Prop) :=
 match Uq prog T n c s sc [] with
 | some ((ex,t),[],ps)=>some (ex,Gr ks t,ps)
 | _=>none
theorem Zx.script {T:Qx} (hT:Qk prog T) (n:Nat) {c:ICode} {s t:Zg} {ex:Ex} (sc:List Sc) (ks:List Nat) {ps:List Prop}
  (h:evPS prog T n c s sc ks=some (ex,t,ps)) (hp:Xl ps):Zx prog c s ex t:=by
 unfold evPS at h
 split at h
 ·rename_i ex' t' ps' h1
  cases h
  exact⟨_,Zs.script hT n sc h1 hp,Gq ks _⟩
 ·cases h
theorem Zx.go {T:Qx} (hT:Qk prog T) (n:Nat) {c:ICode} {s t:Zg} {ex:Ex} (sc:List Sc) (ks:List Nat) {ps:List Prop}
  (hp:Xl ps) (h:evPS prog T n c s sc ks=some (ex,t,ps):=by kernel_rfl):Zx prog c s ex t:=Zx.script hT n sc ks h hp
end
theorem ac {p:Prop} {ps:List Prop} (h:p) (hs:Xl ps):Xl (p::ps):=⟨h,hs⟩
theorem a0:Xl []:=trivial
theorem Zi.go {prog:Nat→Option IFunc} {T:Qx} (hT:Qk prog T) {f:Nat} {fn:IFunc} (hf:prog f=some fn) (n:Nat) {args:List AV} (hl:args.length=fn.params) (sc:List Sc) {r:AV} {ps:List Prop}
  (hp:Xl ps) (h:evFS prog T n fn args sc=some (r,ps):=by kernel_rfl):Zi prog f args r:=Zi.script hT hf n hl sc h hp
end Go.Ai
