/- Texts of the proof of ContactStates: part 8 of 18. -/
import Derived.Test.YtenfgdobfjofkaaGreatCst7
namespace Go.Proofs.YtenfgdobfjofkaaGreat
open Go.Ai
set_option maxRecDepth 100000
theorem A6p{F:Bh}{n:Nat}{m:Int}:BJ F (n+20) YS.body (CL YS [.int .i64 m])=none\/m=1\/m=2\/m=3:=by
 by_cases h1:m=1
 ·exact .inr (.inl h1)
 by_cases h2:m=2
 ·exact .inr (.inr (.inl h2))
 by_cases a:m=3
 ·exact .inr (.inr (.inr a))
 refine .inl ?_;have b:=beq_false_of_ne h1;have c:=beq_false_of_ne h2;have d:=beq_false_of_ne a;simp[YS,CL,BJ,CY,Ee,Hh,kill,Alf,EF,Q5,o1,A8,Opd.av,Opd.reg,Ag,KN,XR,H',b,c,d,KO,BD,A5]
theorem Auk{F:Bh}{n:Nat}{a x:AV}(h:(match BJ F n YS.body (CL YS [a]) with
   | some (.exit _,_)=>none
   | some (_,s)=>FU s YS.res
   | none=>none)=some x):(a = .int .i64 1/\x = .str ⟨#[49]⟩)\/(a = .int .i64 2/\x = .str ⟨#[50]⟩)\/(a = .int .i64 3/\x = .str ⟨#[51]⟩):=by
 cases hr:BJ F n YS.body (CL YS [a]) with
 | none=>rw[hr] at h;cases h
 | some r =>
  have h2:=FH (fun _ _ _ h=>h:Le F F) (Nat.le_add_right n 20) hr;rw[hr] at h;cases a with
  | int k m =>
   cases k <;> try (cases h2;done)
   rcases A6p (F:=F) (n:=n) (m:=m) with e | rfl | rfl | rfl
   ·rw[e] at h2;cases h2
   ·cases h2;cases h;exact .inl ⟨rfl,rfl⟩
   ·cases h2;cases h;exact .inr (.inl ⟨rfl,rfl⟩)
   ·cases h2;cases h;exact .inr (.inr ⟨rfl,rfl⟩)
  | _=>cases h2
end Go.Proofs.YtenfgdobfjofkaaGreat
namespace Go.Hp
open Go.Ai Go.RowKit
open _root_.Array renaming foldl_toList->Si,getElem?_eq_getElem->AE,getElem?_eq_some_iff->AR,getElem_map->O3,getElem_range->V',getElem_toList->Adg,length_toList->B3,range->FK,toList_map->CO,toList_zipIdx->ACc
open Bool renaming and_eq_true->U,false_eq_true->AC,or_eq_false_iff->nM,rec->HK,true_and->G8
open Classical renaming byContradiction->vX
open Decidable renaming not_not->Avg
open Go renaming undef->A9
open Go.Instr renaming box->AFq,build->J3,buildSlice->HX,fill->DH,indexAt->N7,loadAt->Hg,storeAt->G0,sureAddr->BQ
open Go.Program renaming cellsOf->IH
open Go.Result renaming andThen_ok->W
open Go.RowKit.Below renaming heap_alloc->FM
open Go.Sem renaming run->Cl,run_bind->Aj,run_pure->An
open Go.World renaming cell?->SZ
open Int renaming rec->A8j,toNat_natCast->Aq
open List renaming append_assoc->Ci,drop->R,getElem?_append_left->AO,getElem?_append_right->A_,getElem?_drop->D4,getElem?_eq_getElem->Af,getElem?_eq_some_iff->Az,getElem?_take_of_lt->B8,getElem?_toArray->C3,getElem_mem->AF,getElem_of_mem->ED,length->C,length_append->Ah,length_drop->C5,length_take->Db,map_cons->Bg,mem_append->AK,mem_cons->Aw,mem_cons_of_mem->AJ,mem_cons_self->AKh,mem_of_mem_drop->Cv,mem_of_mem_take->BC,mem_singleton->AP,range->AZ,rec->BZ,size_toArray->CS,take->CN
open Nat renaming add_zero->Bv,beq->AKi,beq_refl->E7,ble->Dq,ble_eq->JM,blt->Ks,blt_eq->KD,div->Aes,eq_of_beq_eq_true->Ao,eq_zero_or_pos->LD,le_of_eq->XP,le_refl->Ay,le_succ->Aqk,le_trans->AA,lt_of_lt_of_le->Bf,lt_succ_self->FJ,mod_eq_of_lt->Io,mul_le_mul->A8i,pred->XG,rec->Pj,succ->L8,succ_mul->OL
open Option renaming isSome_iff_exists->A7,map_eq_some_iff->S,rec->HW
open Option.some renaming inj->AY,injEq->Ac
inductive Tr (α:Type) where
 | e
 | n (l:Tr α) (v:Option α) (r:Tr α)
noncomputable def DO {α:Type} (b:Bool) (x y:α):α:=HK (motive:=fun _=>α) y x b
@[simp] theorem cnd_true {α:Type} (x y:α):DO true x y=x:=rfl
@[simp] theorem cnd_false {α:Type} (x y:α):DO false x y=y:=rfl
noncomputable def bO {α β:Type} (o:Option α) (k:α->Option β):Option β:=HW (motive:=fun _=>Option β) none (fun x=>k x) o
theorem BY{α β:Type}{o:Option α}{k:α->Option β}{x:β}(h:bO o k=some x):∃ v,o=some v/\k v=some x:=by
 cases o with
 | none=>cases h
 | some v=>exact⟨v,rfl,h⟩
noncomputable def Tr.get {α:Type} (t:Tr α):Nat->Option α :=
 Tr.rec (motive:=fun _=>Nat->Option α) (fun _=>none)
  (fun _ v _ a b k=>HK (motive:=fun _=>Option α) (HK (motive:=fun _=>Option α) (b (XG (Aes k 2))) (a (Aes k 2)) (AKi (Nat.mod k 2) 1)) v (AKi k 0)) t
theorem Aul{α:Type}(k:Nat):(Tr.e:Tr α).get k=none:=rfl
theorem Rr{α:Type}(l:Tr α)(v:Option α)(r:Tr α)(k:Nat):(Tr.n l v r).get k=if k=0 then v else if k % 2=1 then l.get (k / 2) else r.get (k / 2-1):=by
 show DO (AKi k 0) v (DO (AKi (k % 2) 1) (l.get (k / 2)) (r.get (XG (k / 2))))=_;cases h:AKi k 0
 ·have h0:¬ k=0:=fun e=>by rw[e] at h;cases h
  rw[Al h0];cases h1:AKi (k % 2) 1
  ·have:¬ k % 2=1:=fun e=>by rw[e] at h1;cases h1
   rw[Al this];rfl
  ·rw[Ae (Ao h1)];rfl
 ·rw[Ae (Ao h)];rfl
noncomputable def Qq {α:Type} (x:Option α) (a:Nat->Tr α->Tr α) (k:Nat) (l:Tr α) (v:Option α) (r:Tr α):Tr α :=
 HK (motive:=fun _=>Tr α) (HK (motive:=fun _=>Tr α) (.n l v (a (XG (Aes k 2)) r)) (.n (a (Aes k 2) l) v r) (AKi (Nat.mod k 2) 1)) (.n l x r) (AKi k 0)
noncomputable def Ul {α:Type} (x:Option α) (n:Nat):Nat->Tr α->Tr α :=
 Pj (motive:=fun _=>Nat->Tr α->Tr α) (fun _ t=>t)
  (fun _ a k t=>Tr.rec (motive:=fun _=>Tr α) (Qq x a k .e none .e) (fun l v r _ _=>Qq x a k l v r) t) n
noncomputable def Tr.set {α:Type} (t:Tr α) (k:Nat) (x:Option α):Tr α:=Ul x (L8 k) k t
theorem Um{α:Type}(x:Option α)(d:Nat->Tr α->Tr α)(k:Nat)(g:∀ f t j,f<k->(d f t).get j=if j=f then x else t.get j)(l:Tr α)(v:Option α)(r:Tr α)(j:Nat) :
  (Qq x d k l v r).get j=if j=k then x else if j=0 then v else if j % 2=1 then l.get (j / 2) else r.get (j / 2-1):=by
 show Tr.get (DO (AKi k 0) (Tr.n l x r) (DO (AKi (k % 2) 1) (.n (d (k / 2) l) v r) (.n l v (d (XG (k / 2)) r)))) j=_;cases h0:AKi k 0
 ·have h:¬ k=0:=fun e=>by rw[e] at h0;cases h0
  cases h1:AKi (k % 2) 1
  ·have i:¬ k % 2=1:=fun e=>by rw[e] at h1;cases h1
   simp only[cnd_false];rw[Rr];by_cases a:j=0
   ·subst a;rw[Ae rfl,Al (by omega),Ae rfl]
   ·rw[Al a];by_cases b:j % 2=1
    ·rw[Ae b,Al (by omega),Al a,Ae b]
    ·rw[Al b,Al a,Al b];have:=g (k / 2-1) r (j / 2-1) (by omega);rw[Nat.pred_eq_sub_one,this];by_cases c:j=k
     ·subst c;rw[Ae rfl,Ae rfl]
     ·rw[Al (by omega),Al c]
  ·have i:k % 2=1:=Ao h1;simp only[cnd_false,cnd_true];rw[Rr];by_cases a:j=0
   ·subst a;rw[Ae rfl,Al (by omega),Ae rfl]
   ·rw[Al a];by_cases b:j % 2=1
    ·rw[Ae b,g (k / 2) l (j / 2) (by omega),Al a,Ae b];by_cases c:j=k
     ·subst c;rw[Ae rfl,Ae rfl]
     ·rw[Al (by omega),Al c]
    ·rw[Al b,Al (by omega),Al a,Al b]
 ·have h:k=0:=Ao h0;subst h;simp only[cnd_true];rw[Rr];by_cases a:j=0
  ·rw[Ae a,Ae a]
  ·rw[Al a,Al a,Al a]
theorem uF{α:Type}(x:Option α):∀ (n k:Nat) (t:Tr α) (j:Nat),k<n->(Ul x n k t).get j=if j=k then x else t.get j:=by
 intro n;induction n with
 | zero=>intro k t j h;omega
 | succ n b =>
  intro k t j h;cases t with
  | e =>
   show (Qq x (Ul x n) k .e none .e).get j=_;rw[Um x _ k (fun a t j c=>b a t j (by omega))];simp only[Aul];split <;> (try split) <;> (try split) <;> rfl
  | n l v r =>
   show (Qq x (Ul x n) k l v r).get j=_;rw[Um x _ k (fun a t j c=>b a t j (by omega)),Rr]
theorem CA{α:Type}(t:Tr α)(k:Nat)(x:Option α)(j:Nat):(t.set k x).get j=if j=k then x else t.get j:=uF x (k+1) k t j (FJ k)
inductive Cap where
 | k (c:Nat)
 | d (sz:Nat)
def Lx:Cap->Nat->Nat->Nat->Prop
 | .k a,_,c,_=>a=c
 | .d sz,off,c,N=>off+c*sz<=N
inductive HV where
 | b (x:Bool)
 | i (k:IntKind) (n:Int)
 | u
 | pn
 | p (a off:Nat)
 | sn
 | s (a off len:Nat) (cap:Cap)
 | mn
 | m (a:Nat)
 | f (fn:Nat) (fs cs:List HV)
 | y (l:Nat)
 | c (v:Value)
 | g (cs:List HV)
 | t (cs:List HV)
def HV.one:HV->Bool
 | .u | .g _ | .t _=>false
 | _=>true
structure En where
 l:List (Nat × HV)
 g:Tr HV
 ms:Nat
def Un(m n:Nat):Bool:=AKi (Nat.land (Nat.shiftRight m n) 1) 1
noncomputable def En.get (e:En) (t:Nat):Option HV :=
 BZ (motive:=fun _=>Option HV) (HK (motive:=fun _=>Option HV) none (e.g.get t) (Un e.ms t)) (fun p _ a=>HK (motive:=fun _=>Option HV) a (some p.2) (AKi p.1 t)) e.l
def En.set(e:En)(t:Nat)(x:HV):En:=⟨(t,x)::e.l,e.g,e.ms⟩
noncomputable def En.flush (e:En):En:=⟨[],BZ (motive:=fun _=>Tr HV) e.g (fun p _ a=>HK (motive:=fun _=>Tr HV) a (a.set p.1 (some p.2)) (Un e.ms p.1)) e.l,e.ms⟩
theorem Uo(p:Nat × HV)(l:List (Nat × HV))(g:Tr HV)(m t:Nat):(En.mk (p::l) g m).get t=DO (AKi p.1 t) (some p.2) ((En.mk l g m).get t):=rfl
theorem Qr(g:Tr HV)(m t:Nat):(En.mk [] g m).get t=DO (Un m t) (g.get t) none:=rfl
theorem Adc(e:En)(t:Nat)(x:HV)(u:Nat):(e.set t x).get u=if u=t then some x else e.get u:=by
 show DO (AKi t u) (some x) (e.get u)=_;cases h:AKi t u
 ·rw[Al fun e=>by rw[e,E7] at h;cases h];rfl
 ·rw[Ae (Ao h).symm];rfl
theorem RZ{t:Nat}{x:HV}:∀ {l:List (Nat × HV)} {g:Tr HV} {m:Nat},(En.mk l g m).flush.get t=some x->(En.mk l g m).get t=some x
 | [],g,m,h=>h
 | p::l,g,m,h=>by
  have c:=@RZ t x l g m;rw[Uo];have e:(En.mk (p::l) g m).flush=⟨[],DO (Un m p.1) ((En.mk l g m).flush.g.set p.1 (some p.2)) (En.mk l g m).flush.g,m⟩:=rfl;rw[e,Qr] at h;cases hb:Un m t
  ·rw[hb] at h;cases h
  ·rw[hb] at h;simp only[cnd_true] at h;cases a:AKi p.1 t
   ·simp only[cnd_false];refine c ?_;have d:(En.mk l g m).flush=⟨[],(En.mk l g m).flush.g,m⟩:=rfl;rw[d,Qr,hb];simp only[cnd_true];cases b:Un m p.1
    ·rw[b] at h;exact h
    ·rw[b] at h;simp only[cnd_true,CA] at h;rwa [Al fun e=>by rw[e,E7] at a;cases a] at h
   ·have f:=Ao a;rw[f,hb] at h;simp only[cnd_true,CA,if_true] at h |-;exact h
abbrev Mu:=Nat->Option (Nat × Nat)
inductive VR (μ:Mu):HV->Value->Prop where
 | b (x:Bool):VR μ (.b x) (.bool x)
 | i (k:IntKind) (n:Int):VR μ (.i k n) (.int k n)
 | u:VR μ .u A9
 | pn:VR μ .pn (.pointer none)
 | p {a off:Nat} {r:Nat × Nat} (h:μ a=some r):VR μ (.p a off) (.pointer (some ⟨r.1,off,none⟩))
 | sn:VR μ .sn (.slice none 0 0)
 | s {a off len c:Nat} {r:Nat × Nat} {cap:Cap} (h:μ a=some r) (hl:len<=c) (hc:Lx cap off c r.2):VR μ (.s a off len cap) (.slice (some ⟨r.1,off,none⟩) len c)
 | mn:VR μ .mn (.map none)
 | m {a:Nat} {r:Nat × Nat} (h:μ a=some r):VR μ (.m a) (.map (some r.1))
 | f (fn:Nat) (fs cs:List HV) (us vs:Array Value) (hu:us.size=fs.length) (hs:vs.size=cs.length) (hf:∀ (j:Nat) (h1:j<fs.length) (h2:j<us.size),VR μ fs[j] us[j])
  (h:∀ (j:Nat) (h1:j<cs.length) (h2:j<vs.size),VR μ cs[j] vs[j]):VR μ (.f fn fs cs) (.func (.func fn) us vs)
 | y {l:Nat} {r:Nat × Nat} (h:μ l=some r):VR μ (.y l) (.func (.yield r.1) #[] #[])
 | c (v:Value) (h:v.oneCell'=true/\v.cells=#[v]):VR μ (.c v) v
 | g (cs:List HV) (vs:Array Value) (ho:∀ x∈cs,HV.one x=true) (hs:vs.size=cs.length) (h:∀ (j:Nat) (h1:j<cs.length) (h2:j<vs.size),VR μ cs[j] vs[j]):VR μ (.g cs) (.agg vs)
 | t (cs:List HV) (vs:Array Value) (hs:vs.size=cs.length) (h:∀ (j:Nat) (h1:j<cs.length) (h2:j<vs.size),VR μ cs[j] vs[j]):VR μ (.t cs) (.tuple vs)
theorem VR.mono{μ μ':Mu}(d:∀ a r,μ a=some r->μ' a=some r){x:HV}{v:Value}(h:VR μ x v):VR μ' x v:=by
 induction h with
 | b x=>exact .b x
 | i k n=>exact .i k n
 | u=>exact .u
 | pn=>exact .pn
 | p h=>exact .p (d _ _ h)
 | sn=>exact .sn
 | s h hl hc=>exact .s (d _ _ h) hl hc
 | mn=>exact .mn
 | m h=>exact .m (d _ _ h)
 | f fn fs cs us vs hu hs _ _ j l=>exact .f fn fs cs us vs hu hs j l
 | y h=>exact .y (d _ _ h)
 | c v h=>exact .c v h
 | g cs vs ho hs _ e=>exact .g cs vs ho hs e
 | t cs vs hs _ e=>exact .t cs vs hs e
theorem VR.oneCell{μ:Mu}{x:HV}{v:Value}(h:VR μ x v)(ho:x.one=true):v.oneCell'=true/\v.cells=#[v]:=by
 cases h <;> first | assumption | exact⟨rfl,rfl⟩ | cases ho
def CR(μ:Mu)(cs:List HV)(vs:Array Value):Prop:=(∀ x∈cs,HV.one x=true)/\∀ (j:Nat) (h:j<C cs),∃ v,vs[j]? = some v/\VR μ cs[j] v
theorem CR.mono{μ μ':Mu}(b:∀ a r,μ a=some r->μ' a=some r){cs:List HV}{vs:Array Value}(h:CR μ cs vs):CR μ' cs vs :=
 ⟨h.1,fun j c=>let ⟨v,h1,h2⟩:=h.2 j c; ⟨v,h1,h2.mono b⟩⟩
def FR(μ:Mu)(n:Nat)(ρ:En)(tm:Array Value):Prop:=tm.size=n/\∀ t x,ρ.get t=some x->VR μ x (tm.getD t A9)
theorem FR.mono{μ μ':Mu}(b:∀ a r,μ a=some r->μ' a=some r){n:Nat}{ρ:En}{tm:Array Value}(h:FR μ n ρ tm):FR μ' n ρ tm:=⟨h.1,fun t x c=>(h.2 t x c).mono b⟩
inductive HO where
 | c (cs:List HV)
 | m (es:List (HV × HV))
 | l (ρ:En) (n:Nat) (ps:List Nat) (asx bd:Code) (st:LoopState) (jump:Option Code)
 | it (str:ByteArray) (pos:Nat)
def OR(μ:Mu)(w:World)(r:Nat × Nat):HO->Prop
 | .c cs=>∃ vs T,w.heap[r.1]? = some (.cells vs T (0,0))/\vs.size=r.2/\CR μ cs vs
 | .m es=>∃ ms k,w.heap[r.1]? = some (.map ms k)/\ms.size=C es/\∀ (j:Nat) (h1:j<C es) (h2:j<ms.size),VR μ es[j].1 ms[j].key/\VR μ es[j].2 ms[j].val
 | .l ρ n ps asx bd st jump=>∃ L:Loop,w.heap[r.1]? = some (.loop L)/\L.params=ps.toArray/\L.assign=asx/\L.body=bd/\L.state=st/\L.pending=jump/\FR μ n ρ L.tmps
 | .it str pos=>w.heap[r.1]? = some (.stringIter str pos)
theorem OR.lt{μ:Mu}{w:World}{r:Nat × Nat}{o:HO}(h:OR μ w r o):r.1<w.heap.size:=by
 have a:∀ x,w.heap[r.1]? = some x->r.1<w.heap.size:=fun x b=>(AR.1 b).1;cases o with
 | c cs=>obtain⟨vs,T,h1,_⟩:=h;exact a _ h1
 | m es=>obtain⟨ms,k,h1,_⟩:=h;exact a _ h1
 | l ρ n ps asx bd st jump=>obtain⟨L,h1,_⟩:=h;exact a _ h1
 | it str pos=>exact a _ h
theorem OR.same{μ μ':Mu}(d:∀ a r,μ a=some r->μ' a=some r){w w':World}{r:Nat × Nat}{o:HO}(h:OR μ w r o)(e:w'.heap[r.1]? = w.heap[r.1]?):OR μ' w' r o:=by
 cases o with
 | c cs=>obtain⟨vs,T,h1,h2,b⟩:=h;exact⟨vs,T,by rw[e];exact h1,h2,b.mono d⟩
 | m es=>obtain⟨ms,k,h1,h2,b⟩:=h;exact⟨ms,k,by rw[e];exact h1,h2,fun j f g=>⟨(b j f g).1.mono d,(b j f g).2.mono d⟩⟩
 | l ρ n ps asx bd st jump=>obtain⟨L,h1,h2,b,i,p,q,s⟩:=h;exact⟨L,by rw[e];exact h1,h2,b,i,p,q,s.mono d⟩
 | it str pos=>exact e.trans h
structure HS where
 h:Tr HO
 nx:Nat
 lg:List Nat
structure HR (μ:Mu) (h:Tr HO) (w:World):Prop where
 obj:∀ a o,h.get a=some o->∃ r,μ a=some r/\OR μ w r o
 inj:∀ a a' o o' r r',h.get a=some o->h.get a'=some o'->μ a=some r->μ a'=some r'->r.1=r'.1->a=a'
 lt:∀ a r,μ a=some r->r.1<w.heap.size
def D_(μ:Mu)(a b:Nat):Prop:=∀ c,a<=c->c<b->μ c=none
structure Qt (s s':HS):Prop where
 nx:s.nx<=s'.nx
 lg:∀ a,a∈s.lg->a∈s'.lg
 dom:∀ a o,s'.h.get a=some o->(∃ o',s.h.get a=some o')\/(s.nx<=a/\a<s'.nx)
 keep:∀ a,¬ a∈s'.lg->¬ (s.nx<=a/\a<s'.nx)->s'.h.get a=s.h.get a
 lgd:∀ a,a∈s'.lg->a∈s.lg\/(∃ o,s.h.get a=some o)\/(s.nx<=a/\a<s'.nx)
theorem Qt.refl(s:HS):Qt s s:=⟨Ay _,fun _ h=>h,fun _ o h => .inl ⟨o,h⟩,fun _ _ _=>rfl,fun _ h => .inl h⟩
theorem Qt.trans{s t u:HS}(h:Qt s t)(g:Qt t u):Qt s u where
 nx:=AA h.nx g.nx
 lg a b:=g.lg a (h.lg a b)
 dom a o e:=by
  rcases g.dom a o e with ⟨o',e⟩ | e
  ·rcases h.dom a o' e with e | e
   ·exact .inl e
   ·exact .inr ⟨e.1,Bf e.2 g.nx⟩
  ·exact .inr ⟨AA h.nx e.1,e.2⟩
 keep a h1 h2:=by
  rw[g.keep a h1 fun e=>h2 ⟨AA h.nx e.1,e.2⟩];exact h.keep a (fun e=>h1 (g.lg a e)) fun e=>h2 ⟨e.1,Bf e.2 g.nx⟩
 lgd a b:=by
  rcases g.lgd a b with e | ⟨o,e⟩ | e
  ·rcases h.lgd a e with e | e | e
   ·exact .inl e
   ·exact .inr (.inl e)
   ·exact .inr (.inr ⟨e.1,Bf e.2 g.nx⟩)
  ·rcases h.dom a o e with e | e
   ·exact .inr (.inl e)
   ·exact .inr (.inr ⟨e.1,Bf e.2 g.nx⟩)
  ·exact .inr (.inr ⟨AA h.nx e.1,e.2⟩)
structure Step (μ:Mu) (s:HS) (w:World) (μ':Mu) (s':HS) (w':World):Prop where
 le:∀ a r,μ a=some r->μ' a=some r
 os:w'.os=w.os
 tape:w'.tape=w.tape
 out:w'.output=w.output
 size:w.heap.size<=w'.heap.size
 new:∀ b r,μ' b=some r->μ b=some r\/(∃ a o,s.h.get a=some o/\μ a=some r)\/w.heap.size<=r.1
 frame:∀ r,r<w.heap.size->(∀ a o q,s.h.get a=some o->μ a=some q->q.1 ≠ r)->w'.heap[r]? = w.heap[r]?
 stay:∀ b,¬ (s.nx<=b/\b<s'.nx)->μ' b=μ b
theorem Step.refl(μ:Mu)(s:HS)(w:World):Step μ s w μ s w:=⟨fun _ _ h=>h,rfl,rfl,rfl,Ay _,fun _ _ h => .inl h,fun _ _ _=>rfl,fun _ _=>rfl⟩
theorem Step.trans{μ μ1 μ2:Mu}{s c i:HS}{w j k:World}(h:Step μ s w μ1 c j)(g:Step μ1 c j μ2 i k)(l:Qt s c)(n:Qt c i)(hf:D_ μ s.nx c.nx):Step μ s w μ2 i k:=by
 have dom:∀ a o r,c.h.get a=some o->μ a=some r->∃ o',s.h.get a=some o':=by
  intro a o r f d;rcases l.dom a o f with e | e
  ·exact e
  ·rw[hf a e.1 e.2] at d;cases d
 refine⟨fun a r e=>g.le a r (h.le a r e),g.os.trans h.os,g.tape.trans h.tape,g.out.trans h.out,AA h.size g.size,fun b r e => ?_,fun r hr hn => ?_,fun b hb => ?_⟩
 ·rcases g.new b r e with e | ⟨a,o,f,d⟩ | e
  ·exact h.new b r e
  ·rcases h.new a r d with e | e | e
   ·obtain⟨o',ho⟩:=dom a o r f e;exact .inr (.inl ⟨a,o',ho,e⟩)
   ·exact .inr (.inl e)
   ·exact .inr (.inr e)
  ·exact .inr (.inr (AA h.size e))
 ·rw[g.frame r (Bf hr h.size) fun a o q f d m => ?_]
  ·exact h.frame r hr hn
  ·rcases h.new a q d with e | ⟨a',o',e,p⟩ | e
   ·obtain⟨o',ho⟩:=dom a o q f e;exact hn a o' q ho e m
   ·exact hn a' o' q e p m
   ·omega
 ·rw[g.stay b fun e=>hb ⟨AA l.nx e.1,e.2⟩];exact h.stay b fun e=>hb ⟨e.1,Bf e.2 n.nx⟩
def Qs(cs:List HV)(off n:Nat)(one:Bool):Option HV :=
 if one then cs[off]? else if off+n<=C cs then some (.g ((cs.drop off).take n)) else none
def OG(cs:List HV)(off:Nat)(a:List HV):Option (List HV) :=
 if off+C a<=C cs then some (cs.take off++a++cs.drop (off+C a)) else none
def Mk:HV->Nat->Option (List HV)
 | .g cs,n=>if C cs=n then some cs else none
 | x,n=>if x.one&&n==1 then some [x] else none
def JW(μ:Mu)(cs:List HV)(vs:Array Value):Prop:=(∀ x∈cs,HV.one x=true)/\vs.size=C cs/\∀ (j:Nat) (h1:j<C cs) (h2:j<vs.size),VR μ cs[j] vs[j]
theorem JW.oneCell{μ:Mu}{cs:List HV}{vs:Array Value}(h:JW μ cs vs):∀ v∈vs.toList,v.oneCell'=true:=by
 obtain⟨ho,hs,hr⟩:=h;intro v a;obtain⟨j,b,rfl⟩:=ED a;have c:j<vs.size:=by simpa using b
 have:=hr j (by omega) c;exact (this.oneCell (ho _ (AF _))).1
theorem JW.cr{μ:Mu}{cs:List HV}{vs:Array Value}(h:JW μ cs vs):CR μ cs vs :=
 ⟨h.1,fun j a=>⟨vs[j]'(by rw[h.2.1];exact a),by rw[AE],h.2.2 j a _⟩⟩
theorem JW.mono{μ μ':Mu}(b:∀ a r,μ a=some r->μ' a=some r){cs:List HV}{vs:Array Value}(h:JW μ cs vs):JW μ' cs vs :=
 ⟨h.1,h.2.1,fun j h1 h2=>(h.2.2 j h1 h2).mono b⟩
theorem Ot{μ:Mu}{x:HV}{v:Value}{n:Nat}{a:List HV}(h:VR μ x v)(hc:Mk x n=some a):C a=n/\JW μ a v.cells:=by
 have one:x.one=true->n=1->a=[x]->C a=n/\JW μ a v.cells:=by
  intro hd hn b;subst b hn;refine⟨rfl,?_⟩;rw[(h.oneCell hd).2];refine⟨fun y b => ?_,rfl,fun j h1 h2 => ?_⟩
  ·simp only[AP] at b;subst b;exact hd
  ·have:j=0:=by simp at h2;exact h2
   subst this;exact h
 cases x with
 | g cs =>
  simp only[Mk] at hc;split at hc
  ·cases hc;cases h with
   | g _ vs ho hs hr=>exact⟨by assumption,ho,hs,hr⟩
  ·cases hc
 | u=>cases hc
 | t _=>cases hc
 | _ =>
  simp only[Mk,HV.one,G8,AM] at hc;split at hc <;> cases hc;exact one rfl (by assumption) rfl
theorem Qu(cs new:List HV)(off i:Nat)(h:off+C new<=C cs) :
  (cs.take off++new++cs.drop (off+C new))[i]? = if i<off then cs[i]? else if i<off+C new then new[i-off]? else cs[i]? := by
 have a:C (cs.take off)=off:=by simp;omega
 by_cases h1:i<off
 ·rw[Ae h1,Ci,AO (by omega),B8 h1]
 ·rw[Al h1];by_cases h2:i<off+C new
  ·rw[Ae h2,AO (by simp;omega),A_ (by omega),a]
  ·rw[Al h2,A_ (by simp;omega),D4];congr 1;simp;omega
section
variable {P:Program} {μ:Mu} {h:Tr HO} {w:World}
theorem HR.at(H:HR μ h w){a:Nat}{r:Nat × Nat}{o:HO}(b:h.get a=some o)(hr:μ a=some r):OR μ w r o:=by
 obtain⟨r',h1,h2⟩:=H.obj a _ b;rw[hr] at h1;cases h1;exact h2
theorem HR.cell(H:HR μ h w){a:Nat}{r:Nat × Nat}{cs:List HV}(d:h.get a=some (.c cs))(hr:μ a=some r):∀ (j:Nat) (b:j<C cs),∃ v,w.cell? ⟨r.1,j,none⟩=some v/\VR μ cs[j] v:=by
 obtain⟨vs,T,h2,_,e⟩:=H.at d hr;intro j b;obtain⟨v,f,g⟩:=e.2 j b;exact⟨v,by simp[SZ,h2,f],g⟩
theorem HR.ones(H:HR μ h w){a:Nat}{cs:List HV}(b:h.get a=some (.c cs)):∀ x∈cs,HV.one x=true:=by
 obtain⟨r',h1,vs,T,h2,_,d⟩:=H.obj a _ b;exact d.1
theorem Aol(H:HR μ h w){t:TypeId}{n a off:Nat}{r:Nat × Nat}{one:Bool}{cs:List HV}{x:HV}(ho:G7 P t n one=true)(e:h.get a=some (.c cs))(hr:μ a=some r)
  (b:Qs cs off n one=some x):∃ v,(loadVar t ⟨r.1,off,none⟩).run P w = .ok v w/\VR μ x v:=by
 obtain⟨h1,h2⟩:=E6 ho;have k:=H.cell e hr;have hd:=H.ones e;unfold Qs at b;cases one with
 | true =>
  simp only[if_true] at b;obtain⟨m,o⟩:=Az.1 b;obtain⟨v,hc,d⟩:=k off m;refine⟨v,?_,o ▸ d⟩;simp[loadVar,h1,hc]
 | false =>
  simp only[AC,if_false] at b;split at b
  ·rename_i q;cases b;let f:Nat->Value:=fun j=>(w.cell? ⟨r.1,off+j,none⟩).getD A9
   have hf:∀ j,j<n->w.cell? ⟨r.1,off+j,none⟩=some (f j)/\∀ h:off+j<C cs,VR μ cs[off+j] (f j):=by
    intro j l;obtain⟨v,hc,d⟩:=k (off+j) (by omega);refine⟨by simp[f,hc],fun _ => ?_⟩;have:f j=v:=by simp[f,hc]
    rw[this];exact d
   refine⟨.agg ((AZ n).map f).toArray,?_,?_⟩
   ·have hl:=run_loadCells (P:=P) w ⟨r.1,off,none⟩ n f (fun j l=>by rw[Du];exact (hf j l).1);simp[loadVar,h1,h2,hl]
   ·refine .g _ _ ?_ (by simp;omega) (fun i h1 h2 => ?_)
    ·intro y p;exact hd y (Cv (BC p))
    ·have hi:i<n:=by simpa using h2
     simpa using (hf i hi).2 (by omega)
  ·cases b
theorem HR.turn(H:HR μ h w){a:Nat}{r:Nat × Nat}{o o':HO}{w':World}(f:h.get a=some o')(hr:μ a=some r)(hs:w.heap.size<=w'.heap.size)(i:∀ b,b ≠ r.1->w'.heap[b]? = w.heap[b]?)(ho:OR μ w' r o):HR μ (h.set a (some o)) w' where
 obj b x hb:=by
  rw[CA] at hb;split at hb
  next e=>subst e;cases hb;exact⟨r,hr,ho⟩
  next e=>obtain⟨r',h1,h2⟩:=H.obj b x hb;exact⟨r',h1,h2.same (fun _ _ h=>h) (i r'.1 fun c=>e (H.inj _ _ _ _ _ _ hb f h1 hr c))⟩
 inj b b' x j q k hb d h1 h2 g:=by
  rw[CA] at hb d;split at hb <;> split at d
  next e c=>rw[e,c]
  next e c=>subst e;exact H.inj _ _ _ _ _ _ f d h1 h2 g
  next e c=>subst c;exact H.inj _ _ _ _ _ _ hb f h1 h2 g
  ·exact H.inj _ _ _ _ _ _ hb d h1 h2 g
 lt b q hb:=Bf (H.lt b q hb) hs
theorem Step.turn{s:HS}{a:Nat}{r:Nat × Nat}{o o':HO}{w':World}(c:s.h.get a=some o')(hr:μ a=some r)(d:w'.os=w.os)(f:w'.tape=w.tape)(g:w'.output=w.output)(hs:w'.heap.size=w.heap.size)
  (i:∀ b,b ≠ r.1->w'.heap[b]? = w.heap[b]?):Step μ s w μ ⟨s.h.set a (some o),s.nx,a::s.lg⟩ w' :=
 ⟨fun _ _ e=>e,d,f,g,by omega,fun _ _ e => .inl e,fun b _ hn=>i b fun e=>hn a _ _ c hr e.symm,fun _ _=>rfl⟩
theorem Qt.turn{s:HS}{a:Nat}{o o':HO}(c:s.h.get a=some o'):Qt s ⟨s.h.set a (some o),s.nx,a::s.lg⟩ where
 nx:=Ay _
 lg b hb:=AJ _ hb
 dom b x hb:=by
  rw[CA] at hb;split at hb
  next e=>subst e;exact .inl ⟨_,c⟩
  ·exact .inl ⟨_,hb⟩
 keep b hb _:=by
  rw[CA,Al (fun e=>hb (by rw[e];exact AKh))]
 lgd b hb:=by
  rcases Aw.1 hb with rfl | hb
  ·exact .inr (.inl ⟨_,c⟩)
  ·exact .inl hb
theorem Ajy{s:HS}(H:HR μ s.h w){a off:Nat}{r:Nat × Nat}{cs g cs':List HV}{news:List Value}(l:s.h.get a=some (.c cs))(hr:μ a=some r)(i:JW μ g news.toArray)(hl:OG cs off g=some cs') :
  ∃ w',(storeCells ⟨r.1,off,none⟩ news 0).run P w = .ok () w'/\HR μ (s.h.set a (some (.c cs'))) w'/\Step μ s w μ ⟨s.h.set a (some (.c cs')),s.nx,a::s.lg⟩ w':=by
 obtain⟨vs,T,n,D,hc⟩:=H.at l hr;unfold OG at hl;split at hl
 ·rename_i z;cases hl;have A:C news=C g:=by simpa using i.2.1
  have E:C cs<=vs.size:=by
   apply vX;intro F;obtain⟨u,m,_⟩:=hc.2 (C cs-1) (by omega);have:=(AR.1 m).1;by_cases h0:vs.size<C cs
   ·obtain⟨u,m,_⟩:=hc.2 vs.size h0;have:=(AR.1 m).1;omega
   ·omega
  have o:=run_storeCells_at (P:=P) r.1 off T news 0 vs w n (by omega) (fun v f=>i.oneCell v (by simpa using f));simp only[Bv] at o;have p:∀ b,b ≠ r.1->(w.setRow r.1 (CN off vs.toList++news++R (off+C news) vs.toList).toArray).heap[b]? = w.heap[b]? := fun b hb=>Dp _ _ _ _ hb;refine⟨_,o,?_,Step.turn l hr rfl rfl rfl (by rw[Eg]) p⟩;refine H.turn l hr (by rw[Eg];exact Ay _) p ⟨_,T,setRow_heap w r.1 vs _ T (0,0) n,?_,?_,?_⟩
  ·simp only[CS,Ah,Db,C5,B3];omega
  ·intro x e;simp only[AK] at e;rcases e with (e | e) | e
   ·exact hc.1 x (BC e)
   ·exact i.1 x e
   ·exact hc.1 x (Cv e)
  ·intro j q;have d:=Qu cs g off j z;rw[Af q] at d;have t:C (vs.toList.take off)=off:=by simp;omega
   have k:j<C cs:=by simp at q;omega
   simp only[C3];by_cases h1:j<off
   ·rw[Ae h1] at d;obtain⟨u,hu,f⟩:=hc.2 j k;refine⟨u,?_,?_⟩
    ·rw[Ci,AO (by omega),B8 h1];simpa using hu
    ·rw[Af k] at d;rw[AY d];exact f
   ·rw[Al h1] at d;by_cases h2:j<off+C g
    ·rw[Ae h2] at d;have y:j-off<C g:=by omega
     rw[Af y] at d;obtain⟨u,hu,f⟩:=i.cr.2 (j-off) y;refine⟨u,?_,by rw[AY d];exact f⟩;rw[AO (by simp only[Ah];omega),A_ (by omega),t];simpa using hu
    ·rw[Al h2] at d;obtain⟨u,hu,f⟩:=hc.2 j k;refine⟨u,?_,?_⟩
     ·rw[A_ (by simp only[Ah];omega),D4];have B:off+C news+(j-C (vs.toList.take off++news))=j:=by simp only[Ah,t,A];omega
      rw[B];simpa using hu
     ·rw[Af k] at d;rw[AY d];exact f
 ·cases hl
theorem A6q{s:HS}(H:HR μ s.h w){t:TypeId}{n a off:Nat}{r:Nat × Nat}{cs b d:List HV}{v:Value}(f:∀ w,(sizeOf t).run P w = .ok n w)(g:s.h.get a=some (.c cs))(hr:μ a=some r)
  (e:JW μ b v.cells) (hn:C b=n) (hl:OG cs off b=some d) :
  ∃ w',(storeVar t ⟨r.1,off,none⟩ v).run P w = .ok () w'/\HR μ (s.h.set a (some (.c d))) w'/\Step μ s w μ ⟨s.h.set a (some (.c d)),s.nx,a::s.lg⟩ w':=by
 obtain⟨w',h1,h2,i⟩:=Ajy (P:=P) H g hr (news:=v.cells.toList) e hl;have j:v.cells.size=n:=by rw[e.2.1,hn]
 exact⟨w',by simp only[storeVar,Aj,f,W,j,ne_eq,not_true_eq_false,if_false];exact h1,h2,i⟩
def DP(μ:Mu)(a:Nat)(r:Nat × Nat):Mu:=fun b=>if b=a then some r else μ b
theorem mU{a:Nat}{r:Nat × Nat}(c:μ a=none):∀ b q,μ b=some q->DP μ a r b=some q:=by
 intro b q hb;unfold DP;split
 next e=>subst e;rw[c] at hb;cases hb
 ·exact hb
noncomputable def GS (s:HS) (o:HO):HS:=⟨s.h.set s.nx (some o),L8 s.nx,s.lg⟩
theorem Qt.new(s:HS)(o:HO):Qt s (GS s o) where
 nx:=Aqk _
 lg _ hb:=hb
 dom b x hb:=by
  simp only[GS,CA] at hb |-;split at hb
  next e=>subst e;exact .inr ⟨Ay _,FJ _⟩
  ·exact .inl ⟨_,hb⟩
 keep b _ hn:=by
  simp only[GS,CA] at hn |-;rw[Al fun e=>hn ⟨XP e.symm,by omega⟩]
 lgd _ hb := .inl hb
theorem MG{s:HS}(H:HR μ s.h w)(i:μ s.nx=none){x:Obj}(N:Nat){o:HO}(ho:∀ μ' w',(∀ b r,μ b=some r->μ' b=some r)->w'.heap[w.heap.size]? = some x->OR μ' w' (w.heap.size,N) o) :
  HR (DP μ s.nx (w.heap.size,N)) (GS s o).h (w.alloc x)/\Step μ s w (DP μ s.nx (w.heap.size,N)) (GS s o) (w.alloc x):=by
 have a:=mU (μ:=μ) (r:=(w.heap.size,N)) i;have j:(w.alloc x).heap[w.heap.size]? = some x:=by show (w.heap.push _)[w.heap.size]? = _;simp
 have hold:∀ r,r<w.heap.size->(w.alloc x).heap[r]? = w.heap[r]? := fun r hr=>FM _ _ _ hr;have k:(w.alloc x).heap.size=w.heap.size+1:=by show (w.heap.push _).size=_;simp
 refine⟨⟨?_,?_,?_⟩,⟨a,rfl,rfl,rfl,by omega,?_,fun r hr _=>hold r hr,?_⟩⟩
 ·intro b y hb;simp only[GS,CA] at hb;split at hb
  next e=>subst e;cases hb;exact⟨(w.heap.size,N),by simp[DP],ho _ _ a j⟩
  next e=>obtain⟨r,h1,h2⟩:=H.obj b y hb;exact⟨r,a _ _ h1,h2.same a (hold r.1 h2.lt)⟩
 ·intro b b' y l r r' hb c h1 h2 d;simp only[GS,CA] at hb c;unfold DP at h1 h2;split at h1
  ·rename_i f;split at h2
   next g=>rw[f,g]
   ·cases h1;have:=H.lt _ _ h2;simp only at d;omega
  ·rename_i f;split at h2
   ·cases h2;have:=H.lt _ _ h1;simp only at d;omega
   next g=>rw[Al f] at hb;rw[Al g] at c;exact H.inj _ _ _ _ _ _ hb c h1 h2 d
 ·intro b r hb;unfold DP at hb;split at hb
  ·cases hb;simp only;omega
  ·have:=H.lt _ _ hb;omega
 ·intro b r hb;unfold DP at hb;split at hb
  ·cases hb;exact .inr (.inr (Ay _))
  ·exact .inl hb
 ·intro b hb;unfold DP;rw[Al fun e=>hb ⟨XP e.symm,by simp[GS];omega⟩]
end
noncomputable def mV {α:Type} (l:List α) (n:Nat):Option α :=
 BZ (motive:=fun _=>Nat->Option α) (fun _=>none) (fun a _ b n=>HK (motive:=fun _=>Option α) (b (XG n)) (some a) (AKi n 0)) l n
theorem gH{α:Type}:∀ (l:List α) (n:Nat),mV l n=l[n]?
 | [],_=>rfl
 | _::_,0=>rfl
 | _::l,n+1=>gH l n
noncomputable def Ade {α:Type} (l:List α):Nat:=BZ (motive:=fun _=>Nat) 0 (fun _ _ a=>L8 a) l
theorem Up{α:Type}:∀ (l:List α),Ade l=C l
 | []=>rfl
 | _::l=>congrArg L8 (Up l)
noncomputable def uG {α:Type} (n:Nat):List α->Option (List α) :=
 Pj (motive:=fun _=>List α->Option (List α)) (fun _=>some []) (fun _ b l=>BZ (motive:=fun _=>Option (List α)) none (fun a t _=>bO (b t) fun r=>some (a::r)) l) n
theorem mW{α:Type}:∀ (n:Nat) (l:List α),uG n l=if n<=C l then some (l.take n) else none
 | 0,_=>rfl
 | _+1,[]=>rfl
 | n+1,a::l=>by
  show bO (uG n l) (fun r=>some (a::r))=_;rw[mW n l];by_cases h:n<=C l
  ·rw[Ae h,Ae (by simpa using h)];rfl
  ·rw[Al h,Al (by simpa using h)];rfl
noncomputable def Adf {α:Type} (n off:Nat):List α->Option (List α) :=
 Pj (motive:=fun _=>List α->Option (List α)) (fun l=>uG n l) (fun _ a l=>BZ (motive:=fun _=>Option (List α)) none (fun _ t _=>a t) l) off
theorem Uq{α:Type}(n:Nat):∀ (off:Nat) (l:List α),Adf n off l=if off+n<=C l then some ((l.drop off).take n) else none
 | 0,l=>by
  show uG n l=_;rw[mW];simp
 | off+1,[]=>by
  rw[Al (by simp)];rfl
 | off+1,_::l=>by
  show Adf n off l=_;rw[Uq n off l];by_cases h:off+n<=C l
  ·rw[Ae h,Ae (by simp;omega)];rfl
  ·rw[Al h,Al (by simp;omega)]
noncomputable def ovF {α:Type} (a:List α):List α->Option (List α) :=
 BZ (motive:=fun _=>List α->Option (List α)) (fun cs=>some cs) (fun y _ b cs=>BZ (motive:=fun _=>Option (List α)) none (fun _ t _=>bO (b t) fun r=>some (y::r)) cs) a
theorem Aom{α:Type}:∀ (a cs:List α),ovF a cs=if C a<=C cs then some (a++cs.drop (C a)) else none
 | [],cs=>by simp[ovF]
 | _::_,[]=>rfl
 | y::a,c::cs=>by
  show bO (ovF a cs) (fun r=>some (y::r))=_;rw[Aom a cs];by_cases h:C a<=C cs
  ·rw[Ae h,Ae (by simpa using h)];rfl
  ·rw[Al h,Al (by simpa using h)];rfl
noncomputable def gI {α:Type} (a:List α) (off:Nat):List α->Option (List α) :=
 Pj (motive:=fun _=>List α->Option (List α)) (fun cs=>ovF a cs) (fun _ b cs=>BZ (motive:=fun _=>Option (List α)) none (fun c t _=>bO (b t) fun r=>some (c::r)) cs) off
theorem Qv:∀ (a:List HV) (off:Nat) (cs:List HV),gI a off cs=OG cs off a
 | a,0,cs=>by
  show ovF a cs=_;rw[Aom,OG];simp
 | a,off+1,[]=>by
  rw[OG,Al (by simp)];rfl
 | a,off+1,c::cs=>by
  show bO (gI a off cs) (fun r=>some (c::r))=_;rw[Qv a off cs,OG,OG];by_cases h:off+C a<=C cs
  ·rw[Ae h,Ae (by simp;omega)];have:off+1+C a=(off+C a)+1:=by omega
   rw[this];rfl
  ·rw[Al h,Al (by simp;omega)];rfl
noncomputable def VJ (cs:List HV) (off n:Nat) (one:Bool):Option HV:=HK (motive:=fun _=>Option HV) (bO (Adf n off cs) fun a=>some (.g a)) (mV cs off) one
theorem Rs(cs:List HV)(off n:Nat)(one:Bool):VJ cs off n one=Qs cs off n one:=by
 cases one
 ·show bO (Adf n off cs) (fun a=>some (HV.g a))=_;rw[Uq n];simp only[Qs,AC,if_false];split <;> rfl
 ·show mV cs off=_;rw[gH];rfl
noncomputable section
abbrev RH:=Option (HV × HS)
abbrev BI:=HV->List HV->HS->RH
def asP{α:Type}(v:HV)(k:Nat->Nat->Option α):Option α:=HV.rec (motive_1:=fun _=>Option α) (motive_2:=fun _=>Unit) (fun _=>none) (fun _ _=>none) none none (fun a off=>k a off) none (fun _ _ _ _=>none) none (fun _=>none) (fun _ _ _ _ _=>none) (fun _=>none) (fun _=>none) (fun _ _=>none) (fun _ _=>none) () (fun _ _ _ _=>()) v
def asB{α:Type}(v:HV)(k:Bool->Option α):Option α:=HV.rec (motive_1:=fun _=>Option α) (motive_2:=fun _=>Unit) (fun x=>k x) (fun _ _=>none) none none (fun _ _=>none) none (fun _ _ _ _=>none) none (fun _=>none) (fun _ _ _ _ _=>none) (fun _=>none) (fun _=>none) (fun _ _=>none) (fun _ _=>none) () (fun _ _ _ _=>()) v
def asI{α:Type}(v:HV)(k:IntKind->Int->Option α)(d:Option α):Option α:=HV.rec (motive_1:=fun _=>Option α) (motive_2:=fun _=>Unit) (fun _=>d) (fun q n=>k q n) d d (fun _ _=>d) d (fun _ _ _ _=>d) d (fun _=>d) (fun _ _ _ _ _=>d) (fun _=>d) (fun _=>d) (fun _ _=>d) (fun _ _=>d) () (fun _ _ _ _=>()) v
def asN{α:Type}(v:HV)(k:Nat->Option α):Option α:=asI v (fun _ n=>A8j (motive:=fun _=>Option α) (fun m=>k m) (fun _=>none) n) none
def asT{α:Type}(v:HV)(k:List HV->Option α):Option α:=HV.rec (motive_1:=fun _=>Option α) (motive_2:=fun _=>Unit) (fun _=>none) (fun _ _=>none) none none (fun _ _=>none) none (fun _ _ _ _=>none) none (fun _=>none) (fun _ _ _ _ _=>none) (fun _=>none) (fun _=>none) (fun _ _=>none) (fun cs _=>k cs) () (fun _ _ _ _=>()) v
def asG{α:Type}(v:HV)(k:List HV->Option α)(d:Option α):Option α:=HV.rec (motive_1:=fun _=>Option α) (motive_2:=fun _=>Unit) (fun _=>d) (fun _ _=>d) d d (fun _ _=>d) d (fun _ _ _ _=>d) d (fun _=>d) (fun _ _ _ _ _=>d) (fun _=>d) (fun _=>d) (fun cs _=>k cs) (fun _ _=>d) () (fun _ _ _ _=>()) v
def asS{α:Type}(v:HV)(k:Nat->Nat->Nat->Cap->Option α):Option α:=HV.rec (motive_1:=fun _=>Option α) (motive_2:=fun _=>Unit) (fun _=>none) (fun _ _=>none) none none (fun _ _=>none) none (fun a off len cap=>k a off len cap) none (fun _=>none) (fun _ _ _ _ _=>none) (fun _=>none) (fun _=>none) (fun _ _=>none) (fun _ _=>none) () (fun _ _ _ _=>()) v
def gJ{α:Type}(o:Option HO)(k:List HV->Option α):Option α:=bO o fun o=>HO.rec (motive:=fun _=>Option α) (fun cs=>k cs) (fun _=>none) (fun _ _ _ _ _ _ _=>none) (fun _ _=>none) o
def A6r{α:Type}(o:Option HO)(k:ByteArray->Nat->Option α):Option α:=match o with | some (.it str pos)=>k str pos | _=>none
theorem gK{α:Type}{o:Option HO}{k:ByteArray->Nat->Option α}{x:α}(h:A6r o k=some x):∃ str pos,o=some (.it str pos)/\k str pos=some x:=by
 unfold A6r at h;split at h
 ·exact⟨_,_,rfl,h⟩
 ·cases h
def asM{α:Type}(o:Option HO)(k:List (HV × HV)->Option α):Option α:=match o with | some (.m es)=>k es | _=>none
def Cu{α:Type}(b:Bool)(k:Option α):Option α:=HK (motive:=fun _=>Option α) none k b
theorem HF{α:Type}{v:HV}{k:Nat->Nat->Option α}{x:α}(h:asP v k=some x):∃ a off,v = .p a off/\k a off=some x:=by
 cases v <;> first | exact⟨_,_,rfl,h⟩ | cases h
theorem Rt{α:Type}{v:HV}{k:Bool->Option α}{x:α}(h:asB v k=some x):∃ b,v = .b b/\k b=some x:=by
 cases v <;> first | exact⟨_,rfl,h⟩ | cases h
theorem HG{α:Type}{v:HV}{k:Nat->Option α}{x:α}(h:asN v k=some x):∃ (q:IntKind) (m:Nat),v = .i q (m:Int)/\k m=some x:=by
 cases v <;> try (cases h;done)
 rename_i q n;cases n with
 | ofNat m=>exact⟨q,m,rfl,h⟩
 | negSucc m=>cases h
theorem mX{α:Type}{v:HV}{k:List HV->Option α}{x:α}(h:asT v k=some x):∃ cs,v = .t cs/\k cs=some x:=by
 cases v <;> first | exact⟨_,rfl,h⟩ | cases h
theorem mY{α:Type}{v:HV}{k:List HV->Option α}{x:α}(h:asG v k none=some x):∃ cs,v = .g cs/\k cs=some x:=by
 cases v <;> first | exact⟨_,rfl,h⟩ | cases h
theorem mZ{α:Type}{v:HV}{k:Nat->Nat->Nat->Cap->Option α}{x:α}(h:asS v k=some x):∃ a off len cap,v = .s a off len cap/\k a off len cap=some x:=by
 cases v <;> first | exact⟨_,_,_,_,rfl,h⟩ | cases h
theorem E3{α:Type}{o:Option HO}{k:List HV->Option α}{x:α}(h:gJ o k=some x):∃ cs,o=some (.c cs)/\k cs=some x:=by
 obtain⟨o',rfl,h⟩:=BY h;cases o' <;> first | exact⟨_,rfl,h⟩ | cases h
theorem Ru{α:Type}{o:Option HO}{k:List (HV × HV)->Option α}{x:α}(h:asM o k=some x):∃ es,o=some (.m es)/\k es=some x:=by
 unfold asM at h;split at h
 ·exact⟨_,rfl,h⟩
 ·cases h
theorem AS{α:Type}{b:Bool}{k:Option α}{x:α}(h:Cu b k=some x):b=true/\k=some x:=by
 cases b
 ·cases h
 ·exact⟨rfl,h⟩
theorem bind_some{α β:Type}{o:Option α}{k:α->Option β}{x:β}(h:bO o k=some x):∃ v,o=some v/\k v=some x:=BY h
def Ur(v:HV)(n:Nat):Option (List HV):=asG v (fun cs=>Cu (AKi (Ade cs) n) (some cs)) (Cu (AKi n 1) (Cu v.one (some [v])))
theorem gL{v:HV}{n:Nat}{a:List HV}(h:Ur v n=some a):Mk v n=some a:=by
 by_cases b:∃ cs,v = .g cs
 ·obtain⟨cs,rfl⟩:=b;have h:Cu (AKi (Ade cs) n) (some cs)=some a:=h;obtain⟨h1,h2⟩:=AS h;have h1:=Ao h1;rw[Up] at h1;simp only[Mk,Ae h1];exact h2
 ·have e:Ur v n=Cu (AKi n 1) (Cu v.one (some [v])):=by
   cases v <;> first | rfl | exact absurd ⟨_,rfl⟩ b
  rw[e] at h;obtain⟨h1,h⟩:=AS h;obtain⟨h2,h⟩:=AS h;have h1:=Ao h1;subst h1;cases v <;> first | exact absurd ⟨_,rfl⟩ b | (cases h2;done) | exact h
def XH:Value->Option HV
 | .bool b=>some (.b b)
 | .int k n=>some (.i k n)
 | .pointer none=>some .pn
 | .slice none 0 0=>some .sn
 | .map none=>some .mn
 | .nilFunc=>some (.c .nilFunc)
 | .string s=>some (.c (.string s))
 | _=>none
def Ly:List Value->Option (List HV)
 | []=>some []
 | v::l=>bO (XH v) fun x=>bO (Ly l) fun xs=>some (x::xs)
def XI:Value->Option HV
 | .tuple vs=>if vs.size=0 then some .u else none
 | .agg vs=>(Ly vs.toList).map .g
 | v=>XH v
theorem gM{μ:Mu}{v:Value}{x:HV}(h:XH v=some x):VR μ x v/\x.one=true:=by
 unfold XH at h;split at h <;> cases h
 ·exact⟨.b _,rfl⟩
 ·exact⟨.i _ _,rfl⟩
 ·exact⟨.pn,rfl⟩
 ·exact⟨.sn,rfl⟩
 ·exact⟨.mn,rfl⟩
 ·exact⟨.c _ ⟨rfl,rfl⟩,rfl⟩
 ·exact⟨.c _ ⟨rfl,rfl⟩,rfl⟩
theorem WD{μ:Mu}:∀ {l:List Value} {xs:List HV},Ly l=some xs->C l=C xs/\(∀ x∈xs,HV.one x=true)/\∀ (j:Nat) (h1:j<C xs) (h2:j<C l),VR μ xs[j] l[j]
 | [],xs,h=>by
  simp only[Ly,Ac] at h;subst h;exact⟨rfl,fun x b=>(by cases b),fun j h1=>(by simp at h1)⟩
 | v::l,xs,h=>by
  simp only[Ly] at h;obtain⟨x,h1,h⟩:=bind_some h;obtain⟨m,h2,h⟩:=bind_some h;cases h;obtain⟨c,d⟩:=gM (μ:=μ) h1;obtain⟨e,f,g⟩:=WD (μ:=μ) h2;refine⟨by simp[e],fun y a => ?_,fun j i k => ?_⟩
  ·rcases Aw.1 a with rfl | a
   ·exact d
   ·exact f y a
  ·cases j with
   | zero=>exact c
   | succ j=>exact g j (by simpa using i) (by simpa using k)
theorem Us{μ:Mu}{vs:Array Value}{xs:List HV}(h:Ly vs.toList=some xs):JW μ xs vs:=by
 obtain⟨a,b,c⟩:=WD (μ:=μ) h;exact⟨b,by simpa using a,fun j h1 h2=>by
  have:=c j h1 (by simpa using h2);rwa [Adg] at this⟩
theorem gN{μ:Mu}{v:Value}{x:HV}(h:XI v=some x):VR μ x v:=by
 unfold XI at h;split at h
 ·rename_i vs;split at h
  next hs=>cases h;have:vs=#[]:=Array.eq_empty_of_size_eq_zero hs;subst this;exact .u
  ·cases h
 next vs=>simp only[S] at h;obtain⟨xs,h,rfl⟩:=h;obtain⟨a,b,c⟩:=Us (μ:=μ) h;exact .g xs vs a b c
 ·exact (gM h).1
def D3(ρ:En)(x:Operand):Option HV:=Operand.rec (motive:=fun _=>Option HV) (fun t=>ρ.get t) (fun v=>XI v) (fun _=>none) (fun f=>some (.f f [] [])) x
def R'(ρ:En)(l:List Operand):Option (List HV):=BZ (motive:=fun _=>Option (List HV)) (some []) (fun x _ a=>bO (D3 ρ x) fun y=>bO a fun b=>some (y::b)) l
theorem Ajz(ρ:En)(x:Operand)(l:List Operand):R' ρ (x::l)=bO (D3 ρ x) fun y=>bO (R' ρ l) fun a=>some (y::a):=rfl
section
variable {μ:Mu} {n:Nat} {ρ:En} {a:Act}
theorem Cy(F:FR μ n ρ a.tmps){x:Operand}{y:HV}(h:D3 ρ x=some y):VR μ y (a.eval x):=by
 cases x with
 | tmp t=>exact F.2 t y h
 | const v=>exact gN h
 | func f =>
  cases h;exact .f f [] [] #[] #[] rfl rfl (fun j h1=>(by simp at h1)) (fun j h1=>(by simp at h1))
 | global g=>cases h
theorem Adh(F:FR μ n ρ a.tmps):∀ {l:List Operand} {b:List HV},R' ρ l=some b->C l=C b/\∀ (j:Nat) (h1:j<C b) (h2:j<C l),VR μ b[j] (a.eval l[j])
 | [],b,h=>by
  cases h;exact⟨rfl,fun j h1=>(by simp at h1)⟩
 | x::l,b,h=>by
  rw[Ajz] at h;obtain⟨y,h1,h⟩:=bind_some h;obtain⟨zs,h2,h⟩:=bind_some h;cases h;obtain⟨c,d⟩:=Adh F h2;refine⟨by simp[c],fun j e f => ?_⟩;cases j with
  | zero=>exact Cy F h1
  | succ j=>exact d j (by simpa using e) (by simpa using f)
theorem Rv(F:FR μ n ρ a.tmps){xs:Array Operand}{b:List HV}(c:R' ρ xs.toList=some b):(xs.map a.eval).size=C b/\∀ (j:Nat) (h1:j<C b) (h2:j<(xs.map a.eval).size),VR μ b[j] (xs.map a.eval)[j]:=by
 obtain⟨d,e⟩:=Adh F c;refine⟨by simpa using d,fun j h1 h2 => ?_⟩;have:=e j h1 (by simpa using h2);rw[O3];rwa [Adg] at this
end
def Ut(P:Program)(t:TypeId):Option (Nat × Bool) :=
 match P.underlying t,P.info? t with
 | some d,some i=>some (i.size,!(nT d))
 | _,_=>none
theorem Rx{P:Program}{t:TypeId}{n:Nat}{one:Bool}(h:Ut P t=some (n,one)):G7 P t n one=true:=by
 unfold Ut at h;unfold G7;split at h
 next d i h1 h2=>cases h;simp[h1,h2]
 ·cases h
def uH(P:Program)(t:TypeId):Option (List HV) :=
 match P.info? t with
 | some i=>match i.zero with
  | some v=>Ly v.cells.toList
  | none=>none
 | none=>none
theorem Ry{P:Program}{t:TypeId}{z:List HV}(h:uH P t=some z):∃ i v,P.info? t=some i/\i.zero=some v/\(∀ w,(zeroValue t).run P w = .ok v w)/\∀ μ,JW μ z v.cells:=by
 unfold uH at h;split at h
 ·rename_i i hi;split at h
  next v a=>exact⟨i,v,hi,a,fun w=>by simp[zeroValue,typeInfo,program,Cl,hi,a],fun μ=>Us h⟩
  ·cases h
 ·cases h
def foP(P:Program)(s:TypeId)(i:Nat):Option (Nat × TypeId) :=
 match P.underlying s with
 | some (.struct fs)=>match fs[i]? with
  | some f=>some (f.offset,f.type)
  | none=>none
 | _=>none
theorem Aon{P:Program}{s:TypeId}{i o:Nat}{t:TypeId}(h:foP P s i=some (o,t)):∃ fs f,P.underlying s=some (.struct fs)/\fs[i]? = some f/\f.offset=o/\f.type=t:=by
 unfold foP at h;split at h
 ·rename_i fs a;split at h
  next f hf=>cases h;exact⟨fs,f,a,hf,rfl,rfl⟩
  ·cases h
 ·cases h
def kH(P:Program)(t:TypeId):Option (TypeId × Nat × Nat) :=
 match P.underlying t with
 | some (.slice e)=>match P.info? e with
  | some i=>some (e,i.size,i.bytes)
  | none=>none
 | _=>none
theorem KB{P:Program}{t:TypeId}{e:TypeId}{k b:Nat}(h:kH P t=some (e,k,b)):∃ i,P.underlying t=some (.slice e)/\P.info? e=some i/\i.size=k/\i.bytes=b:=by
 unfold kH at h;split at h
 ·rename_i c a;split at h
  next i hi=>cases h;exact⟨i,a,hi,rfl,rfl⟩
  ·cases h
 ·cases h
theorem E'{P:Program}{e:TypeId}{i:TypeInfo}(hi:P.info? e=some i)(w:World):(sizeOf e).run P w = .ok i.size w:=by simp [sizeOf,typeInfo,program,Cl,hi]
def E1(P:Program)(o:Oper)(a:Act)(μ:Mu)(w:World)(s s':HS)(x:HV):Prop :=
 ∃ v μ' w',((execOp a.eval o).run P w = .ok (.value v) w'\/((execOp a.eval o).run P w = .ok .skip w'/\v=A9))/\HR μ' s'.h w'/\Step μ s w μ' s' w'/\VR μ' x v
section
variable {P:Program} {o:Oper} {a:Act} {μ:Mu} {w:World} {s:HS} {n:Nat} {ρ:En}
theorem Br(H:HR μ s.h w){v:Value}{x:HV}(b:(execOp a.eval o).run P w = .ok (.value v) w)(c:VR μ x v):E1 P o a μ w s s x:=⟨v,μ,w,.inl b,H,Step.refl _ _ _,c⟩
theorem WE(H:HR μ s.h w)(F:FR μ n ρ a.tmps){x:Operand}{y:HV}(b:o.op = .move x\/o.op = .assign x)(c:D3 ρ x=some y):E1 P o a μ w s s y:=by
 rcases b with e | e <;> exact Br H (v:=a.eval x) (by simp[execOp,e]) (Cy F c)
theorem Adi(H:HR μ s.h w)(F:FR μ n ρ a.tmps){c x y:Operand}{b:Bool}{z:HV}(d:o.op = .pick c x y)(hc:D3 ρ c=some (.b b))(e:D3 ρ (DO b x y)=some z):E1 P o a μ w s s z:=by
 have h1:=Cy F hc;generalize f:a.eval c=cv at h1;cases h1;have h2:=Cy F e;refine Br H (v:=a.eval (DO b x y)) ?_ h2;cases b <;> simp[execOp,d,f,asBool]
theorem uI(H:HR μ s.h w){t:TypeId}{z:List HV}(b:o.op = .alloc t)(d:uH P t=some z)(e:μ s.nx=none):E1 P o a μ w s (GS s (.c z)) (.p s.nx 0):=by
 obtain⟨i,v,_,_,f,hc⟩:=Ry d;obtain⟨h1,h2⟩:=MG H e (x := .cells v.cells t) v.cells.size (o := .c z) fun μ' w' _ g=>⟨v.cells,t,g,rfl,(hc μ').cr⟩;exact⟨_,_,_,.inl (by simp[execOp,b,Instr.alloc,f,newVar,newRow]),h1,h2,.p (r:=(w.heap.size,v.cells.size)) (by simp[DP])⟩
def Ny:HV->Option (List HV)
 | .g cs=>some cs
 | x=>Cu x.one (some [x])
theorem uJ{x:HV}{v:Value}{a:List HV}(b:VR μ x v)(hc:Ny x=some a):JW μ a v.cells:=by
 cases x with
 | g cs =>
  simp only[Ny,Ac] at hc;subst hc;exact (Ot (n:=C cs) b (by simp[Mk])).2
 | u=>cases hc
 | t _=>cases hc
 | _ =>
  simp only[Ny,HV.one,Cu,Ac] at hc;subst hc;exact (Ot (n:=1) b (by simp[Mk,HV.one])).2
theorem Aka(H:HR μ s.h w)(F:FR μ n ρ a.tmps){t:TypeId}{x:Operand}{y:HV}{z:List HV}(b:o.op = .box t x)(d:D3 ρ x=some y)(e:Ny y=some z)(f:μ s.nx=none) :
  E1 P o a μ w s (GS s (.c z)) (.p s.nx 0):=by
 have hc:=uJ (Cy F d) e;obtain⟨h1,h2⟩:=MG H f (x := .cells (a.eval x).cells t) (a.eval x).cells.size (o := .c z) fun μ' w' g i=>⟨_,t,i,rfl,(hc.mono g).cr⟩;exact⟨_,_,_,.inl (by simp[execOp,b,AFq,newVar,newRow]),h1,h2,.p (r:=(w.heap.size,(a.eval x).cells.size)) (by simp[DP])⟩
theorem A6s{cs e h:List HV}{cells a:Array Value}{off:Nat}(hc:JW μ cs cells)(g:JW μ e a)(hl:OG cs off e=some h) :
  JW μ h (a.zipIdx.foldl (fun (cs:Array Value) (p:Value × Nat)=>cs.setIfInBounds (off+p.2) p.1) cells):=by
 unfold OG at hl;split at hl
 ·rename_i m;cases hl;have n:a.zipIdx.foldl (fun (cs:Array Value) (p:Value × Nat)=>cs.setIfInBounds (off+p.2) p.1) cells=(a.toList.zipIdx 0).foldl (fun (cs:Array Value) (p:Value × Nat)=>cs.setIfInBounds (off+p.2) p.1) cells:=by
   rw[<- Si,ACc]
  rw[n];have o:=Yd off (a.toList.zipIdx 0) cells;have q:=hc.2.1;have r:=g.2.1;refine⟨fun x b => ?_,by rw[o,q];simp;omega,fun i h1 h2 => ?_⟩
  ·simp only[AK] at b;rcases b with (b | b) | b
   ·exact hc.1 x (BC b)
   ·exact g.1 x b
   ·exact hc.1 x (Cv b)
  ·have c:=Yc off a.toList 0 cells i;have d:=Qu cs e off i m;rw[Af h1] at d;rw[AE h2] at c;have hin:i<cells.size:=by omega
   simp only[Bv,B3] at c;by_cases j:off<=i/\i<off+a.size
   ·rw[Ae ⟨j.1,j.2,hin⟩] at c;rw[Al (by omega),Ae (by omega)] at d;have f:i-off<C e:=by omega
    rw[Af f] at d;have hu:a.toList[i-off]? = some (a[i-off]'(by omega)):=by simp
    rw[hu] at c;rw[AY c,AY d];exact g.2.2 _ f _
   ·rw[Al (by omega)] at c;have f:i<C cs:=by omega
    have k:cs[i]? = some ((cs.take off++e++cs.drop (off+C e))[i]):=by
     by_cases l:i<off
     ·rw[Ae l] at d;exact d.symm
     ·rw[Al l,Al (by omega)] at d;exact d.symm
    rw[Af f] at k;rw[AE hin] at c;rw[<- AY k,AY c];exact hc.2.2 _ f _
 ·cases hl
def VK(ρ:En)(a:Nat->Option (Nat × Nat))(cs:List HV)(ps:List (Nat × Operand)):Option (List HV) :=
 BZ (motive:=fun _=>List HV->Option (List HV)) (fun cs=>some cs) (fun p _ b cs=>bO (a p.1) fun q=>bO (D3 ρ p.2) fun y=>bO (Ur y q.2) fun c=>bO (gI c q.1 cs) fun d=>b d) ps cs
theorem Adj(ρ:En)(a:Nat->Option (Nat × Nat))(cs:List HV)(p:Nat × Operand)(ps:List (Nat × Operand)) :
  VK ρ a cs (p::ps)=bO (a p.1) fun q=>bO (D3 ρ p.2) fun y=>bO (Ur y q.2) fun b=>bO (gI b q.1 cs) fun c=>VK ρ a c ps:=rfl
theorem Rz(F:FR μ n ρ a.tmps){e:Nat->Option (Nat × Nat)}:∀ {ps:List (Nat × Operand)} {cells:Array Value} {cs b:List HV},JW μ cs cells->VK ρ e cs ps=some b ->
   ∃ c,DH e cells (ps.map fun p=>(p.1,a.eval p.2))=some c/\JW μ b c
 | [],cells,cs,b,hc,hf=>by
  cases hf;exact⟨cells,rfl,hc⟩
 | (i,x)::ps,cells,cs,b,hc,hf=>by
  rw[Adj] at hf;obtain⟨⟨off,k⟩,h,hf⟩:=bind_some hf;obtain⟨y,ho,hf⟩:=bind_some hf;obtain⟨f,d,hf⟩:=bind_some hf;obtain⟨o,hl,hf⟩:=bind_some hf;have d:=gL d;rw[Qv] at hl;obtain⟨hn,g⟩:=Ot (Cy F ho) d;obtain⟨c,j,l⟩:=Rz F (A6s hc g hl) hf;refine⟨c,?_,l⟩;simp only[Bg,DH,h];have q:off+C f<=C cs:=by
   unfold OG at hl;split at hl
   ·assumption
   ·cases hl
  have r:=hc.2.1;have s:(a.eval x).cells.size=C f:=g.2.1;simp only at hn;have m:((a.eval x).cells.size ≠ k || off+(a.eval x).cells.size>cells.size)=false:=by
   simp only[ne_eq,nM,J6,Avg,gt_iff_lt,Nat.not_lt];omega
  rw[Al (by rw[m];simp)];exact j
section
variable(P:Program)(fs:Array Field)
def A6t:Bool:=fs.all fun f=>(P.info? f.type).isSome
def Akb(i:Nat):Option (Nat × Nat):=match fs[i]? with | some f=>some (f.offset,P.cellsOf f.type) | none=>none
end
def uK(P:Program)(ρ:En)(t:TypeId)(ps:List (Nat × Operand)):Option HV :=
 match P.underlying t with
 | some (.struct fs)=>Cu (A6t P fs) (bO (uH P t) fun z=>(VK ρ (Akb P fs) z ps).map .g)
 | some (.array _ e)=>Cu (P.info? e).isSome (bO (uH P t) fun z=>(VK ρ (fun i=>some (i*P.cellsOf e,P.cellsOf e)) z ps).map .g)
 | _=>none
theorem uL(H:HR μ s.h w)(F:FR μ n ρ a.tmps){t:TypeId}{ps:Array (Nat × Operand)}{y:HV}(x:o.op = .build t ps)(b:uK P ρ t ps.toList=some y):E1 P o a μ w s s y:=by
 unfold uK at b;split at b
 ·rename_i fs j;obtain⟨k,b⟩:=AS b;obtain⟨z,l,b⟩:=bind_some b;simp only[S] at b;obtain⟨cs,hf,rfl⟩:=b;obtain⟨_,v,_,_,q,hc⟩:=Ry l;obtain⟨c,r,d⟩:=Rz F (hc μ) hf;have A:(fun i=>(fs.map fun f=>(f.offset,P.cellsOf f.type))[i]?)=Akb P fs:=by
   funext i;simp only[Akb,Array.getElem?_map];cases fs[i]? <;> rfl
  have u:DH (fun i=>(fs.map fun f=>(f.offset,P.cellsOf f.type))[i]?) v.cells (ps.map fun p=>(p.1,a.eval p.2)).toList=some c:=by rw[CO,A];exact r
  refine Br H (v := .agg c) ?_ (.g cs c d.1 d.2.1 d.2.2);simp only[execOp,x,J3,Aj,q,W,run_underlying j,NH k,u,An]
 ·rename_i m e j;obtain⟨k,b⟩:=AS b;obtain⟨z,l,b⟩:=bind_some b;simp only[S] at b;obtain⟨cs,hf,rfl⟩:=b;obtain⟨D,B⟩:=A7.1 k;have C:(sizeOf e).run P w = .ok (P.cellsOf e) w:=by simp[sizeOf,typeInfo,program,Cl,B,IH]
  obtain⟨_,v,_,_,q,hc⟩:=Ry l;obtain⟨c,r,d⟩:=Rz F (hc μ) hf;have u:DH (fun i=>some (i*P.cellsOf e,P.cellsOf e)) v.cells (ps.map fun p=>(p.1,a.eval p.2)).toList=some c:=by rw[CO];exact r
  refine Br H (v := .agg c) ?_ (.g cs c d.1 d.2.1 d.2.2);simp only[execOp,x,J3,Aj,q,W,run_underlying j,C,u,An]
 ·cases b
def Nz(z:List HV):Nat->List HV
 | 0=>[]
 | m+1=>z++Nz z m
section
variable(z:List HV)(m:Nat)
theorem Ou:C (Nz z m)=m*C z:=by
 induction m with
 | zero=>simp[Nz]
 | succ m a=>simp only[Nz,Ah,a,OL];omega
theorem Aum:∀ i,i<m*C z->(Nz z m)[i]? = z[i % C z]? := by
 induction m with
 | zero=>intro i h;omega
 | succ m a =>
  intro i h;rw[OL] at h;simp only[Nz];by_cases hi:i<C z
  ·rw[AO hi,Io hi]
  ·rw[A_ (by omega),a _ (by omega)];congr 1;exact (Nat.mod_eq_sub_mod (by omega)).symm
theorem Aun:∀ x∈Nz z m,x∈z:=by
 induction m with
 | zero=>intro x h;cases h
 | succ m a =>
  intro x h;simp only[Nz,AK] at h;exact h.elim id (a x)
end
theorem nA{z:List HV}{a:Array Value}{m k:Nat}(h:JW μ z a)(d:a.size=k):JW μ (Nz z m) ((FK (m*k)).map (a[· % a.size]!)):=by
 have hl:C z=k:=by rw[<- d];exact h.2.1.symm
 refine⟨fun x f=>h.1 x (Aun z m x f),by rw[Ou,hl];simp,fun j h1 h2 => ?_⟩;rw[Ou] at h1;have c:=Aum z m j h1;have b:j % C z<C z:=Nat.mod_lt _ (by
  rcases LD (C z) with e | e
  ·rw[e] at h1;omega
  ·exact e)
 rw[Af (by rw[Ou];exact h1),Af b] at c;rw[AY c];have:=h.2.2 (j % C z) b (by rw[h.2.1];exact b);have g:((FK (m*k)).map (a[· % a.size]!))[j]=a[j % C z]'(by rw[h.2.1];exact b):=by
  simp only[O3,V',h.2.1];exact getElem!_pos a _ _
 rw[g];exact this
def Ov(P:Program)(ρ:En)(t:TypeId)(m:Nat)(ps:List (Nat × Operand)):Option (List HV) :=
 bO (kH P t) fun q=>DO (AKi m 0) (match ps with | []=>some [] | _=>none) <| Cu (Dq 1 q.2.1&&Dq 1 m&&Dq (m*q.2.1) 16777216) <| bO (uH P q.1) fun z=>Cu (AKi (C z) q.2.1) <| VK ρ (fun i=>some (i*q.2.1,q.2.1)) (Nz z m) ps
theorem Uu(H:HR μ s.h w)(F:FR μ n ρ a.tmps){t:TypeId}{m:Nat}{ps:Array (Nat × Operand)}{cs:List HV}(y:o.op = .buildSlice t m ps)(d:Ov P ρ t m ps.toList=some cs)(A:μ s.nx=none) :
  E1 P o a μ w s (GS s (.c cs)) (.s s.nx 0 m (.k m)):=by
 unfold Ov at d;obtain⟨⟨e,k,b⟩,B,d⟩:=bind_some d;cases f:AKi m 0;rotate_left
 ·rw[f] at d;have f:=Ao f;subst f;simp only[cnd_true] at d;split at d
  ·rename_i q;cases d;obtain⟨i,hu,hi,C,hb⟩:=KB B;have q:ps=#[]:=by cases ps;simp at q;rw[q]
   subst q;obtain⟨h1,h2⟩:=MG H A (x := .cells #[] e) 0 (o := .c []) fun μ' w' D u=>⟨#[],e,u,rfl,fun x G=>(by cases G),fun j I=>(by simp at I)⟩;refine⟨.slice (some ⟨w.heap.size,0,none⟩) 0 0,_,_,.inl ?_,h1,h2,.s (r:=(w.heap.size,0)) (by simp[DP]) (Ay _) rfl⟩;simp[execOp,y,HX,run_underlying hu,E' hi,DH,newRow,Array.range_zero']
  ·cases d
 rw[f] at d;obtain⟨g,d⟩:=AS d;obtain⟨z,E,d⟩:=bind_some d;obtain⟨hl,d⟩:=AS d;simp only[U,JM] at g;have hl:=Ao hl;simp only at hl d g E;obtain⟨i,hu,hi,C,hb⟩:=KB B;obtain⟨_,v,_,_,J,hc⟩:=Ry E;have K:v.cells.size=k:=by rw[(hc μ).2.1,hl]
 obtain⟨l,L,M⟩:=Rz F (nA (m:=m) (hc μ) K) d;have N:DH (fun i=>some (i*k,k)) ((FK (m*k)).map (v.cells[· % v.cells.size]!)) (ps.map fun p=>(p.1,a.eval p.2)).toList=some l:=by rw[CO];exact L
 obtain⟨h1,h2⟩:=MG H A (x := .cells l e) l.size (o := .c cs) fun μ' w' D u=>⟨l,e,u,rfl,(M.mono D).cr⟩;refine⟨.slice (some ⟨w.heap.size,0,none⟩) m m,_,_,.inl ?_,h1,h2,.s (r:=(w.heap.size,l.size)) (by simp[DP]) (Ay _) rfl⟩;have O:¬ (m*k>2^24):=by have:=g.2;omega
 have Q:¬ (m*k=0):=by
  have:=A8i g.1.2 g.1.1;omega
 simp only[execOp,y,HX,Aj,run_underlying hu,W,E' hi,C,Al O,Al Q,J,An,N,newRow];rfl
theorem Adk(H:HR μ s.h w)(F:FR μ n ρ a.tmps){t:TypeId}{x:Operand}{id off k:Nat}{one:Bool}{cs:List HV}{y:HV}(b:o.op = .load t x)(d:D3 ρ x=some (.p id off))(hs:Ut P t=some (k,one))
  (e:s.h.get id=some (.c cs)) (f:Qs cs off k one=some y):E1 P o a μ w s s y:=by
 have h1:=Cy F d;generalize g:a.eval x=v at h1;cases h1;rename_i r hr;obtain⟨u,h2,i⟩:=Aol H (Rx hs) e hr f;exact Br H (v:=u) (by simp only[execOp,b,Hg,g,BQ,Aj,An,W,h2]) i
def IE(s:HS)(a:Nat)(o:HO):HS:=⟨s.h.set a (some o),s.nx,a::s.lg⟩
theorem uM(H:HR μ s.h w)(F:FR μ n ρ a.tmps){t:TypeId}{x y:Operand}{id off k:Nat}{one:Bool}{cs b d:List HV}{z:HV}(e:o.op = .store t x y)(f:D3 ρ x=some (.p id off))(g:D3 ρ y=some z)
  (hs:Ut P t=some (k,one)) (i:s.h.get id=some (.c cs)) (j:Mk z k=some b) (hl:OG cs off b=some d):E1 P o a μ w s (IE s id (.c d)) .u:=by
 have h1:=Cy F f;generalize l:a.eval x=v at h1;cases h1;rename_i r hr;obtain⟨hn,hc⟩:=Ot (Cy F g) j;obtain⟨w',h2,m,q⟩:=A6q H (E6 (Rx hs)).2 i hr hc hn hl;exact⟨_,μ,w',.inr ⟨by simp only[execOp,e,G0,l,BQ,Aj,An,W,h2],rfl⟩,m,q,.u⟩
theorem VL(H:HR μ s.h w)(F:FR μ n ρ a.tmps){t b:TypeId}{x:Operand}{f id off c k:Nat}{one:Bool}(d:o.op = .fieldAddr t x f)(g:D3 ρ x=some (.p id off))(hf:foP P t f=some (c,b))(i:Ut P b=some (k,one))(hn:AKi k 0=false) :
  E1 P o a μ w s s (.p id (off+c)):=by
 have h1:=Cy F g;generalize j:a.eval x=v at h1;cases h1;rename_i r hr;obtain⟨fs,fl,l,m,rfl,rfl⟩:=Aon hf;have q:=(E6 (Rx i)).2;have hn:¬ k=0:=fun e=>by rw[e] at hn;cases hn
 refine Br H (v := .pointer (some ⟨r.1,off+fl.offset,none⟩)) ?_ (.p hr);simp only[execOp,d,Instr.fieldAt,Aj,run_underlying l,W,m,j,BQ,An,fieldPlace,q,hn,if_false,Du]
theorem VM(H:HR μ s.h w)(F:FR μ n ρ a.tmps){t e:TypeId}{x y:Operand}{id off len k b:Nat}{cap:Cap}{q:IntKind}{j:Nat}(f:o.op = .indexAddr t x y)(g:D3 ρ x=some (.s id off len cap))(l:D3 ρ y=some (.i q j))
  (m:kH P t=some (e,k,b)) (d:Ks j len=true):E1 P o a μ w s s (.p id (off+j*k)):=by
 have h1:=Cy F g;have h2:=Cy F l;generalize z:a.eval x=v at h1;generalize hu:a.eval y=u at h2;cases h1;cases h2;rename_i c r hr hl hc;obtain⟨i,A,hi,rfl,_⟩:=KB m;have d:(0:Int)<=(j:Int)/\(j:Int)<(len:Int):=by rw[KD] at d;omega
 refine Br H (v := .pointer (some ⟨r.1,off+j*i.size,none⟩)) ?_ (.p hr);simp only[execOp,f,N7,z,hu,Aj,run_underlying A,W,An,asIntOf,Ae d,E' hi,Du,Aq]
def A6u:HV->Bool
 | .p _ _=>true
 | .f _ _ _=>true
 | .m _=>true
 | _=>false
theorem Xl(H:HR μ s.h w)(F:FR μ n ρ a.tmps){x:Operand}{y:HV}(b:o.op = .nilCheck x)(c:D3 ρ x=some y)(d:A6u y=true):E1 P o a μ w s s y:=by
 have h1:=Cy F c;generalize e:a.eval x=v at h1;refine Br H (v:=v) ?_ h1;cases h1 <;> first | (simp[execOp,b,e];done) | cases d
theorem gQ(H:HR μ s.h w)(F:FR μ n ρ a.tmps){x:Operand}{i:Nat}{cs:List HV}{y:HV}(b:o.op = .extract x i)(c:D3 ρ x=some (.t cs))(d:cs[i]? = some y):E1 P o a μ w s s y:=by
 have h1:=Cy F c;generalize e:a.eval x=v at h1;obtain⟨hi,f⟩:=Az.1 d;cases h1 with
 | t _ vs hs hr =>
  refine Br H (v:=vs[i]'(by omega)) ?_ (f ▸ hr i hi (by omega));have:vs[i]? = some (vs[i]'(by omega)):=AE _;simp[execOp,b,Instr.extract,e,this]
theorem Tk{t:TypeId}{k off:Nat}{one:Bool}{cs:List HV}{vs:Array Value}{y:HV}(hc:JW μ cs vs)(hs:Ut P t=some (k,one))(a:Qs cs off k one=some y):∃ v,(part t vs off).run P w = .ok v w/\VR μ y v:=by
 obtain⟨h1,h2⟩:=E6 (Rx hs);unfold Qs at a;cases one with
 | true =>
  simp only[if_true] at a;obtain⟨c,b⟩:=Az.1 a;have d:off<vs.size:=by rw[hc.2.1];exact c
  refine⟨vs[off],?_,b ▸ hc.2.2 off c d⟩;simp[part,h1,AE d]
 | false =>
  simp only[AC,if_false] at a;split at a
  ·rename_i e;cases a;have h:off+k<=vs.size:=by rw[hc.2.1];exact e
   refine⟨.agg (vs.extract off (off+k)),?_,.g _ _ ?_ (by simp;omega) (fun i f j => ?_)⟩
   ·simp[part,h1,h2]
   ·intro x b;exact hc.1 x (Cv (BC b))
   ·have hi:i<k:=by simp at f;omega
    have:=hc.2.2 (off+i) (by omega) (by omega);simpa using this
  ·cases a
theorem AFf{cs:List HV}{v:Value}(h:VR μ (.g cs) v):∃ vs,v = .agg vs/\JW μ cs vs:=by
 cases h with
 | g _ vs ho hs hr=>exact⟨vs,rfl,ho,hs,hr⟩
theorem uN(H:HR μ s.h w)(F:FR μ n ρ a.tmps){t b:TypeId}{x:Operand}{f c k:Nat}{one:Bool}{cs:List HV}{y:HV}(d:o.op = .field t x f)(e:D3 ρ x=some (.g cs))(hf:foP P t f=some (c,b))(i:Ut P b=some (k,one))
  (j:Qs cs c k one=some y):E1 P o a μ w s s y:=by
 obtain⟨vs,l,hc⟩:=AFf (Cy F e);obtain⟨fs,fl,m,p,rfl,rfl⟩:=Aon hf;obtain⟨v,h1,h2⟩:=Tk (P:=P) (w:=w) hc i j;refine Br H (v:=v) ?_ h2;simp only[execOp,d,Instr.field,l,Aj,run_underlying m,W,p,asAgg,h1,An]
end
end
end Go.Hp
