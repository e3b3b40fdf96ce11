/- Texts of the proof of ContactPlaces: part 8 of 17. -/
import Derived.Test.YtenfgdobfjofkaaGreatCpl7
namespace Go.Proofs.YtenfgdobfjofkaaGreat
open Go.Ai
set_option maxRecDepth 100000
theorem Apq{F:Bf}{n:Nat}{m:Int}:B1 F (n+20) Vr.body (CX Vr [.int .i64 m])=none\/m=1\/m=2\/m=3:=by
 by_cases h1:m=1
 ·exact .inr (.inl h1)
 by_cases h2:m=2
 ·exact .inr (.inr (.inl h2))
 by_cases a:m=3
 ·exact .inr (.inr (.inr a))
 refine .inl ?_;have b:=beq_false_of_ne h1;have c:=beq_false_of_ne h2;have d:=beq_false_of_ne a;simp[Vr,CX,B1,Cx,Dz,Gi,kill,wY,Eb,OC,o1,A2,Opd.av,Opd.reg,Ag,J7,U2,GT,b,c,d,J8,BD,AE]
theorem Aff{F:Bf}{n:Nat}{a x:AV}(h:(match B1 F n Vr.body (CX Vr [a]) with
   | some (.exit _,_)=>none
   | some (_,s)=>EY s Vr.res
   | none=>none)=some x):(a = .int .i64 1/\x = .str ⟨#[49]⟩)\/(a = .int .i64 2/\x = .str ⟨#[50]⟩)\/(a = .int .i64 3/\x = .str ⟨#[51]⟩):=by
 cases hr:B1 F n Vr.body (CX Vr [a]) with
 | none=>rw[hr] at h;cases h
 | some r =>
  have h2:=EP (fun _ _ _ h=>h:Le F F) (Nat.le_add_right n 20) hr;rw[hr] at h;cases a with
  | int k m =>
   cases k <;> try (cases h2;done)
   rcases Apq (F:=F) (n:=n) (m:=m) with e | rfl | rfl | rfl
   ·rw[e] at h2;cases h2
   ·cases h2;cases h;exact .inl ⟨rfl,rfl⟩
   ·cases h2;cases h;exact .inr (.inl ⟨rfl,rfl⟩)
   ·cases h2;cases h;exact .inr (.inr ⟨rfl,rfl⟩)
  | _=>cases h2
end Go.Proofs.YtenfgdobfjofkaaGreat
namespace Go.Hp
open Go.Ai Go.RowKit
open _root_.Array renaming foldl_toList->PK,getElem?_eq_getElem->A4,getElem?_eq_some_iff->A8,getElem_map->M6,getElem_range->SS,getElem_toList->pC,length_toList->Bt,range->ES,toList_map->CW,toList_zipIdx->Aui
open Bool renaming and_eq_true->U,false_eq_true->AC,or_eq_false_iff->aK,rec->GI,true_and->Yt
open Classical renaming byContradiction->iC
open Decidable renaming not_not->Agf
open Go renaming undef->A0
open Go.Instr renaming build->JC,buildSlice->GR,extract->qT,field->aI,fill->Dp,indexAt->RJ,loadAt->Lf,storeAt->Ib,sureAddr->Cl
open Go.Program renaming cellsOf->H6
open Go.Result renaming andThen_ok->Aa
open Go.RowKit.Below renaming heap_alloc->F7
open Go.Sem renaming run->Cn,run_bind->Am,run_pure->Ap
open Go.World renaming cell?->Qo
open Int renaming rec->Ark,toNat_natCast->Ao
open List renaming append_assoc->EU,drop->R,getElem?_append_left->AA,getElem?_append_right->AO,getElem?_drop->C8,getElem?_eq_getElem->Ad,getElem?_eq_some_iff->AZ,getElem?_take_of_lt->BO,getElem?_toArray->Cq,getElem_mem->Bl,getElem_of_mem->Hr,length->C,length_append->Ac,length_drop->ET,length_take->EE,map_cons->BQ,mem_append->AF,mem_cons->Aw,mem_cons_of_mem->AI,mem_cons_self->A1,mem_of_mem_drop->C1,mem_of_mem_take->B8,mem_singleton->Be,range->A',rec->BG,size_toArray->Cr,take->CV
open Nat renaming add_zero->Bn,beq->Au,beq_refl->DM,ble->CM,ble_eq->IA,blt->Jd,blt_eq->Jx,div->qU,eq_of_beq_eq_true->Aj,eq_zero_or_pos->Ic,le_of_eq->U0,le_refl->Ar,le_succ->Abr,le_trans->AR,lt_of_lt_of_le->Ba,lt_succ_self->EQ,mod_eq_of_lt->Hg,not_lt->Agz,pred->Ur,rec->Nu,succ->Ki,succ_mul->Kh
open Option renaming isSome_iff_exists->A5,map_eq_some_iff->S,rec->GQ
open Option.some renaming inj->AM,injEq->Ab
inductive Tr (α:Type) where
 | e
 | n (l:Tr α) (v:Option α) (r:Tr α)
noncomputable def Dh {α:Type} (b:Bool) (x y:α):α:=GI (motive:=fun _=>α) y x b
@[simp] theorem cnd_true {α:Type} (x y:α):Dh true x y=x:=rfl
@[simp] theorem cnd_false {α:Type} (x y:α):Dh false x y=y:=rfl
noncomputable def bO {α β:Type} (o:Option α) (k:α->Option β):Option β:=GQ (motive:=fun _=>Option β) none (fun x=>k x) o
theorem BB{α β:Type}{o:Option α}{k:α->Option β}{x:β}(h:bO o k=some x):∃ v,o=some v/\k v=some x:=by
 cases o with
 | none=>cases h
 | some v=>exact⟨v,rfl,h⟩
noncomputable def Tr.get {α:Type} (t:Tr α):Nat->Option α :=
 Tr.rec (motive:=fun _=>Nat->Option α) (fun _=>none)
  (fun _ v _ a b k=>GI (motive:=fun _=>Option α) (GI (motive:=fun _=>Option α) (b (Ur (qU k 2))) (a (qU k 2)) (Au (Nat.mod k 2) 1)) v (Au k 0)) t
theorem Afg{α:Type}(k:Nat):(Tr.e:Tr α).get k=none:=rfl
theorem Pf{α:Type}(l:Tr α)(v:Option α)(r:Tr α)(k:Nat):(Tr.n l v r).get k=if k=0 then v else if k % 2=1 then l.get (k / 2) else r.get (k / 2-1):=by
 show Dh (Au k 0) v (Dh (Au (k % 2) 1) (l.get (k / 2)) (r.get (Ur (k / 2))))=_;cases h:Au k 0
 ·have h0:¬ k=0:=fun e=>by rw[e] at h;cases h
  rw[Ak h0];cases h1:Au (k % 2) 1
  ·have:¬ k % 2=1:=fun e=>by rw[e] at h1;cases h1
   rw[Ak this];rfl
  ·rw[Af (Aj h1)];rfl
 ·rw[Af (Aj h)];rfl
noncomputable def Oy {α:Type} (x:Option α) (a:Nat->Tr α->Tr α) (k:Nat) (l:Tr α) (v:Option α) (r:Tr α):Tr α :=
 GI (motive:=fun _=>Tr α) (GI (motive:=fun _=>Tr α) (.n l v (a (Ur (qU k 2)) r)) (.n (a (qU k 2) l) v r) (Au (Nat.mod k 2) 1)) (.n l x r) (Au k 0)
noncomputable def Rr {α:Type} (x:Option α) (n:Nat):Nat->Tr α->Tr α :=
 Nu (motive:=fun _=>Nat->Tr α->Tr α) (fun _ t=>t)
  (fun _ a k t=>Tr.rec (motive:=fun _=>Tr α) (Oy x a k .e none .e) (fun l v r _ _=>Oy x a k l v r) t) n
noncomputable def Tr.set {α:Type} (t:Tr α) (k:Nat) (x:Option α):Tr α:=Rr x (Ki k) k t
theorem Rs{α:Type}(x:Option α)(d:Nat->Tr α->Tr α)(k:Nat)(g:∀ f t j,f<k->(d f t).get j=if j=f then x else t.get j)(l:Tr α)(v:Option α)(r:Tr α)(j:Nat) :
  (Oy x d k l v r).get j=if j=k then x else if j=0 then v else if j % 2=1 then l.get (j / 2) else r.get (j / 2-1):=by
 show Tr.get (Dh (Au k 0) (Tr.n l x r) (Dh (Au (k % 2) 1) (.n (d (k / 2) l) v r) (.n l v (d (Ur (k / 2)) r)))) j=_;cases h0:Au k 0
 ·have h:¬ k=0:=fun e=>by rw[e] at h0;cases h0
  cases h1:Au (k % 2) 1
  ·have i:¬ k % 2=1:=fun e=>by rw[e] at h1;cases h1
   simp only[cnd_false];rw[Pf];by_cases a:j=0
   ·subst a;rw[Af rfl,Ak (by omega),Af rfl]
   ·rw[Ak a];by_cases b:j % 2=1
    ·rw[Af b,Ak (by omega),Ak a,Af b]
    ·rw[Ak b,Ak a,Ak b];have:=g (k / 2-1) r (j / 2-1) (by omega);rw[Nat.pred_eq_sub_one,this];by_cases c:j=k
     ·subst c;rw[Af rfl,Af rfl]
     ·rw[Ak (by omega),Ak c]
  ·have i:k % 2=1:=Aj h1;simp only[cnd_false,cnd_true];rw[Pf];by_cases a:j=0
   ·subst a;rw[Af rfl,Ak (by omega),Af rfl]
   ·rw[Ak a];by_cases b:j % 2=1
    ·rw[Af b,g (k / 2) l (j / 2) (by omega),Ak a,Af b];by_cases c:j=k
     ·subst c;rw[Af rfl,Af rfl]
     ·rw[Ak (by omega),Ak c]
    ·rw[Ak b,Ak (by omega),Ak a,Ak b]
 ·have h:k=0:=Aj h0;subst h;simp only[cnd_true];rw[Pf];by_cases a:j=0
  ·rw[Af a,Af a]
  ·rw[Ak a,Ak a,Ak a]
theorem fI{α:Type}(x:Option α):∀ (n k:Nat) (t:Tr α) (j:Nat),k<n->(Rr x n k t).get j=if j=k then x else t.get j:=by
 intro n;induction n with
 | zero=>intro k t j h;omega
 | succ n b =>
  intro k t j h;cases t with
  | e =>
   show (Oy x (Rr x n) k .e none .e).get j=_;rw[Rs x _ k (fun a t j c=>b a t j (by omega))];simp only[Afg];split <;> (try split) <;> (try split) <;> rfl
  | n l v r =>
   show (Oy x (Rr x n) k l v r).get j=_;rw[Rs x _ k (fun a t j c=>b a t j (by omega)),Pf]
theorem Cf{α:Type}(t:Tr α)(k:Nat)(x:Option α)(j:Nat):(t.set k x).get j=if j=k then x else t.get j:=fI x (k+1) k t j (EQ k)
inductive Cap where
 | k (c:Nat)
 | d (sz:Nat)
def J_:Cap->Nat->Nat->Nat->Prop
 | .k a,_,c,_=>a=c
 | .d sz,off,c,N=>off+c*sz<=N
inductive HV where
 | b (x:Bool)
 | i (k:IntKind) (n:Int)
 | u
 | pn
 | p (a off:Nat)
 | sn
 | s (a off len:Nat) (cap:Cap)
 | mn
 | m (a:Nat)
 | f (fn:Nat) (fs cs:List HV)
 | y (l:Nat)
 | c (v:Value)
 | g (cs:List HV)
 | t (cs:List HV)
def HV.one:HV->Bool
 | .u | .g _ | .t _=>false
 | _=>true
structure En where
 l:List (Nat × HV)
 g:Tr HV
 ms:Nat
def Rt(m n:Nat):Bool:=Au (Nat.land (Nat.shiftRight m n) 1) 1
noncomputable def En.get (e:En) (t:Nat):Option HV :=
 BG (motive:=fun _=>Option HV) (GI (motive:=fun _=>Option HV) none (e.g.get t) (Rt e.ms t)) (fun p _ a=>GI (motive:=fun _=>Option HV) a (some p.2) (Au p.1 t)) e.l
def En.set(e:En)(t:Nat)(x:HV):En:=⟨(t,x)::e.l,e.g,e.ms⟩
noncomputable def En.flush (e:En):En:=⟨[],BG (motive:=fun _=>Tr HV) e.g (fun p _ a=>GI (motive:=fun _=>Tr HV) a (a.set p.1 (some p.2)) (Rt e.ms p.1)) e.l,e.ms⟩
theorem Ru(p:Nat × HV)(l:List (Nat × HV))(g:Tr HV)(m t:Nat):(En.mk (p::l) g m).get t=Dh (Au p.1 t) (some p.2) ((En.mk l g m).get t):=rfl
theorem Oz(g:Tr HV)(m t:Nat):(En.mk [] g m).get t=Dh (Rt m t) (g.get t) none:=rfl
theorem oZ(e:En)(t:Nat)(x:HV)(u:Nat):(e.set t x).get u=if u=t then some x else e.get u:=by
 show Dh (Au t u) (some x) (e.get u)=_;cases h:Au t u
 ·rw[Ak fun e=>by rw[e,DM] at h;cases h];rfl
 ·rw[Af (Aj h).symm];rfl
theorem PF{t:Nat}{x:HV}:∀ {l:List (Nat × HV)} {g:Tr HV} {m:Nat},(En.mk l g m).flush.get t=some x->(En.mk l g m).get t=some x
 | [],g,m,h=>h
 | p::l,g,m,h=>by
  have c:=@PF t x l g m;rw[Ru];have e:(En.mk (p::l) g m).flush=⟨[],Dh (Rt m p.1) ((En.mk l g m).flush.g.set p.1 (some p.2)) (En.mk l g m).flush.g,m⟩:=rfl;rw[e,Oz] at h;cases hb:Rt m t
  ·rw[hb] at h;cases h
  ·rw[hb] at h;simp only[cnd_true] at h;cases a:Au p.1 t
   ·simp only[cnd_false];refine c ?_;have d:(En.mk l g m).flush=⟨[],(En.mk l g m).flush.g,m⟩:=rfl;rw[d,Oz,hb];simp only[cnd_true];cases b:Rt m p.1
    ·rw[b] at h;exact h
    ·rw[b] at h;simp only[cnd_true,Cf] at h;rwa [Ak fun e=>by rw[e,DM] at a;cases a] at h
   ·have f:=Aj a;rw[f,hb] at h;simp only[cnd_true,Cf,if_true] at h |-;exact h
abbrev Mu:=Nat->Option (Nat × Nat)
inductive VR (μ:Mu):HV->Value->Prop where
 | b (x:Bool):VR μ (.b x) (.bool x)
 | i (k:IntKind) (n:Int):VR μ (.i k n) (.int k n)
 | u:VR μ .u A0
 | pn:VR μ .pn (.pointer none)
 | p {a off:Nat} {r:Nat × Nat} (h:μ a=some r):VR μ (.p a off) (.pointer (some ⟨r.1,off,none⟩))
 | sn:VR μ .sn (.slice none 0 0)
 | s {a off len c:Nat} {r:Nat × Nat} {cap:Cap} (h:μ a=some r) (hl:len<=c) (hc:J_ cap off c r.2):VR μ (.s a off len cap) (.slice (some ⟨r.1,off,none⟩) len c)
 | mn:VR μ .mn (.map none)
 | m {a:Nat} {r:Nat × Nat} (h:μ a=some r):VR μ (.m a) (.map (some r.1))
 | f (fn:Nat) (fs cs:List HV) (us vs:Array Value) (hu:us.size=fs.length) (hs:vs.size=cs.length) (hf:∀ (j:Nat) (h1:j<fs.length) (h2:j<us.size),VR μ fs[j] us[j])
  (h:∀ (j:Nat) (h1:j<cs.length) (h2:j<vs.size),VR μ cs[j] vs[j]):VR μ (.f fn fs cs) (.func (.func fn) us vs)
 | y {l:Nat} {r:Nat × Nat} (h:μ l=some r):VR μ (.y l) (.func (.yield r.1) #[] #[])
 | c (v:Value) (h:v.oneCell'=true/\v.cells=#[v]):VR μ (.c v) v
 | g (cs:List HV) (vs:Array Value) (ho:∀ x∈cs,HV.one x=true) (hs:vs.size=cs.length) (h:∀ (j:Nat) (h1:j<cs.length) (h2:j<vs.size),VR μ cs[j] vs[j]):VR μ (.g cs) (.agg vs)
 | t (cs:List HV) (vs:Array Value) (hs:vs.size=cs.length) (h:∀ (j:Nat) (h1:j<cs.length) (h2:j<vs.size),VR μ cs[j] vs[j]):VR μ (.t cs) (.tuple vs)
theorem VR.mono{μ μ':Mu}(d:∀ a r,μ a=some r->μ' a=some r){x:HV}{v:Value}(h:VR μ x v):VR μ' x v:=by
 induction h with
 | b x=>exact .b x
 | i k n=>exact .i k n
 | u=>exact .u
 | pn=>exact .pn
 | p h=>exact .p (d _ _ h)
 | sn=>exact .sn
 | s h hl hc=>exact .s (d _ _ h) hl hc
 | mn=>exact .mn
 | m h=>exact .m (d _ _ h)
 | f fn fs cs us vs hu hs _ _ j l=>exact .f fn fs cs us vs hu hs j l
 | y h=>exact .y (d _ _ h)
 | c v h=>exact .c v h
 | g cs vs ho hs _ e=>exact .g cs vs ho hs e
 | t cs vs hs _ e=>exact .t cs vs hs e
theorem VR.oneCell{μ:Mu}{x:HV}{v:Value}(h:VR μ x v)(ho:x.one=true):v.oneCell'=true/\v.cells=#[v]:=by
 cases h <;> first | assumption | exact⟨rfl,rfl⟩ | cases ho
def CR(μ:Mu)(cs:List HV)(vs:Array Value):Prop:=(∀ x∈cs,HV.one x=true)/\∀ (j:Nat) (h:j<C cs),∃ v,vs[j]? = some v/\VR μ cs[j] v
theorem CR.mono{μ μ':Mu}(b:∀ a r,μ a=some r->μ' a=some r){cs:List HV}{vs:Array Value}(h:CR μ cs vs):CR μ' cs vs :=
 ⟨h.1,fun j c=>let ⟨v,h1,h2⟩:=h.2 j c; ⟨v,h1,h2.mono b⟩⟩
def FR(μ:Mu)(n:Nat)(ρ:En)(tm:Array Value):Prop:=tm.size=n/\∀ t x,ρ.get t=some x->VR μ x (tm.getD t A0)
theorem FR.mono{μ μ':Mu}(b:∀ a r,μ a=some r->μ' a=some r){n:Nat}{ρ:En}{tm:Array Value}(h:FR μ n ρ tm):FR μ' n ρ tm:=⟨h.1,fun t x c=>(h.2 t x c).mono b⟩
inductive HO where
 | c (cs:List HV)
 | m (es:List (HV × HV))
 | l (ρ:En) (n:Nat) (ps:List Nat) (asx bd:Code) (st:LoopState) (jump:Option Code)
 | it (str:ByteArray) (pos:Nat)
def OR(μ:Mu)(w:World)(r:Nat × Nat):HO->Prop
 | .c cs=>∃ vs T,w.heap[r.1]? = some (.cells vs T (0,0))/\vs.size=r.2/\CR μ cs vs
 | .m es=>∃ ms k,w.heap[r.1]? = some (.map ms k)/\ms.size=C es/\∀ (j:Nat) (h1:j<C es) (h2:j<ms.size),VR μ es[j].1 ms[j].key/\VR μ es[j].2 ms[j].val
 | .l ρ n ps asx bd st jump=>∃ L:Loop,w.heap[r.1]? = some (.loop L)/\L.params=ps.toArray/\L.assign=asx/\L.body=bd/\L.state=st/\L.pending=jump/\FR μ n ρ L.tmps
 | .it str pos=>w.heap[r.1]? = some (.stringIter str pos)
theorem OR.lt{μ:Mu}{w:World}{r:Nat × Nat}{o:HO}(h:OR μ w r o):r.1<w.heap.size:=by
 have a:∀ x,w.heap[r.1]? = some x->r.1<w.heap.size:=fun x b=>(A8.1 b).1;cases o with
 | c cs=>obtain⟨vs,T,h1,_⟩:=h;exact a _ h1
 | m es=>obtain⟨ms,k,h1,_⟩:=h;exact a _ h1
 | l ρ n ps asx bd st jump=>obtain⟨L,h1,_⟩:=h;exact a _ h1
 | it str pos=>exact a _ h
theorem OR.same{μ μ':Mu}(d:∀ a r,μ a=some r->μ' a=some r){w w':World}{r:Nat × Nat}{o:HO}(h:OR μ w r o)(e:w'.heap[r.1]? = w.heap[r.1]?):OR μ' w' r o:=by
 cases o with
 | c cs=>obtain⟨vs,T,h1,h2,b⟩:=h;exact⟨vs,T,by rw[e];exact h1,h2,b.mono d⟩
 | m es=>obtain⟨ms,k,h1,h2,b⟩:=h;exact⟨ms,k,by rw[e];exact h1,h2,fun j f g=>⟨(b j f g).1.mono d,(b j f g).2.mono d⟩⟩
 | l ρ n ps asx bd st jump=>obtain⟨L,h1,h2,b,i,p,q,s⟩:=h;exact⟨L,by rw[e];exact h1,h2,b,i,p,q,s.mono d⟩
 | it str pos=>exact e.trans h
structure HS where
 h:Tr HO
 nx:Nat
 lg:List Nat
structure HR (μ:Mu) (h:Tr HO) (w:World):Prop where
 obj:∀ a o,h.get a=some o->∃ r,μ a=some r/\OR μ w r o
 inj:∀ a a' o o' r r',h.get a=some o->h.get a'=some o'->μ a=some r->μ a'=some r'->r.1=r'.1->a=a'
 lt:∀ a r,μ a=some r->r.1<w.heap.size
def D1(μ:Mu)(a b:Nat):Prop:=∀ c,a<=c->c<b->μ c=none
structure Qt (s s':HS):Prop where
 nx:s.nx<=s'.nx
 lg:∀ a,a∈s.lg->a∈s'.lg
 dom:∀ a o,s'.h.get a=some o->(∃ o',s.h.get a=some o')\/(s.nx<=a/\a<s'.nx)
 keep:∀ a,¬ a∈s'.lg->¬ (s.nx<=a/\a<s'.nx)->s'.h.get a=s.h.get a
 lgd:∀ a,a∈s'.lg->a∈s.lg\/(∃ o,s.h.get a=some o)\/(s.nx<=a/\a<s'.nx)
theorem Qt.refl(s:HS):Qt s s:=⟨Ar _,fun _ h=>h,fun _ o h => .inl ⟨o,h⟩,fun _ _ _=>rfl,fun _ h => .inl h⟩
theorem Qt.trans{s t u:HS}(h:Qt s t)(g:Qt t u):Qt s u where
 nx:=AR h.nx g.nx
 lg a b:=g.lg a (h.lg a b)
 dom a o e:=by
  rcases g.dom a o e with ⟨o',e⟩ | e
  ·rcases h.dom a o' e with e | e
   ·exact .inl e
   ·exact .inr ⟨e.1,Ba e.2 g.nx⟩
  ·exact .inr ⟨AR h.nx e.1,e.2⟩
 keep a h1 h2:=by
  rw[g.keep a h1 fun e=>h2 ⟨AR h.nx e.1,e.2⟩];exact h.keep a (fun e=>h1 (g.lg a e)) fun e=>h2 ⟨e.1,Ba e.2 g.nx⟩
 lgd a b:=by
  rcases g.lgd a b with e | ⟨o,e⟩ | e
  ·rcases h.lgd a e with e | e | e
   ·exact .inl e
   ·exact .inr (.inl e)
   ·exact .inr (.inr ⟨e.1,Ba e.2 g.nx⟩)
  ·rcases h.dom a o e with e | e
   ·exact .inr (.inl e)
   ·exact .inr (.inr ⟨e.1,Ba e.2 g.nx⟩)
  ·exact .inr (.inr ⟨AR h.nx e.1,e.2⟩)
structure Step (μ:Mu) (s:HS) (w:World) (μ':Mu) (s':HS) (w':World):Prop where
 le:∀ a r,μ a=some r->μ' a=some r
 os:w'.os=w.os
 tape:w'.tape=w.tape
 out:w'.output=w.output
 size:w.heap.size<=w'.heap.size
 new:∀ b r,μ' b=some r->μ b=some r\/(∃ a o,s.h.get a=some o/\μ a=some r)\/w.heap.size<=r.1
 frame:∀ r,r<w.heap.size->(∀ a o q,s.h.get a=some o->μ a=some q->q.1 ≠ r)->w'.heap[r]? = w.heap[r]?
 stay:∀ b,¬ (s.nx<=b/\b<s'.nx)->μ' b=μ b
theorem Step.refl(μ:Mu)(s:HS)(w:World):Step μ s w μ s w:=⟨fun _ _ h=>h,rfl,rfl,rfl,Ar _,fun _ _ h => .inl h,fun _ _ _=>rfl,fun _ _=>rfl⟩
theorem Step.trans{μ μ1 μ2:Mu}{s c i:HS}{w j k:World}(h:Step μ s w μ1 c j)(g:Step μ1 c j μ2 i k)(l:Qt s c)(n:Qt c i)(hf:D1 μ s.nx c.nx):Step μ s w μ2 i k:=by
 have dom:∀ a o r,c.h.get a=some o->μ a=some r->∃ o',s.h.get a=some o':=by
  intro a o r f d;rcases l.dom a o f with e | e
  ·exact e
  ·rw[hf a e.1 e.2] at d;cases d
 refine⟨fun a r e=>g.le a r (h.le a r e),g.os.trans h.os,g.tape.trans h.tape,g.out.trans h.out,AR h.size g.size,fun b r e => ?_,fun r hr hn => ?_,fun b hb => ?_⟩
 ·rcases g.new b r e with e | ⟨a,o,f,d⟩ | e
  ·exact h.new b r e
  ·rcases h.new a r d with e | e | e
   ·obtain⟨o',ho⟩:=dom a o r f e;exact .inr (.inl ⟨a,o',ho,e⟩)
   ·exact .inr (.inl e)
   ·exact .inr (.inr e)
  ·exact .inr (.inr (AR h.size e))
 ·rw[g.frame r (Ba hr h.size) fun a o q f d m => ?_]
  ·exact h.frame r hr hn
  ·rcases h.new a q d with e | ⟨a',o',e,p⟩ | e
   ·obtain⟨o',ho⟩:=dom a o q f e;exact hn a o' q ho e m
   ·exact hn a' o' q e p m
   ·omega
 ·rw[g.stay b fun e=>hb ⟨AR l.nx e.1,e.2⟩];exact h.stay b fun e=>hb ⟨e.1,Ba e.2 n.nx⟩
def O0(cs:List HV)(off n:Nat)(one:Bool):Option HV :=
 if one then cs[off]? else if off+n<=C cs then some (.g ((cs.drop off).take n)) else none
def MI(cs:List HV)(off:Nat)(a:List HV):Option (List HV) :=
 if off+C a<=C cs then some (cs.take off++a++cs.drop (off+C a)) else none
def K7:HV->Nat->Option (List HV)
 | .g cs,n=>if C cs=n then some cs else none
 | x,n=>if x.one&&n==1 then some [x] else none
def IM(μ:Mu)(cs:List HV)(vs:Array Value):Prop:=(∀ x∈cs,HV.one x=true)/\vs.size=C cs/\∀ (j:Nat) (h1:j<C cs) (h2:j<vs.size),VR μ cs[j] vs[j]
theorem IM.oneCell{μ:Mu}{cs:List HV}{vs:Array Value}(h:IM μ cs vs):∀ v∈vs.toList,v.oneCell'=true:=by
 obtain⟨ho,hs,hr⟩:=h;intro v a;obtain⟨j,b,rfl⟩:=Hr a;have c:j<vs.size:=by simpa using b
 have:=hr j (by omega) c;exact (this.oneCell (ho _ (Bl _))).1
theorem IM.cr{μ:Mu}{cs:List HV}{vs:Array Value}(h:IM μ cs vs):CR μ cs vs :=
 ⟨h.1,fun j a=>⟨vs[j]'(by rw[h.2.1];exact a),by rw[A4],h.2.2 j a _⟩⟩
theorem IM.mono{μ μ':Mu}(b:∀ a r,μ a=some r->μ' a=some r){cs:List HV}{vs:Array Value}(h:IM μ cs vs):IM μ' cs vs :=
 ⟨h.1,h.2.1,fun j h1 h2=>(h.2.2 j h1 h2).mono b⟩
theorem Mr{μ:Mu}{x:HV}{v:Value}{n:Nat}{a:List HV}(h:VR μ x v)(hc:K7 x n=some a):C a=n/\IM μ a v.cells:=by
 have one:x.one=true->n=1->a=[x]->C a=n/\IM μ a v.cells:=by
  intro hd hn b;subst b hn;refine⟨rfl,?_⟩;rw[(h.oneCell hd).2];refine⟨fun y b => ?_,rfl,fun j h1 h2 => ?_⟩
  ·simp only[Be] at b;subst b;exact hd
  ·have:j=0:=by simp at h2;exact h2
   subst this;exact h
 cases x with
 | g cs =>
  simp only[K7] at hc;split at hc
  ·cases hc;cases h with
   | g _ vs ho hs hr=>exact⟨by assumption,ho,hs,hr⟩
  ·cases hc
 | u=>cases hc
 | t _=>cases hc
 | _ =>
  simp only[K7,HV.one,Yt,AW] at hc;split at hc <;> cases hc;exact one rfl (by assumption) rfl
theorem O1(cs new:List HV)(off i:Nat)(h:off+C new<=C cs) :
  (cs.take off++new++cs.drop (off+C new))[i]? = if i<off then cs[i]? else if i<off+C new then new[i-off]? else cs[i]? := by
 have a:C (cs.take off)=off:=by simp;omega
 by_cases h1:i<off
 ·rw[Af h1,EU,AA (by omega),BO h1]
 ·rw[Ak h1];by_cases h2:i<off+C new
  ·rw[Af h2,AA (by simp;omega),AO (by omega),a]
  ·rw[Ak h2,AO (by simp;omega),C8];congr 1;simp;omega
section
variable {P:Program} {μ:Mu} {h:Tr HO} {w:World}
theorem HR.at(H:HR μ h w){a:Nat}{r:Nat × Nat}{o:HO}(b:h.get a=some o)(hr:μ a=some r):OR μ w r o:=by
 obtain⟨r',h1,h2⟩:=H.obj a _ b;rw[hr] at h1;cases h1;exact h2
theorem HR.cell(H:HR μ h w){a:Nat}{r:Nat × Nat}{cs:List HV}(d:h.get a=some (.c cs))(hr:μ a=some r):∀ (j:Nat) (b:j<C cs),∃ v,w.cell? ⟨r.1,j,none⟩=some v/\VR μ cs[j] v:=by
 obtain⟨vs,T,h2,_,e⟩:=H.at d hr;intro j b;obtain⟨v,f,g⟩:=e.2 j b;exact⟨v,by simp[Qo,h2,f],g⟩
theorem HR.ones(H:HR μ h w){a:Nat}{cs:List HV}(b:h.get a=some (.c cs)):∀ x∈cs,HV.one x=true:=by
 obtain⟨r',h1,vs,T,h2,_,d⟩:=H.obj a _ b;exact d.1
theorem zS(H:HR μ h w){t:TypeId}{n a off:Nat}{r:Nat × Nat}{one:Bool}{cs:List HV}{x:HV}(ho:Gk P t n one=true)(e:h.get a=some (.c cs))(hr:μ a=some r)
  (b:O0 cs off n one=some x):∃ v,(loadVar t ⟨r.1,off,none⟩).run P w = .ok v w/\VR μ x v:=by
 obtain⟨h1,h2⟩:=Ed ho;have k:=H.cell e hr;have hd:=H.ones e;unfold O0 at b;cases one with
 | true =>
  simp only[if_true] at b;obtain⟨m,o⟩:=AZ.1 b;obtain⟨v,hc,d⟩:=k off m;refine⟨v,?_,o ▸ d⟩;simp[loadVar,h1,hc]
 | false =>
  simp only[AC,if_false] at b;split at b
  ·rename_i q;cases b;let f:Nat->Value:=fun j=>(w.cell? ⟨r.1,off+j,none⟩).getD A0
   have hf:∀ j,j<n->w.cell? ⟨r.1,off+j,none⟩=some (f j)/\∀ h:off+j<C cs,VR μ cs[off+j] (f j):=by
    intro j l;obtain⟨v,hc,d⟩:=k (off+j) (by omega);refine⟨by simp[f,hc],fun _ => ?_⟩;have:f j=v:=by simp[f,hc]
    rw[this];exact d
   refine⟨.agg ((A' n).map f).toArray,?_,?_⟩
   ·have hl:=run_loadCells (P:=P) w ⟨r.1,off,none⟩ n f (fun j l=>by rw[Dk];exact (hf j l).1);simp[loadVar,h1,h2,hl]
   ·refine .g _ _ ?_ (by simp;omega) (fun i h1 h2 => ?_)
    ·intro y p;exact hd y (C1 (B8 p))
    ·have hi:i<n:=by simpa using h2
     simpa using (hf i hi).2 (by omega)
  ·cases b
theorem HR.turn(H:HR μ h w){a:Nat}{r:Nat × Nat}{o o':HO}{w':World}(f:h.get a=some o')(hr:μ a=some r)(hs:w.heap.size<=w'.heap.size)(i:∀ b,b ≠ r.1->w'.heap[b]? = w.heap[b]?)(ho:OR μ w' r o):HR μ (h.set a (some o)) w' where
 obj b x hb:=by
  rw[Cf] at hb;split at hb
  next e=>subst e;cases hb;exact⟨r,hr,ho⟩
  next e=>obtain⟨r',h1,h2⟩:=H.obj b x hb;exact⟨r',h1,h2.same (fun _ _ h=>h) (i r'.1 fun c=>e (H.inj _ _ _ _ _ _ hb f h1 hr c))⟩
 inj b b' x j q k hb d h1 h2 g:=by
  rw[Cf] at hb d;split at hb <;> split at d
  next e c=>rw[e,c]
  next e c=>subst e;exact H.inj _ _ _ _ _ _ f d h1 h2 g
  next e c=>subst c;exact H.inj _ _ _ _ _ _ hb f h1 h2 g
  ·exact H.inj _ _ _ _ _ _ hb d h1 h2 g
 lt b q hb:=Ba (H.lt b q hb) hs
theorem Step.turn{s:HS}{a:Nat}{r:Nat × Nat}{o o':HO}{w':World}(c:s.h.get a=some o')(hr:μ a=some r)(d:w'.os=w.os)(f:w'.tape=w.tape)(g:w'.output=w.output)(hs:w'.heap.size=w.heap.size)
  (i:∀ b,b ≠ r.1->w'.heap[b]? = w.heap[b]?):Step μ s w μ ⟨s.h.set a (some o),s.nx,a::s.lg⟩ w' :=
 ⟨fun _ _ e=>e,d,f,g,by omega,fun _ _ e => .inl e,fun b _ hn=>i b fun e=>hn a _ _ c hr e.symm,fun _ _=>rfl⟩
theorem Qt.turn{s:HS}{a:Nat}{o o':HO}(c:s.h.get a=some o'):Qt s ⟨s.h.set a (some o),s.nx,a::s.lg⟩ where
 nx:=Ar _
 lg b hb:=AI _ hb
 dom b x hb:=by
  rw[Cf] at hb;split at hb
  next e=>subst e;exact .inl ⟨_,c⟩
  ·exact .inl ⟨_,hb⟩
 keep b hb _:=by
  rw[Cf,Ak (fun e=>hb (by rw[e];exact A1))]
 lgd b hb:=by
  rcases Aw.1 hb with rfl | hb
  ·exact .inr (.inl ⟨_,c⟩)
  ·exact .inl hb
theorem vP{s:HS}(H:HR μ s.h w){a off:Nat}{r:Nat × Nat}{cs g cs':List HV}{news:List Value}(l:s.h.get a=some (.c cs))(hr:μ a=some r)(i:IM μ g news.toArray)(hl:MI cs off g=some cs') :
  ∃ w',(storeCells ⟨r.1,off,none⟩ news 0).run P w = .ok () w'/\HR μ (s.h.set a (some (.c cs'))) w'/\Step μ s w μ ⟨s.h.set a (some (.c cs')),s.nx,a::s.lg⟩ w':=by
 obtain⟨vs,T,n,D,hc⟩:=H.at l hr;unfold MI at hl;split at hl
 ·rename_i z;cases hl;have A:C news=C g:=by simpa using i.2.1
  have E:C cs<=vs.size:=by
   apply iC;intro F;obtain⟨u,m,_⟩:=hc.2 (C cs-1) (by omega);have:=(A8.1 m).1;by_cases h0:vs.size<C cs
   ·obtain⟨u,m,_⟩:=hc.2 vs.size h0;have:=(A8.1 m).1;omega
   ·omega
  have o:=run_storeCells_at (P:=P) r.1 off T news 0 vs w n (by omega) (fun v f=>i.oneCell v (by simpa using f));simp only[Bn] at o;have p:∀ b,b ≠ r.1->(w.setRow r.1 (CV off vs.toList++news++R (off+C news) vs.toList).toArray).heap[b]? = w.heap[b]? := fun b hb=>Dy _ _ _ _ hb;refine⟨_,o,?_,Step.turn l hr rfl rfl rfl (by rw[DX]) p⟩;refine H.turn l hr (by rw[DX];exact Ar _) p ⟨_,T,setRow_heap w r.1 vs _ T (0,0) n,?_,?_,?_⟩
  ·simp only[Cr,Ac,EE,ET,Bt];omega
  ·intro x e;simp only[AF] at e;rcases e with (e | e) | e
   ·exact hc.1 x (B8 e)
   ·exact i.1 x e
   ·exact hc.1 x (C1 e)
  ·intro j q;have d:=O1 cs g off j z;rw[Ad q] at d;have t:C (vs.toList.take off)=off:=by simp;omega
   have k:j<C cs:=by simp at q;omega
   simp only[Cq];by_cases h1:j<off
   ·rw[Af h1] at d;obtain⟨u,hu,f⟩:=hc.2 j k;refine⟨u,?_,?_⟩
    ·rw[EU,AA (by omega),BO h1];simpa using hu
    ·rw[Ad k] at d;rw[AM d];exact f
   ·rw[Ak h1] at d;by_cases h2:j<off+C g
    ·rw[Af h2] at d;have y:j-off<C g:=by omega
     rw[Ad y] at d;obtain⟨u,hu,f⟩:=i.cr.2 (j-off) y;refine⟨u,?_,by rw[AM d];exact f⟩;rw[AA (by simp only[Ac];omega),AO (by omega),t];simpa using hu
    ·rw[Ak h2] at d;obtain⟨u,hu,f⟩:=hc.2 j k;refine⟨u,?_,?_⟩
     ·rw[AO (by simp only[Ac];omega),C8];have B:off+C news+(j-C (vs.toList.take off++news))=j:=by simp only[Ac,t,A];omega
      rw[B];simpa using hu
     ·rw[Ad k] at d;rw[AM d];exact f
 ·cases hl
theorem Apr{s:HS}(H:HR μ s.h w){t:TypeId}{n a off:Nat}{r:Nat × Nat}{cs b d:List HV}{v:Value}(f:∀ w,(sizeOf t).run P w = .ok n w)(g:s.h.get a=some (.c cs))(hr:μ a=some r)
  (e:IM μ b v.cells) (hn:C b=n) (hl:MI cs off b=some d) :
  ∃ w',(storeVar t ⟨r.1,off,none⟩ v).run P w = .ok () w'/\HR μ (s.h.set a (some (.c d))) w'/\Step μ s w μ ⟨s.h.set a (some (.c d)),s.nx,a::s.lg⟩ w':=by
 obtain⟨w',h1,h2,i⟩:=vP (P:=P) H g hr (news:=v.cells.toList) e hl;have j:v.cells.size=n:=by rw[e.2.1,hn]
 exact⟨w',by simp only[storeVar,Am,f,Aa,j,ne_eq,not_true_eq_false,if_false];exact h1,h2,i⟩
def Di(μ:Mu)(a:Nat)(r:Nat × Nat):Mu:=fun b=>if b=a then some r else μ b
theorem ZU{a:Nat}{r:Nat × Nat}(c:μ a=none):∀ b q,μ b=some q->Di μ a r b=some q:=by
 intro b q hb;unfold Di;split
 next e=>subst e;rw[c] at hb;cases hb
 ·exact hb
noncomputable def FT (s:HS) (o:HO):HS:=⟨s.h.set s.nx (some o),Ki s.nx,s.lg⟩
theorem Qt.new(s:HS)(o:HO):Qt s (FT s o) where
 nx:=Abr _
 lg _ hb:=hb
 dom b x hb:=by
  simp only[FT,Cf] at hb |-;split at hb
  next e=>subst e;exact .inr ⟨Ar _,EQ _⟩
  ·exact .inl ⟨_,hb⟩
 keep b _ hn:=by
  simp only[FT,Cf] at hn |-;rw[Ak fun e=>hn ⟨U0 e.symm,by omega⟩]
 lgd _ hb := .inl hb
theorem KT{s:HS}(H:HR μ s.h w)(i:μ s.nx=none){x:Obj}(N:Nat){o:HO}(ho:∀ μ' w',(∀ b r,μ b=some r->μ' b=some r)->w'.heap[w.heap.size]? = some x->OR μ' w' (w.heap.size,N) o) :
  HR (Di μ s.nx (w.heap.size,N)) (FT s o).h (w.alloc x)/\Step μ s w (Di μ s.nx (w.heap.size,N)) (FT s o) (w.alloc x):=by
 have a:=ZU (μ:=μ) (r:=(w.heap.size,N)) i;have j:(w.alloc x).heap[w.heap.size]? = some x:=by show (w.heap.push _)[w.heap.size]? = _;simp
 have hold:∀ r,r<w.heap.size->(w.alloc x).heap[r]? = w.heap[r]? := fun r hr=>F7 _ _ _ hr;have k:(w.alloc x).heap.size=w.heap.size+1:=by show (w.heap.push _).size=_;simp
 refine⟨⟨?_,?_,?_⟩,⟨a,rfl,rfl,rfl,by omega,?_,fun r hr _=>hold r hr,?_⟩⟩
 ·intro b y hb;simp only[FT,Cf] at hb;split at hb
  next e=>subst e;cases hb;exact⟨(w.heap.size,N),by simp[Di],ho _ _ a j⟩
  next e=>obtain⟨r,h1,h2⟩:=H.obj b y hb;exact⟨r,a _ _ h1,h2.same a (hold r.1 h2.lt)⟩
 ·intro b b' y l r r' hb c h1 h2 d;simp only[FT,Cf] at hb c;unfold Di at h1 h2;split at h1
  ·rename_i f;split at h2
   next g=>rw[f,g]
   ·cases h1;have:=H.lt _ _ h2;simp only at d;omega
  ·rename_i f;split at h2
   ·cases h2;have:=H.lt _ _ h1;simp only at d;omega
   next g=>rw[Ak f] at hb;rw[Ak g] at c;exact H.inj _ _ _ _ _ _ hb c h1 h2 d
 ·intro b r hb;unfold Di at hb;split at hb
  ·cases hb;simp only;omega
  ·have:=H.lt _ _ hb;omega
 ·intro b r hb;unfold Di at hb;split at hb
  ·cases hb;exact .inr (.inr (Ar _))
  ·exact .inl hb
 ·intro b hb;unfold Di;rw[Ak fun e=>hb ⟨U0 e.symm,by simp[FT];omega⟩]
end
noncomputable def ZV {α:Type} (l:List α) (n:Nat):Option α :=
 BG (motive:=fun _=>Nat->Option α) (fun _=>none) (fun a _ b n=>GI (motive:=fun _=>Option α) (b (Ur n)) (some a) (Au n 0)) l n
theorem XO{α:Type}:∀ (l:List α) (n:Nat),ZV l n=l[n]?
 | [],_=>rfl
 | _::_,0=>rfl
 | _::l,n+1=>XO l n
noncomputable def pA {α:Type} (l:List α):Nat:=BG (motive:=fun _=>Nat) 0 (fun _ _ a=>Ki a) l
theorem Rv{α:Type}:∀ (l:List α),pA l=C l
 | []=>rfl
 | _::l=>congrArg Ki (Rv l)
noncomputable def fJ {α:Type} (n:Nat):List α->Option (List α) :=
 Nu (motive:=fun _=>List α->Option (List α)) (fun _=>some []) (fun _ b l=>BG (motive:=fun _=>Option (List α)) none (fun a t _=>bO (b t) fun r=>some (a::r)) l) n
theorem ZW{α:Type}:∀ (n:Nat) (l:List α),fJ n l=if n<=C l then some (l.take n) else none
 | 0,_=>rfl
 | _+1,[]=>rfl
 | n+1,a::l=>by
  show bO (fJ n l) (fun r=>some (a::r))=_;rw[ZW n l];by_cases h:n<=C l
  ·rw[Af h,Af (by simpa using h)];rfl
  ·rw[Ak h,Ak (by simpa using h)];rfl
noncomputable def pB {α:Type} (n off:Nat):List α->Option (List α) :=
 Nu (motive:=fun _=>List α->Option (List α)) (fun l=>fJ n l) (fun _ a l=>BG (motive:=fun _=>Option (List α)) none (fun _ t _=>a t) l) off
theorem Rx{α:Type}(n:Nat):∀ (off:Nat) (l:List α),pB n off l=if off+n<=C l then some ((l.drop off).take n) else none
 | 0,l=>by
  show fJ n l=_;rw[ZW];simp
 | off+1,[]=>by
  rw[Ak (by simp)];rfl
 | off+1,_::l=>by
  show pB n off l=_;rw[Rx n off l];by_cases h:off+n<=C l
  ·rw[Af h,Af (by simp;omega)];rfl
  ·rw[Ak h,Ak (by simp;omega)]
noncomputable def ovF {α:Type} (a:List α):List α->Option (List α) :=
 BG (motive:=fun _=>List α->Option (List α)) (fun cs=>some cs) (fun y _ b cs=>BG (motive:=fun _=>Option (List α)) none (fun _ t _=>bO (b t) fun r=>some (y::r)) cs) a
theorem zT{α:Type}:∀ (a cs:List α),ovF a cs=if C a<=C cs then some (a++cs.drop (C a)) else none
 | [],cs=>by simp[ovF]
 | _::_,[]=>rfl
 | y::a,c::cs=>by
  show bO (ovF a cs) (fun r=>some (y::r))=_;rw[zT a cs];by_cases h:C a<=C cs
  ·rw[Af h,Af (by simpa using h)];rfl
  ·rw[Ak h,Ak (by simpa using h)];rfl
noncomputable def XP {α:Type} (a:List α) (off:Nat):List α->Option (List α) :=
 Nu (motive:=fun _=>List α->Option (List α)) (fun cs=>ovF a cs) (fun _ b cs=>BG (motive:=fun _=>Option (List α)) none (fun c t _=>bO (b t) fun r=>some (c::r)) cs) off
theorem O2:∀ (a:List HV) (off:Nat) (cs:List HV),XP a off cs=MI cs off a
 | a,0,cs=>by
  show ovF a cs=_;rw[zT,MI];simp
 | a,off+1,[]=>by
  rw[MI,Ak (by simp)];rfl
 | a,off+1,c::cs=>by
  show bO (XP a off cs) (fun r=>some (c::r))=_;rw[O2 a off cs,MI,MI];by_cases h:off+C a<=C cs
  ·rw[Af h,Af (by simp;omega)];have:off+1+C a=(off+C a)+1:=by omega
   rw[this];rfl
  ·rw[Ak h,Ak (by simp;omega)];rfl
noncomputable def S7 (cs:List HV) (off n:Nat) (one:Bool):Option HV:=GI (motive:=fun _=>Option HV) (bO (pB n off cs) fun a=>some (.g a)) (ZV cs off) one
theorem Pg(cs:List HV)(off n:Nat)(one:Bool):S7 cs off n one=O0 cs off n one:=by
 cases one
 ·show bO (pB n off cs) (fun a=>some (HV.g a))=_;rw[Rx n];simp only[O0,AC,if_false];split <;> rfl
 ·show ZV cs off=_;rw[XO];rfl
noncomputable section
abbrev RH:=Option (HV × HS)
abbrev B0:=HV->List HV->HS->RH
def vQ{α:Type}(v:HV)(k:Nat->Nat->Option α):Option α:=HV.rec (motive_1:=fun _=>Option α) (motive_2:=fun _=>Unit) (fun _=>none) (fun _ _=>none) none none (fun a off=>k a off) none (fun _ _ _ _=>none) none (fun _=>none) (fun _ _ _ _ _=>none) (fun _=>none) (fun _=>none) (fun _ _=>none) (fun _ _=>none) () (fun _ _ _ _=>()) v
def asB{α:Type}(v:HV)(k:Bool->Option α):Option α:=HV.rec (motive_1:=fun _=>Option α) (motive_2:=fun _=>Unit) (fun x=>k x) (fun _ _=>none) none none (fun _ _=>none) none (fun _ _ _ _=>none) none (fun _=>none) (fun _ _ _ _ _=>none) (fun _=>none) (fun _=>none) (fun _ _=>none) (fun _ _=>none) () (fun _ _ _ _=>()) v
def asI{α:Type}(v:HV)(k:IntKind->Int->Option α)(d:Option α):Option α:=HV.rec (motive_1:=fun _=>Option α) (motive_2:=fun _=>Unit) (fun _=>d) (fun q n=>k q n) d d (fun _ _=>d) d (fun _ _ _ _=>d) d (fun _=>d) (fun _ _ _ _ _=>d) (fun _=>d) (fun _=>d) (fun _ _=>d) (fun _ _=>d) () (fun _ _ _ _=>()) v
def asN{α:Type}(v:HV)(k:Nat->Option α):Option α:=asI v (fun _ n=>Ark (motive:=fun _=>Option α) (fun m=>k m) (fun _=>none) n) none
def asT{α:Type}(v:HV)(k:List HV->Option α):Option α:=HV.rec (motive_1:=fun _=>Option α) (motive_2:=fun _=>Unit) (fun _=>none) (fun _ _=>none) none none (fun _ _=>none) none (fun _ _ _ _=>none) none (fun _=>none) (fun _ _ _ _ _=>none) (fun _=>none) (fun _=>none) (fun _ _=>none) (fun cs _=>k cs) () (fun _ _ _ _=>()) v
def asG{α:Type}(v:HV)(k:List HV->Option α)(d:Option α):Option α:=HV.rec (motive_1:=fun _=>Option α) (motive_2:=fun _=>Unit) (fun _=>d) (fun _ _=>d) d d (fun _ _=>d) d (fun _ _ _ _=>d) d (fun _=>d) (fun _ _ _ _ _=>d) (fun _=>d) (fun _=>d) (fun cs _=>k cs) (fun _ _=>d) () (fun _ _ _ _=>()) v
def asS{α:Type}(v:HV)(k:Nat->Nat->Nat->Cap->Option α):Option α:=HV.rec (motive_1:=fun _=>Option α) (motive_2:=fun _=>Unit) (fun _=>none) (fun _ _=>none) none none (fun _ _=>none) none (fun a off len cap=>k a off len cap) none (fun _=>none) (fun _ _ _ _ _=>none) (fun _=>none) (fun _=>none) (fun _ _=>none) (fun _ _=>none) () (fun _ _ _ _=>()) v
def XQ{α:Type}(o:Option HO)(k:List HV->Option α):Option α:=bO o fun o=>HO.rec (motive:=fun _=>Option α) (fun cs=>k cs) (fun _=>none) (fun _ _ _ _ _ _ _=>none) (fun _ _=>none) o
def Aps{α:Type}(o:Option HO)(k:ByteArray->Nat->Option α):Option α:=match o with | some (.it str pos)=>k str pos | _=>none
theorem XR{α:Type}{o:Option HO}{k:ByteArray->Nat->Option α}{x:α}(h:Aps o k=some x):∃ str pos,o=some (.it str pos)/\k str pos=some x:=by
 unfold Aps at h;split at h
 ·exact⟨_,_,rfl,h⟩
 ·cases h
def asM{α:Type}(o:Option HO)(k:List (HV × HV)->Option α):Option α:=match o with | some (.m es)=>k es | _=>none
def BV{α:Type}(b:Bool)(k:Option α):Option α:=GI (motive:=fun _=>Option α) none k b
theorem GD{α:Type}{v:HV}{k:Nat->Nat->Option α}{x:α}(h:vQ v k=some x):∃ a off,v = .p a off/\k a off=some x:=by
 cases v <;> first | exact⟨_,_,rfl,h⟩ | cases h
theorem Ph{α:Type}{v:HV}{k:Bool->Option α}{x:α}(h:asB v k=some x):∃ b,v = .b b/\k b=some x:=by
 cases v <;> first | exact⟨_,rfl,h⟩ | cases h
theorem GE{α:Type}{v:HV}{k:Nat->Option α}{x:α}(h:asN v k=some x):∃ (q:IntKind) (m:Nat),v = .i q (m:Int)/\k m=some x:=by
 cases v <;> try (cases h;done)
 rename_i q n;cases n with
 | ofNat m=>exact⟨q,m,rfl,h⟩
 | negSucc m=>cases h
theorem ZX{α:Type}{v:HV}{k:List HV->Option α}{x:α}(h:asT v k=some x):∃ cs,v = .t cs/\k cs=some x:=by
 cases v <;> first | exact⟨_,rfl,h⟩ | cases h
theorem ZY{α:Type}{v:HV}{k:List HV->Option α}{x:α}(h:asG v k none=some x):∃ cs,v = .g cs/\k cs=some x:=by
 cases v <;> first | exact⟨_,rfl,h⟩ | cases h
theorem ZZ{α:Type}{v:HV}{k:Nat->Nat->Nat->Cap->Option α}{x:α}(h:asS v k=some x):∃ a off len cap,v = .s a off len cap/\k a off len cap=some x:=by
 cases v <;> first | exact⟨_,_,_,_,rfl,h⟩ | cases h
theorem DH{α:Type}{o:Option HO}{k:List HV->Option α}{x:α}(h:XQ o k=some x):∃ cs,o=some (.c cs)/\k cs=some x:=by
 obtain⟨o',rfl,h⟩:=BB h;cases o' <;> first | exact⟨_,rfl,h⟩ | cases h
theorem Pi{α:Type}{o:Option HO}{k:List (HV × HV)->Option α}{x:α}(h:asM o k=some x):∃ es,o=some (.m es)/\k es=some x:=by
 unfold asM at h;split at h
 ·exact⟨_,rfl,h⟩
 ·cases h
theorem A9{α:Type}{b:Bool}{k:Option α}{x:α}(h:BV b k=some x):b=true/\k=some x:=by
 cases b
 ·cases h
 ·exact⟨rfl,h⟩
theorem bind_some{α β:Type}{o:Option α}{k:α->Option β}{x:β}(h:bO o k=some x):∃ v,o=some v/\k v=some x:=BB h
def Ry(v:HV)(n:Nat):Option (List HV):=asG v (fun cs=>BV (Au (pA cs) n) (some cs)) (BV (Au n 1) (BV v.one (some [v])))
theorem XT{v:HV}{n:Nat}{a:List HV}(h:Ry v n=some a):K7 v n=some a:=by
 by_cases b:∃ cs,v = .g cs
 ·obtain⟨cs,rfl⟩:=b;have h:BV (Au (pA cs) n) (some cs)=some a:=h;obtain⟨h1,h2⟩:=A9 h;have h1:=Aj h1;rw[Rv] at h1;simp only[K7,Af h1];exact h2
 ·have e:Ry v n=BV (Au n 1) (BV v.one (some [v])):=by
   cases v <;> first | rfl | exact absurd ⟨_,rfl⟩ b
  rw[e] at h;obtain⟨h1,h⟩:=A9 h;obtain⟨h2,h⟩:=A9 h;have h1:=Aj h1;subst h1;cases v <;> first | exact absurd ⟨_,rfl⟩ b | (cases h2;done) | exact h
def Us:Value->Option HV
 | .bool b=>some (.b b)
 | .int k n=>some (.i k n)
 | .pointer none=>some .pn
 | .slice none 0 0=>some .sn
 | .map none=>some .mn
 | .nilFunc=>some (.c .nilFunc)
 | .string s=>some (.c (.string s))
 | _=>none
def Ka:List Value->Option (List HV)
 | []=>some []
 | v::l=>bO (Us v) fun x=>bO (Ka l) fun xs=>some (x::xs)
def Ut:Value->Option HV
 | .tuple vs=>if vs.size=0 then some .u else none
 | .agg vs=>(Ka vs.toList).map .g
 | v=>Us v
theorem XU{μ:Mu}{v:Value}{x:HV}(h:Us v=some x):VR μ x v/\x.one=true:=by
 unfold Us at h;split at h <;> cases h
 ·exact⟨.b _,rfl⟩
 ·exact⟨.i _ _,rfl⟩
 ·exact⟨.pn,rfl⟩
 ·exact⟨.sn,rfl⟩
 ·exact⟨.mn,rfl⟩
 ·exact⟨.c _ ⟨rfl,rfl⟩,rfl⟩
 ·exact⟨.c _ ⟨rfl,rfl⟩,rfl⟩
theorem T4{μ:Mu}:∀ {l:List Value} {xs:List HV},Ka l=some xs->C l=C xs/\(∀ x∈xs,HV.one x=true)/\∀ (j:Nat) (h1:j<C xs) (h2:j<C l),VR μ xs[j] l[j]
 | [],xs,h=>by
  simp only[Ka,Ab] at h;subst h;exact⟨rfl,fun x b=>(by cases b),fun j h1=>(by simp at h1)⟩
 | v::l,xs,h=>by
  simp only[Ka] at h;obtain⟨x,h1,h⟩:=bind_some h;obtain⟨m,h2,h⟩:=bind_some h;cases h;obtain⟨c,d⟩:=XU (μ:=μ) h1;obtain⟨e,f,g⟩:=T4 (μ:=μ) h2;refine⟨by simp[e],fun y a => ?_,fun j i k => ?_⟩
  ·rcases Aw.1 a with rfl | a
   ·exact d
   ·exact f y a
  ·cases j with
   | zero=>exact c
   | succ j=>exact g j (by simpa using i) (by simpa using k)
theorem Rz{μ:Mu}{vs:Array Value}{xs:List HV}(h:Ka vs.toList=some xs):IM μ xs vs:=by
 obtain⟨a,b,c⟩:=T4 (μ:=μ) h;exact⟨b,by simpa using a,fun j h1 h2=>by
  have:=c j h1 (by simpa using h2);rwa [pC] at this⟩
theorem XV{μ:Mu}{v:Value}{x:HV}(h:Ut v=some x):VR μ x v:=by
 unfold Ut at h;split at h
 ·rename_i vs;split at h
  next hs=>cases h;have:vs=#[]:=Array.eq_empty_of_size_eq_zero hs;subst this;exact .u
  ·cases h
 next vs=>simp only[S] at h;obtain⟨xs,h,rfl⟩:=h;obtain⟨a,b,c⟩:=Rz (μ:=μ) h;exact .g xs vs a b c
 ·exact (XU h).1
def CU(ρ:En)(x:Operand):Option HV:=Operand.rec (motive:=fun _=>Option HV) (fun t=>ρ.get t) (fun v=>Ut v) (fun _=>none) (fun f=>some (.f f [] [])) x
def PG(ρ:En)(l:List Operand):Option (List HV):=BG (motive:=fun _=>Option (List HV)) (some []) (fun x _ a=>bO (CU ρ x) fun y=>bO a fun b=>some (y::b)) l
theorem vR(ρ:En)(x:Operand)(l:List Operand):PG ρ (x::l)=bO (CU ρ x) fun y=>bO (PG ρ l) fun a=>some (y::a):=rfl
section
variable {μ:Mu} {n:Nat} {ρ:En} {a:Act}
theorem B_(F:FR μ n ρ a.tmps){x:Operand}{y:HV}(h:CU ρ x=some y):VR μ y (a.eval x):=by
 cases x with
 | tmp t=>exact F.2 t y h
 | const v=>exact XV h
 | func f =>
  cases h;exact .f f [] [] #[] #[] rfl rfl (fun j h1=>(by simp at h1)) (fun j h1=>(by simp at h1))
 | global g=>cases h
theorem pD(F:FR μ n ρ a.tmps):∀ {l:List Operand} {b:List HV},PG ρ l=some b->C l=C b/\∀ (j:Nat) (h1:j<C b) (h2:j<C l),VR μ b[j] (a.eval l[j])
 | [],b,h=>by
  cases h;exact⟨rfl,fun j h1=>(by simp at h1)⟩
 | x::l,b,h=>by
  rw[vR] at h;obtain⟨y,h1,h⟩:=bind_some h;obtain⟨zs,h2,h⟩:=bind_some h;cases h;obtain⟨c,d⟩:=pD F h2;refine⟨by simp[c],fun j e f => ?_⟩;cases j with
  | zero=>exact B_ F h1
  | succ j=>exact d j (by simpa using e) (by simpa using f)
theorem Pj(F:FR μ n ρ a.tmps){xs:Array Operand}{b:List HV}(c:PG ρ xs.toList=some b):(xs.map a.eval).size=C b/\∀ (j:Nat) (h1:j<C b) (h2:j<(xs.map a.eval).size),VR μ b[j] (xs.map a.eval)[j]:=by
 obtain⟨d,e⟩:=pD F c;refine⟨by simpa using d,fun j h1 h2 => ?_⟩;have:=e j h1 (by simpa using h2);rw[M6];rwa [pC] at this
end
def R0(P:Program)(t:TypeId):Option (Nat × Bool) :=
 match P.underlying t,P.info? t with
 | some d,some i=>some (i.size,!(aP d))
 | _,_=>none
theorem Pk{P:Program}{t:TypeId}{n:Nat}{one:Bool}(h:R0 P t=some (n,one)):Gk P t n one=true:=by
 unfold R0 at h;unfold Gk;split at h
 next d i h1 h2=>cases h;simp[h1,h2]
 ·cases h
def fK(P:Program)(t:TypeId):Option (List HV) :=
 match P.info? t with
 | some i=>match i.zero with
  | some v=>Ka v.cells.toList
  | none=>none
 | none=>none
theorem Pm{P:Program}{t:TypeId}{z:List HV}(h:fK P t=some z):∃ i v,P.info? t=some i/\i.zero=some v/\(∀ w,(zeroValue t).run P w = .ok v w)/\∀ μ,IM μ z v.cells:=by
 unfold fK at h;split at h
 ·rename_i i hi;split at h
  next v a=>exact⟨i,v,hi,a,fun w=>by simp[zeroValue,typeInfo,program,Cn,hi,a],fun μ=>Rz h⟩
  ·cases h
 ·cases h
def foP(P:Program)(s:TypeId)(i:Nat):Option (Nat × TypeId) :=
 match P.underlying s with
 | some (.struct fs)=>match fs[i]? with
  | some f=>some (f.offset,f.type)
  | none=>none
 | _=>none
theorem zU{P:Program}{s:TypeId}{i o:Nat}{t:TypeId}(h:foP P s i=some (o,t)):∃ fs f,P.underlying s=some (.struct fs)/\fs[i]? = some f/\f.offset=o/\f.type=t:=by
 unfold foP at h;split at h
 ·rename_i fs a;split at h
  next f hf=>cases h;exact⟨fs,f,a,hf,rfl,rfl⟩
  ·cases h
 ·cases h
def Zc(P:Program)(t:TypeId):Option (TypeId × Nat × Nat) :=
 match P.underlying t with
 | some (.slice e)=>match P.info? e with
  | some i=>some (e,i.size,i.bytes)
  | none=>none
 | _=>none
theorem Jv{P:Program}{t:TypeId}{e:TypeId}{k b:Nat}(h:Zc P t=some (e,k,b)):∃ i,P.underlying t=some (.slice e)/\P.info? e=some i/\i.size=k/\i.bytes=b:=by
 unfold Zc at h;split at h
 ·rename_i c a;split at h
  next i hi=>cases h;exact⟨i,a,hi,rfl,rfl⟩
  ·cases h
 ·cases h
theorem Ei{P:Program}{e:TypeId}{i:TypeInfo}(hi:P.info? e=some i)(w:World):(sizeOf e).run P w = .ok i.size w:=by simp [sizeOf,typeInfo,program,Cn,hi]
def DE(P:Program)(o:Oper)(a:Act)(μ:Mu)(w:World)(s s':HS)(x:HV):Prop :=
 ∃ v μ' w',((execOp a.eval o).run P w = .ok (.value v) w'\/((execOp a.eval o).run P w = .ok .skip w'/\v=A0))/\HR μ' s'.h w'/\Step μ s w μ' s' w'/\VR μ' x v
section
variable {P:Program} {o:Oper} {a:Act} {μ:Mu} {w:World} {s:HS} {n:Nat} {ρ:En}
theorem Bi(H:HR μ s.h w){v:Value}{x:HV}(b:(execOp a.eval o).run P w = .ok (.value v) w)(c:VR μ x v):DE P o a μ w s s x:=⟨v,μ,w,.inl b,H,Step.refl _ _ _,c⟩
theorem T5(H:HR μ s.h w)(F:FR μ n ρ a.tmps){x:Operand}{y:HV}(b:o.op = .move x\/o.op = .assign x)(c:CU ρ x=some y):DE P o a μ w s s y:=by
 rcases b with e | e <;> exact Bi H (v:=a.eval x) (by simp[execOp,e]) (B_ F c)
theorem pE(H:HR μ s.h w)(F:FR μ n ρ a.tmps){c x y:Operand}{b:Bool}{z:HV}(d:o.op = .pick c x y)(hc:CU ρ c=some (.b b))(e:CU ρ (Dh b x y)=some z):DE P o a μ w s s z:=by
 have h1:=B_ F hc;generalize f:a.eval c=cv at h1;cases h1;have h2:=B_ F e;refine Bi H (v:=a.eval (Dh b x y)) ?_ h2;cases b <;> simp[execOp,d,f,asBool]
theorem fL(H:HR μ s.h w){t:TypeId}{z:List HV}(b:o.op = .alloc t)(d:fK P t=some z)(e:μ s.nx=none):DE P o a μ w s (FT s (.c z)) (.p s.nx 0):=by
 obtain⟨i,v,_,_,f,hc⟩:=Pm d;obtain⟨h1,h2⟩:=KT H e (x := .cells v.cells t) v.cells.size (o := .c z) fun μ' w' _ g=>⟨v.cells,t,g,rfl,(hc μ').cr⟩;exact⟨_,_,_,.inl (by simp[execOp,b,Instr.alloc,f,newVar,newRow]),h1,h2,.p (r:=(w.heap.size,v.cells.size)) (by simp[Di])⟩
def L9:HV->Option (List HV)
 | .g cs=>some cs
 | x=>BV x.one (some [x])
theorem fM{x:HV}{v:Value}{a:List HV}(b:VR μ x v)(hc:L9 x=some a):IM μ a v.cells:=by
 cases x with
 | g cs =>
  simp only[L9,Ab] at hc;subst hc;exact (Mr (n:=C cs) b (by simp[K7])).2
 | u=>cases hc
 | t _=>cases hc
 | _ =>
  simp only[L9,HV.one,BV,Ab] at hc;subst hc;exact (Mr (n:=1) b (by simp[K7,HV.one])).2
theorem vS(H:HR μ s.h w)(F:FR μ n ρ a.tmps){t:TypeId}{x:Operand}{y:HV}{z:List HV}(b:o.op = .box t x)(d:CU ρ x=some y)(e:L9 y=some z)(f:μ s.nx=none) :
  DE P o a μ w s (FT s (.c z)) (.p s.nx 0):=by
 have hc:=fM (B_ F d) e;obtain⟨h1,h2⟩:=KT H f (x := .cells (a.eval x).cells t) (a.eval x).cells.size (o := .c z) fun μ' w' g i=>⟨_,t,i,rfl,(hc.mono g).cr⟩;exact⟨_,_,_,.inl (by simp[execOp,b,Instr.box,newVar,newRow]),h1,h2,.p (r:=(w.heap.size,(a.eval x).cells.size)) (by simp[Di])⟩
theorem Apu{cs e h:List HV}{cells a:Array Value}{off:Nat}(hc:IM μ cs cells)(g:IM μ e a)(hl:MI cs off e=some h) :
  IM μ h (a.zipIdx.foldl (fun (cs:Array Value) (p:Value × Nat)=>cs.setIfInBounds (off+p.2) p.1) cells):=by
 unfold MI at hl;split at hl
 ·rename_i m;cases hl;have n:a.zipIdx.foldl (fun (cs:Array Value) (p:Value × Nat)=>cs.setIfInBounds (off+p.2) p.1) cells=(a.toList.zipIdx 0).foldl (fun (cs:Array Value) (p:Value × Nat)=>cs.setIfInBounds (off+p.2) p.1) cells:=by
   rw[<- PK,Aui]
  rw[n];have o:=U9 off (a.toList.zipIdx 0) cells;have q:=hc.2.1;have r:=g.2.1;refine⟨fun x b => ?_,by rw[o,q];simp;omega,fun i h1 h2 => ?_⟩
  ·simp only[AF] at b;rcases b with (b | b) | b
   ·exact hc.1 x (B8 b)
   ·exact g.1 x b
   ·exact hc.1 x (C1 b)
  ·have c:=U8 off a.toList 0 cells i;have d:=O1 cs e off i m;rw[Ad h1] at d;rw[A4 h2] at c;have hin:i<cells.size:=by omega
   simp only[Bn,Bt] at c;by_cases j:off<=i/\i<off+a.size
   ·rw[Af ⟨j.1,j.2,hin⟩] at c;rw[Ak (by omega),Af (by omega)] at d;have f:i-off<C e:=by omega
    rw[Ad f] at d;have hu:a.toList[i-off]? = some (a[i-off]'(by omega)):=by simp
    rw[hu] at c;rw[AM c,AM d];exact g.2.2 _ f _
   ·rw[Ak (by omega)] at c;have f:i<C cs:=by omega
    have k:cs[i]? = some ((cs.take off++e++cs.drop (off+C e))[i]):=by
     by_cases l:i<off
     ·rw[Af l] at d;exact d.symm
     ·rw[Ak l,Ak (by omega)] at d;exact d.symm
    rw[Ad f] at k;rw[A4 hin] at c;rw[<- AM k,AM c];exact hc.2.2 _ f _
 ·cases hl
def S8(ρ:En)(a:Nat->Option (Nat × Nat))(cs:List HV)(ps:List (Nat × Operand)):Option (List HV) :=
 BG (motive:=fun _=>List HV->Option (List HV)) (fun cs=>some cs) (fun p _ b cs=>bO (a p.1) fun q=>bO (CU ρ p.2) fun y=>bO (Ry y q.2) fun c=>bO (XP c q.1 cs) fun d=>b d) ps cs
theorem pF(ρ:En)(a:Nat->Option (Nat × Nat))(cs:List HV)(p:Nat × Operand)(ps:List (Nat × Operand)) :
  S8 ρ a cs (p::ps)=bO (a p.1) fun q=>bO (CU ρ p.2) fun y=>bO (Ry y q.2) fun b=>bO (XP b q.1 cs) fun c=>S8 ρ a c ps:=rfl
theorem Pn(F:FR μ n ρ a.tmps){e:Nat->Option (Nat × Nat)}:∀ {ps:List (Nat × Operand)} {cells:Array Value} {cs b:List HV},IM μ cs cells->S8 ρ e cs ps=some b ->
   ∃ c,Dp e cells (ps.map fun p=>(p.1,a.eval p.2))=some c/\IM μ b c
 | [],cells,cs,b,hc,hf=>by
  cases hf;exact⟨cells,rfl,hc⟩
 | (i,x)::ps,cells,cs,b,hc,hf=>by
  rw[pF] at hf;obtain⟨⟨off,k⟩,h,hf⟩:=bind_some hf;obtain⟨y,ho,hf⟩:=bind_some hf;obtain⟨f,d,hf⟩:=bind_some hf;obtain⟨o,hl,hf⟩:=bind_some hf;have d:=XT d;rw[O2] at hl;obtain⟨hn,g⟩:=Mr (B_ F ho) d;obtain⟨c,j,l⟩:=Pn F (Apu hc g hl) hf;refine⟨c,?_,l⟩;simp only[BQ,Dp,h];have q:off+C f<=C cs:=by
   unfold MI at hl;split at hl
   ·assumption
   ·cases hl
  have r:=hc.2.1;have s:(a.eval x).cells.size=C f:=g.2.1;simp only at hn;have m:((a.eval x).cells.size ≠ k || off+(a.eval x).cells.size>cells.size)=false:=by
   simp only[ne_eq,aK,OA,Agf,gt_iff_lt,Agz];omega
  rw[Ak (by rw[m];simp)];exact j
section
variable(P:Program)(fs:Array Field)
def Apv:Bool:=fs.all fun f=>(P.info? f.type).isSome
def vT(i:Nat):Option (Nat × Nat):=match fs[i]? with | some f=>some (f.offset,P.cellsOf f.type) | none=>none
end
def fN(P:Program)(ρ:En)(t:TypeId)(ps:List (Nat × Operand)):Option HV :=
 match P.underlying t with
 | some (.struct fs)=>BV (Apv P fs) (bO (fK P t) fun z=>(S8 ρ (vT P fs) z ps).map .g)
 | some (.array _ e)=>BV (P.info? e).isSome (bO (fK P t) fun z=>(S8 ρ (fun i=>some (i*P.cellsOf e,P.cellsOf e)) z ps).map .g)
 | _=>none
theorem fO(H:HR μ s.h w)(F:FR μ n ρ a.tmps){t:TypeId}{ps:Array (Nat × Operand)}{y:HV}(x:o.op = .build t ps)(b:fN P ρ t ps.toList=some y):DE P o a μ w s s y:=by
 unfold fN at b;split at b
 ·rename_i fs j;obtain⟨k,b⟩:=A9 b;obtain⟨z,l,b⟩:=bind_some b;simp only[S] at b;obtain⟨cs,hf,rfl⟩:=b;obtain⟨_,v,_,_,q,hc⟩:=Pm l;obtain⟨c,r,d⟩:=Pn F (hc μ) hf;have A:(fun i=>(fs.map fun f=>(f.offset,P.cellsOf f.type))[i]?)=vT P fs:=by
   funext i;simp only[vT,Array.getElem?_map];cases fs[i]? <;> rfl
  have u:Dp (fun i=>(fs.map fun f=>(f.offset,P.cellsOf f.type))[i]?) v.cells (ps.map fun p=>(p.1,a.eval p.2)).toList=some c:=by rw[CW,A];exact r
  refine Bi H (v := .agg c) ?_ (.g cs c d.1 d.2.1 d.2.2);simp only[execOp,x,JC,Am,q,Aa,run_underlying j,PL k,u,Ap]
 ·rename_i m e j;obtain⟨k,b⟩:=A9 b;obtain⟨z,l,b⟩:=bind_some b;simp only[S] at b;obtain⟨cs,hf,rfl⟩:=b;obtain⟨D,B⟩:=A5.1 k;have C:(sizeOf e).run P w = .ok (P.cellsOf e) w:=by simp[sizeOf,typeInfo,program,Cn,B,H6]
  obtain⟨_,v,_,_,q,hc⟩:=Pm l;obtain⟨c,r,d⟩:=Pn F (hc μ) hf;have u:Dp (fun i=>some (i*P.cellsOf e,P.cellsOf e)) v.cells (ps.map fun p=>(p.1,a.eval p.2)).toList=some c:=by rw[CW];exact r
  refine Bi H (v := .agg c) ?_ (.g cs c d.1 d.2.1 d.2.2);simp only[execOp,x,JC,Am,q,Aa,run_underlying j,C,u,Ap]
 ·cases b
def LA(z:List HV):Nat->List HV
 | 0=>[]
 | m+1=>z++LA z m
section
variable(z:List HV)(m:Nat)
theorem Ms:C (LA z m)=m*C z:=by
 induction m with
 | zero=>simp[LA]
 | succ m a=>simp only[LA,Ac,a,Kh];omega
theorem Afh:∀ i,i<m*C z->(LA z m)[i]? = z[i % C z]? := by
 induction m with
 | zero=>intro i h;omega
 | succ m a =>
  intro i h;rw[Kh] at h;simp only[LA];by_cases hi:i<C z
  ·rw[AA hi,Hg hi]
  ·rw[AO (by omega),a _ (by omega)];congr 1;exact (Nat.mod_eq_sub_mod (by omega)).symm
theorem Afi:∀ x∈LA z m,x∈z:=by
 induction m with
 | zero=>intro x h;cases h
 | succ m a =>
  intro x h;simp only[LA,AF] at h;exact h.elim id (a x)
end
theorem Z'{z:List HV}{a:Array Value}{m k:Nat}(h:IM μ z a)(d:a.size=k):IM μ (LA z m) ((ES (m*k)).map (a[· % a.size]!)):=by
 have hl:C z=k:=by rw[<- d];exact h.2.1.symm
 refine⟨fun x f=>h.1 x (Afi z m x f),by rw[Ms,hl];simp,fun j h1 h2 => ?_⟩;rw[Ms] at h1;have c:=Afh z m j h1;have b:j % C z<C z:=Nat.mod_lt _ (by
  rcases Ic (C z) with e | e
  ·rw[e] at h1;omega
  ·exact e)
 rw[Ad (by rw[Ms];exact h1),Ad b] at c;rw[AM c];have:=h.2.2 (j % C z) b (by rw[h.2.1];exact b);have g:((ES (m*k)).map (a[· % a.size]!))[j]=a[j % C z]'(by rw[h.2.1];exact b):=by
  simp only[M6,SS,h.2.1];exact getElem!_pos a _ _
 rw[g];exact this
def Mt(P:Program)(ρ:En)(t:TypeId)(m:Nat)(ps:List (Nat × Operand)):Option (List HV) :=
 bO (Zc P t) fun q=>Dh (Au m 0) (match ps with | []=>some [] | _=>none) <| BV (CM 1 q.2.1&&CM 1 m&&CM (m*q.2.1) 16777216) <| bO (fK P q.1) fun z=>BV (Au (C z) q.2.1) <| S8 ρ (fun i=>some (i*q.2.1,q.2.1)) (LA z m) ps
theorem R1(H:HR μ s.h w)(F:FR μ n ρ a.tmps){t:TypeId}{m:Nat}{ps:Array (Nat × Operand)}{cs:List HV}(y:o.op = .buildSlice t m ps)(d:Mt P ρ t m ps.toList=some cs)(A:μ s.nx=none) :
  DE P o a μ w s (FT s (.c cs)) (.s s.nx 0 m (.k m)):=by
 unfold Mt at d;obtain⟨⟨e,k,b⟩,B,d⟩:=bind_some d;cases f:Au m 0;rotate_left
 ·rw[f] at d;have f:=Aj f;subst f;simp only[cnd_true] at d;split at d
  ·rename_i q;cases d;obtain⟨i,hu,hi,C,hb⟩:=Jv B;have q:ps=#[]:=by cases ps;simp at q;rw[q]
   subst q;obtain⟨h1,h2⟩:=KT H A (x := .cells #[] e) 0 (o := .c []) fun μ' w' D u=>⟨#[],e,u,rfl,fun x G=>(by cases G),fun j I=>(by simp at I)⟩;refine⟨.slice (some ⟨w.heap.size,0,none⟩) 0 0,_,_,.inl ?_,h1,h2,.s (r:=(w.heap.size,0)) (by simp[Di]) (Ar _) rfl⟩;simp[execOp,y,GR,run_underlying hu,Ei hi,Dp,newRow,Array.range_zero']
  ·cases d
 rw[f] at d;obtain⟨g,d⟩:=A9 d;obtain⟨z,E,d⟩:=bind_some d;obtain⟨hl,d⟩:=A9 d;simp only[U,IA] at g;have hl:=Aj hl;simp only at hl d g E;obtain⟨i,hu,hi,C,hb⟩:=Jv B;obtain⟨_,v,_,_,J,hc⟩:=Pm E;have K:v.cells.size=k:=by rw[(hc μ).2.1,hl]
 obtain⟨l,L,M⟩:=Pn F (Z' (m:=m) (hc μ) K) d;have N:Dp (fun i=>some (i*k,k)) ((ES (m*k)).map (v.cells[· % v.cells.size]!)) (ps.map fun p=>(p.1,a.eval p.2)).toList=some l:=by rw[CW];exact L
 obtain⟨h1,h2⟩:=KT H A (x := .cells l e) l.size (o := .c cs) fun μ' w' D u=>⟨l,e,u,rfl,(M.mono D).cr⟩;refine⟨.slice (some ⟨w.heap.size,0,none⟩) m m,_,_,.inl ?_,h1,h2,.s (r:=(w.heap.size,l.size)) (by simp[Di]) (Ar _) rfl⟩;have O:¬ (m*k>2^24):=by have:=g.2;omega
 have Q:¬ (m*k=0):=by
  have:=Nat.mul_le_mul g.1.2 g.1.1;omega
 simp only[execOp,y,GR,Am,run_underlying hu,Aa,Ei hi,C,Ak O,Ak Q,J,Ap,N,newRow];rfl
theorem pG(H:HR μ s.h w)(F:FR μ n ρ a.tmps){t:TypeId}{x:Operand}{id off k:Nat}{one:Bool}{cs:List HV}{y:HV}(b:o.op = .load t x)(d:CU ρ x=some (.p id off))(hs:R0 P t=some (k,one))
  (e:s.h.get id=some (.c cs)) (f:O0 cs off k one=some y):DE P o a μ w s s y:=by
 have h1:=B_ F d;generalize g:a.eval x=v at h1;cases h1;rename_i r hr;obtain⟨u,h2,i⟩:=zS H (Pk hs) e hr f;exact Bi H (v:=u) (by simp only[execOp,b,Lf,g,Cl,Am,Ap,Aa,h2]) i
def H2(s:HS)(a:Nat)(o:HO):HS:=⟨s.h.set a (some o),s.nx,a::s.lg⟩
theorem fP(H:HR μ s.h w)(F:FR μ n ρ a.tmps){t:TypeId}{x y:Operand}{id off k:Nat}{one:Bool}{cs b d:List HV}{z:HV}(e:o.op = .store t x y)(f:CU ρ x=some (.p id off))(g:CU ρ y=some z)
  (hs:R0 P t=some (k,one)) (i:s.h.get id=some (.c cs)) (j:K7 z k=some b) (hl:MI cs off b=some d):DE P o a μ w s (H2 s id (.c d)) .u:=by
 have h1:=B_ F f;generalize l:a.eval x=v at h1;cases h1;rename_i r hr;obtain⟨hn,hc⟩:=Mr (B_ F g) j;obtain⟨w',h2,m,q⟩:=Apr H (Ed (Pk hs)).2 i hr hc hn hl;exact⟨_,μ,w',.inr ⟨by simp only[execOp,e,Ib,l,Cl,Am,Ap,Aa,h2],rfl⟩,m,q,.u⟩
theorem S9(H:HR μ s.h w)(F:FR μ n ρ a.tmps){t b:TypeId}{x:Operand}{f id off c k:Nat}{one:Bool}(d:o.op = .fieldAddr t x f)(g:CU ρ x=some (.p id off))(hf:foP P t f=some (c,b))(i:R0 P b=some (k,one))(hn:Au k 0=false) :
  DE P o a μ w s s (.p id (off+c)):=by
 have h1:=B_ F g;generalize j:a.eval x=v at h1;cases h1;rename_i r hr;obtain⟨fs,fl,l,m,rfl,rfl⟩:=zU hf;have q:=(Ed (Pk i)).2;have hn:¬ k=0:=fun e=>by rw[e] at hn;cases hn
 refine Bi H (v := .pointer (some ⟨r.1,off+fl.offset,none⟩)) ?_ (.p hr);simp only[execOp,d,Instr.fieldAt,Am,run_underlying l,Aa,m,j,Cl,Ap,fieldPlace,q,hn,if_false,Dk]
theorem SA(H:HR μ s.h w)(F:FR μ n ρ a.tmps){t e:TypeId}{x y:Operand}{id off len k b:Nat}{cap:Cap}{q:IntKind}{j:Nat}(f:o.op = .indexAddr t x y)(g:CU ρ x=some (.s id off len cap))(l:CU ρ y=some (.i q j))
  (m:Zc P t=some (e,k,b)) (d:Jd j len=true):DE P o a μ w s s (.p id (off+j*k)):=by
 have h1:=B_ F g;have h2:=B_ F l;generalize z:a.eval x=v at h1;generalize hu:a.eval y=u at h2;cases h1;cases h2;rename_i c r hr hl hc;obtain⟨i,A,hi,rfl,_⟩:=Jv m;have d:(0:Int)<=(j:Int)/\(j:Int)<(len:Int):=by rw[Jx] at d;omega
 refine Bi H (v := .pointer (some ⟨r.1,off+j*i.size,none⟩)) ?_ (.p hr);simp only[execOp,f,RJ,z,hu,Am,run_underlying A,Aa,Ap,asIntOf,Af d,Ei hi,Dk,Ao]
def Apw:HV->Bool
 | .p _ _=>true
 | .f _ _ _=>true
 | .m _=>true
 | _=>false
theorem TT(H:HR μ s.h w)(F:FR μ n ρ a.tmps){x:Operand}{y:HV}(b:o.op = .nilCheck x)(c:CU ρ x=some y)(d:Apw y=true):DE P o a μ w s s y:=by
 have h1:=B_ F c;generalize e:a.eval x=v at h1;refine Bi H (v:=v) ?_ h1;cases h1 <;> first | (simp[execOp,b,e];done) | cases d
theorem XW(H:HR μ s.h w)(F:FR μ n ρ a.tmps){x:Operand}{i:Nat}{cs:List HV}{y:HV}(b:o.op = .extract x i)(c:CU ρ x=some (.t cs))(d:cs[i]? = some y):DE P o a μ w s s y:=by
 have h1:=B_ F c;generalize e:a.eval x=v at h1;obtain⟨hi,f⟩:=AZ.1 d;cases h1 with
 | t _ vs hs hr =>
  refine Bi H (v:=vs[i]'(by omega)) ?_ (f ▸ hr i hi (by omega));have:vs[i]? = some (vs[i]'(by omega)):=A4 _;simp[execOp,b,qT,e,this]
theorem Qz{t:TypeId}{k off:Nat}{one:Bool}{cs:List HV}{vs:Array Value}{y:HV}(hc:IM μ cs vs)(hs:R0 P t=some (k,one))(a:O0 cs off k one=some y):∃ v,(part t vs off).run P w = .ok v w/\VR μ y v:=by
 obtain⟨h1,h2⟩:=Ed (Pk hs);unfold O0 at a;cases one with
 | true =>
  simp only[if_true] at a;obtain⟨c,b⟩:=AZ.1 a;have d:off<vs.size:=by rw[hc.2.1];exact c
  refine⟨vs[off],?_,b ▸ hc.2.2 off c d⟩;simp[part,h1,A4 d]
 | false =>
  simp only[AC,if_false] at a;split at a
  ·rename_i e;cases a;have h:off+k<=vs.size:=by rw[hc.2.1];exact e
   refine⟨.agg (vs.extract off (off+k)),?_,.g _ _ ?_ (by simp;omega) (fun i f j => ?_)⟩
   ·simp[part,h1,h2]
   ·intro x b;exact hc.1 x (C1 (B8 b))
   ·have hi:i<k:=by simp at f;omega
    have:=hc.2.2 (off+i) (by omega) (by omega);simpa using this
  ·cases a
theorem Axp{cs:List HV}{v:Value}(h:VR μ (.g cs) v):∃ vs,v = .agg vs/\IM μ cs vs:=by
 cases h with
 | g _ vs ho hs hr=>exact⟨vs,rfl,ho,hs,hr⟩
theorem fQ(H:HR μ s.h w)(F:FR μ n ρ a.tmps){t b:TypeId}{x:Operand}{f c k:Nat}{one:Bool}{cs:List HV}{y:HV}(d:o.op = .field t x f)(e:CU ρ x=some (.g cs))(hf:foP P t f=some (c,b))(i:R0 P b=some (k,one))
  (j:O0 cs c k one=some y):DE P o a μ w s s y:=by
 obtain⟨vs,l,hc⟩:=Axp (B_ F e);obtain⟨fs,fl,m,p,rfl,rfl⟩:=zU hf;obtain⟨v,h1,h2⟩:=Qz (P:=P) (w:=w) hc i j;refine Bi H (v:=v) ?_ h2;simp only[execOp,d,aI,l,Am,run_underlying m,Aa,p,asAgg,h1,Ap]
end
end
end Go.Hp
