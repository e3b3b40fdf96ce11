/- Texts of the proof of ContactStates: part 9 of 18. -/
import Derived.RangeFuncRecord
import Derived.Test.YtenfgdobfjofkaaGreatCst8
namespace Go.Hp
open Go.Ai Go.RowKit
open _root_.Array renaming getElem?_append_left->U8,getElem?_eq_getElem->AE,getElem?_eq_some_iff->AR,getElem?_setIfInBounds_ne->Jo,getElem?_toList->E4,length_toList->B3,size_append->SX,toList_push->AIy
open Bool renaming and_eq_true->U,and_self->E8,eq_false_or_eq_true->Q,false_or->Aey,not_eq_true'->Bl,or_eq_false_iff->nM,or_eq_true->CD,rec->HK,true_and->G8
open _root_.ByteArray renaming empty->Bw
open Classical renaming byContradiction->vX
open Go renaming undef->A9
open Go.Builtin renaming append_->Bi,cap_->A7c,copy_->Gm,firstCells->EV,lenOf->EE,len_->H0,max_->AIz,min_->AJa,zeroCells->G5
open Go.Instr renaming checkKey->FA,findKey->N6,findNow->Fp,index->Apn,keyThatStays->Aki,lookup->OJ,mapUpdate->nL,next->AIe,sameBits->ON,slice->Iq,sliceAt->F9,sliceBound->iR,sliceBounds->J2
open Go.IntKind renaming i64->D
open Go.Op renaming equal->Alb,stringOp->N9
open Go.Result renaming andThen_ok->W
open Go.RowKit.Below renaming heap_alloc->FM
open Go.Sem renaming run->Cl,run_bind->Aj,run_pure->An
open Go.Utf8 renaming decode->VN
open Go.World renaming putObj_heap_other->EA,putObj_heap_same->A8o
open Int renaming mul_le_mul_of_nonneg_right->Avs,toNat_natCast->Aq
open List renaming append_assoc->Ci,cons_append->HZ,drop->R,drop_zero->AL,eq_nil_of_length_eq_zero->Bb,getD_eq_getElem?_getD->Z,getElem?_append_left->AO,getElem?_append_right->A_,getElem?_cons_succ->Eb,getElem?_cons_zero->C2,getElem?_eq_getElem->Af,getElem?_eq_some_iff->Az,getElem?_take_of_lt->B8,getElem?_toArray->C3,getElem_append_left->Dj,getElem_append_right->Dd,getElem_cons_zero->Bk,getElem_modify->Akj,getElem_of_mem->ED,getElem_set_ne->HM,getElem_set_self->N4,getElem_toArray->EI,length->C,length_append->Ah,length_cons->B1,length_drop->C5,length_nil->Fr,length_take->Db,mem_append->AK,mem_cons->Aw,mem_cons_of_mem->AJ,mem_cons_self->AKh,mem_of_mem_drop->Cv,mem_of_mem_take->BC,mem_range'_1->AJn,nil_append->Dg,range->AZ,range'->WS,rec->BZ,size_toArray->CS,take->CN,take_append_of_le_length->F8,take_of_length_le->E_,take_succ_cons->K3,take_zero->J'
open Nat renaming add_assoc->DC,add_mul->EC,add_zero->Bv,beq->AKi,beq_refl->E7,ble->Dq,ble_eq->JM,blt->Ks,blt_eq->KD,eq_of_beq_eq_true->Ao,le_of_eq->XP,le_refl->Ay,le_succ->Aqk,le_trans->AA,lt_succ_self->FJ,min->R_,mul_le_mul_right->Kq,rec->Pj,sub_self->Wo,succ->L8,zero_add->AH,zero_le->B_
open Ne renaming symm->CW
open Option renaming getD_some->F6,isNone_iff_eq_none->JL,map_eq_some_iff->S,map_none->L7,map_some->Am,rec->HW
open Option.some renaming inj->AY,injEq->Ac
open Prod.mk renaming injEq->Cc
open UInt8 renaming ofNat->Apo
noncomputable section
def MH:List HV->Option (u)
 | []=>some []
 | .i k n::l=>(MH l).map (.int k n::·)
 | _=>none
def avH:HV->Option AV
 | .b x=>some (.bool x)
 | .i k n=>some (.int k n)
 | .g cs=>(MH cs).map .agg
 | _=>none
def hvA:AV->Option HV
 | .int k n=>some (.i k n)
 | .bool b=>some (.b b)
 | .str b=>some (.c (.string b))
 | _=>none
theorem R0:∀ {cs:List HV} {asx:u},MH cs=some asx->C asx=C cs/\∀ (j:Nat) (h1:j<C cs) (h2:j<C asx),∃ k n,cs[j] = .i k n/\asx[j] = .int k n
 | [],asx,h=>by
  simp only[MH,Ac] at h;subst h;exact⟨rfl,fun j h1=>(by simp at h1)⟩
 | x::l,asx,h=>by
  cases x <;> simp only[MH,S] at h <;> try cases h
  rename_i k n bs h;obtain⟨h,rfl⟩:=h;obtain⟨a,b⟩:=R0 h;refine⟨by simp[a],fun j h1 h2 => ?_⟩;cases j with
  | zero=>exact⟨k,n,rfl,rfl⟩
  | succ j=>exact b j (by simpa using h1) (by simpa using h2)
theorem uO{μ:Mu}{Y X:Nat->Prop}{w:World}{x:HV}{v:Value}{y:AV}(h:VR μ x v)(c:avH x=some y):Rd Y X w v y:=by
 cases x <;> simp only[avH,Ac,S] at c <;> try cases c
 ·cases h;exact .bool _
 ·cases h;exact .int _ _
 ·rename_i cs asx c;obtain⟨c,rfl⟩:=c;obtain⟨a,b⟩:=R0 c;cases h with
  | g _ vs ho hs hr =>
   refine .agg vs asx (fun z d => ?_) (by omega) (fun j h1 h2 => ?_)
   ·obtain⟨j,f,rfl⟩:=ED d;obtain⟨k,n,_,e⟩:=b j (by omega) f;rw[e];rfl
   ·obtain⟨k,n,i,l⟩:=b j (by omega) h2;have:=hr j (by omega) h1;rw[i] at this;rw[l];generalize vs[j]=u at this;cases this;exact .int _ _
theorem Aoo{μ:Mu}{Y X:Nat->Prop}{w:World}{x:HV}{v:Value}{y:AV}(h:Rd Y X w v y)(a:hvA y=some x):VR μ x v:=by
 cases y <;> simp only[hvA,Ac] at a <;> try cases a
 ·cases h;exact .i _ _
 ·cases h;exact .b _
 ·cases h;exact .c _ ⟨rfl,rfl⟩
def nB(op:BinOp)(r:Bool):Option HV :=
 match op with
 | .eql=>some (.b r)
 | .neq=>some (.b (!r))
 | _=>none
def A6v(P:Program)(op:BinOp)(t:TypeId):HV->HV->Option HV
 | .i k a,.i d b=>bO (KN op (.int k a) (.int d b)) hvA
 | .b a,.b c=>Cu (O' P t) (nB op (a==c))
 | .g xs,.g e=>bO (MH xs) fun asx=>bO (MH e) fun bs=>Cu (Alh P t (C xs)) (bO (Bt asx bs) (nB op))
 | .s _ _ _ _,.sn=>Cu (Fb P t) (nB op false)
 | .sn,.sn=>Cu (Fb P t) (nB op true)
 | .c (.string a),.c (.string b)=>bO (kO op a b) hvA
 | _,_=>none
section
variable {P:Program} {o:Oper} {a:Act} {μ:Mu} {w:World} {s:HS} {n:Nat} {ρ:En}
theorem Uv{op:BinOp}{t:TypeId}{x y:Operand}{u v:Value}{r:Bool}{z:HV}{t':TypeId}(H:HR μ s.h w)(e:o.op = .binOp op t x y t')(c:nB op r=some z)(hu:a.eval x=u)(f:a.eval y=v)
  (g:(eqGuard op t x y u v).run P w = .ok () w) (i:(Alb t u v).run P w = .ok r w) (hb:∀ d,d = .eql\/d = .neq->binOp d t u v=(if d = .eql then (do pure (.bool (<- Alb t u v))) else (do pure (.bool (!(<- Alb t u v)))))):E1 P o a μ w s s z:=by
 unfold nB at c;split at c
 ·cases c;refine Br H (v := .bool r) ?_ (.b _);simp only[execOp,e,hu,f,Aj,g,W,hb .eql (.inl rfl),if_true,i,An]
 ·cases c;refine Br H (v := .bool (!r)) ?_ (.b _);simp only[execOp,e,hu,f,Aj,g,W,hb .neq (.inr rfl),reduceCtorEq,if_false,i,An]
 ·cases c
theorem Akc(H:HR μ s.h w)(F:FR μ n ρ a.tmps){op:BinOp}{t t':TypeId}{x y:Operand}{p q z:HV}(f:o.op = .binOp op t x y t')(B:D3 ρ x=some p)(C:D3 ρ y=some q)(d:A6v P op t p q=some z):E1 P o a μ w s s z:=by
 have h1:=Cy F B;have h2:=Cy F C;generalize hu:a.eval x=u at h1;generalize g:a.eval y=v at h2;unfold A6v at d;split at d
 ·cases h1;cases h2;obtain⟨c,hb,hc⟩:=bind_some d;obtain⟨r,E,hr⟩:=wL (P:=P) (w:=w) (t:=t) (Y:=fun _=>False) (X:=fun _=>False) hb;exact Br H (v:=r) (by simp[execOp,f,hu,g,MS,E]) (Aoo hr hc)
 ·rename_i i j;cases h1;cases h2;obtain⟨h0,d⟩:=AS d;have G:P.underlying t=some .bool:=by
   unfold O' at h0;split at h0
   ·assumption
   ·cases h0
  exact Uv H f d hu g (IN ..) (run_equalIn_bool' w 9999 t i j G) (by rintro l (rfl | rfl) <;> rfl)
 next xs J=>obtain⟨asx,A,d⟩:=bind_some d;obtain⟨bs,I,d⟩:=bind_some d;obtain⟨h0,d⟩:=AS d;obtain⟨r,hr,d⟩:=bind_some d;have r1:Rd (fun _=>False) (fun _=>False) w u (.agg asx):=uO h1 (by simp[avH,A]);have r2:Rd (fun _=>False) (fun _=>False) w v (.agg bs):=uO h2 (by simp[avH,I]);obtain⟨us,vs,rfl,rfl,heq,k⟩:=Ali h0 r1 r2 (R0 A).1 hr x y;exact Uv H f d hu g (k op) heq (by rintro l (rfl | rfl) <;> rfl)
 ·obtain⟨h0,d⟩:=AS d;obtain⟨e,m⟩:=Ej h0;cases h1;cases h2;exact Uv H f d hu g (by cases op <;> rfl) (run_equal_slice_nil w t e _ _ _ m) (by rintro l (rfl | rfl) <;> rfl)
 ·obtain⟨h0,d⟩:=AS d;obtain⟨e,m⟩:=Ej h0;cases h1;cases h2;exact Uv H f d hu g (by cases op <;> rfl) (run_equal_slice_nil w t e _ _ _ m) (by rintro l (rfl | rfl) <;> rfl)
 ·rename_i i j;obtain⟨c,hc,d⟩:=bind_some d;cases h1;cases h2;have k:(eqGuard op t x y (.string i) (.string j)).run P w = .ok () w:=by cases op <;> rfl
  cases op <;> simp only[kO] at hc <;> first | (cases hc;done) | skip
  ·split at hc
   ·rename_i K;cases hc;cases d;have hn:¬ (((i.size+j.size:Nat):Int)>IntKind.max D):=by
     have:IntKind.max D=9223372036854775807:=by decide
     omega
    exact Br H (v := .string (i++j)) (by simp only[execOp,f,hu,g,Aj,k,W,binOp,N9,hn,if_false,An]) (.c _ ⟨rfl,rfl⟩)
   ·cases hc
  ·cases hc;cases d;exact Br H (v := .bool (i.toList==j.toList)) (by simp only[execOp,f,hu,g,Aj,k,W,binOp,N9,An]) (.b _)
  ·cases hc;cases d;exact Br H (v := .bool (!(i.toList==j.toList))) (by simp only[execOp,f,hu,g,Aj,k,W,binOp,N9,An]) (.b _)
 ·cases d
def unH(op:UnOp)(p:HV):Option HV:=bO (avH p) fun y=>bO (unA op y) hvA
theorem Auo(H:HR μ s.h w)(F:FR μ n ρ a.tmps){op:UnOp}{t:TypeId}{x:Operand}{p z:HV}(d:o.op = .unOp op t x)(e:D3 ρ x=some p)(b:unH op p=some z):E1 P o a μ w s s z:=by
 obtain⟨y,f,b⟩:=bind_some b;obtain⟨c,hc,b⟩:=bind_some b;obtain⟨v,g,hr⟩:=Alj (P:=P) (w:=w) (uO (Y:=fun _=>False) (X:=fun _=>False) (Cy F e) f) hc;exact Br H (v:=v) (by simp[execOp,d,g]) (Aoo hr b)
def cvH(P:Program)(a dst:TypeId):HV->Option HV
 | .i _ n=>match P.underlying dst with
  | some (.int k)=>Cu (Th P a) (some (.i k (k.wrap n)))
  | _=>none
 | _=>none
theorem gR(H:HR μ s.h w)(F:FR μ n ρ a.tmps){c dst:TypeId}{x:Operand}{p z:HV}(d:o.op = .convert c dst x)(e:D3 ρ x=some p)(b:cvH P c dst p=some z) :
  E1 P o a μ w s s z:=by
 have h1:=Cy F e;generalize f:a.eval x=v at h1;unfold cvH at b;split at b
 ·cases h1;split at b
  ·rename_i k hd;obtain⟨hs,b⟩:=AS b;cases b;unfold Th at hs;split at hs
   next ks g=>exact Br H (v := .int k (k.wrap _)) (by simp[execOp,d,f,convert,run_underlying g,run_underlying hd,Conv.intToInt]) (.i _ _)
   ·cases hs
  ·cases b
 ·cases b
theorem Xm(H:HR μ s.h w)(F:FR μ n ρ a.tmps){f:FuncId}{xs b:Array Operand}{fs cs:List HV}(c:o.op = .makeFunc (.func f) xs b)(d:R' ρ xs.toList=some fs)(e:R' ρ b.toList=some cs):E1 P o a μ w s s (.f f fs cs):=by
 obtain⟨g,i⟩:=Rv F d;obtain⟨j,k⟩:=Rv F e;exact Br H (v := .func (.func f) (xs.map a.eval) (b.map a.eval)) (by simp[execOp,c,Instr.makeFunc]) (.f f fs cs _ _ g j i k)
theorem gS(H:HR μ s.h w){t:TypeId}(b:o.op = .makeMap t none)(c:μ s.nx=none):E1 P o a μ w s (GS s (.m [])) (.m s.nx):=by
 obtain⟨h1,h2⟩:=MG H c (x := .map #[] 0) 0 (o := .m []) fun μ' w' _ d=>⟨#[],0,d,rfl,fun j h1=>(by simp at h1)⟩;exact⟨_,_,_,.inl (by simp[execOp,b,Instr.makeMap]),h1,h2,.m (r:=(w.heap.size,0)) (by simp[DP])⟩
def A6w(P:Program)(t:TypeId)(x:HV):Option ByteArray:=match P.underlying t,x with | some .string,.c (.string str)=>some str | _,_=>none
theorem uP(H:HR μ s.h w)(F:FR μ n ρ a.tmps){t:TypeId}{x:Operand}{p:HV}{str:ByteArray}(b:o.op = .range t x)(c:D3 ρ x=some p)(hs:A6w P t p=some str)(d:μ s.nx=none):E1 P o a μ w s (GS s (.it str 0)) (.p s.nx 0):=by
 have h1:=Cy F c;generalize e:a.eval x=v at h1;unfold A6w at hs;split at hs
 next hu=>cases hs;cases h1;obtain⟨f,g⟩:=MG H d (x := .stringIter str 0) 0 (o := .it str 0) fun μ' w' _ i=>i;exact⟨_,_,_,.inl (by simp[execOp,b,e,Instr.range,run_underlying hu]),f,g,.p (r:=(w.heap.size,0)) (by simp[DP])⟩
 ·cases hs
def uQ(str:ByteArray)(pos b:Nat)(s:HS):Option (HV × HS) :=
 DO (Ks pos str.size) (some (.t [.b true,.i .i64 (pos:Int),.i .i32 ((VN str pos).1:Int)],⟨s.h.set b (some (.it str (pos+(VN str pos).2))),s.nx,b::s.lg⟩)) (some (.t [.b false],s))
theorem Adl(H:HR μ s.h w)(F:FR μ n ρ a.tmps){x:Operand}{b pos:Nat}{str:ByteArray}{z:HV}{s':HS}(f:o.op = .next x true)(k:D3 ρ x=some (.p b 0))(hb:s.h.get b=some (.it str pos))(h:uQ str pos b s=some (z,s')):E1 P o a μ w s s' z:=by
 have h1:=Cy F k;generalize g:a.eval x=v at h1;cases h1 with
 | p c =>
  rename_i q;have d:w.heap[q.1]? = some (.stringIter str pos):=H.at hb c;have l:=(AR.1 d).1;unfold uQ at h;cases hc:Ks pos str.size
  ·rw[hc] at h;cases h;have hn:¬ pos<str.size:=fun e=>by rw[<- KD] at e;rw[e] at hc;cases hc
   refine Br H (v := .tuple #[.bool false]) ?_ (.t _ _ rfl fun j h1 h2 => ?_)
   ·simp[execOp,f,g,AIe,getObj,Cl,d,hn]
   ·have:j=0:=by simpa using h1
    subst this;exact .b false
  ·rw[hc] at h;cases h;have hn:pos<str.size:=by rwa [KD] at hc
   refine⟨.tuple #[.bool true,goInt pos,.int .i32 ((VN str pos).1:Int)],μ,w.putObj q.1 (.stringIter str (pos+(VN str pos).2)),.inl ?_,H.turn hb c (by simp) (fun b hb=>EA hb) (A8o l),Step.turn hb c rfl rfl rfl (by simp) (fun b hb=>EA hb),.t _ _ rfl fun j h1 h2 => ?_⟩
   ·simp[execOp,f,g,AIe,getObj,setObj,Cl,d,hn,World.putObj]
   ·match j,h1 with
    | 0,_=>exact .b true
    | 1,_=>exact .i .i64 _
    | 2,_=>exact .i .i32 _
def Lz(cs:List HV)(off m:Nat):Option (List HV):=Adf m off cs
theorem Adm{cs a:List HV}{off m:Nat}(h:Lz cs off m=some a):off+m<=C cs/\(cs.drop off).take m=a:=by
 unfold Lz at h;rw[Uq] at h;split at h
 ·exact⟨by assumption,AY h⟩
 ·cases h
theorem Akd{cs:List HV}{m:Nat}(h:C cs=m):Lz cs 0 m=some cs:=by
 unfold Lz;rw[Uq,Ae (by omega),AL,E_ (by omega)]
theorem Uw(H:HR μ s.h w){b off m:Nat}{q:Nat × Nat}{cs d:List HV}(hb:s.h.get b=some (.c cs))(g:μ b=some q)(i:Lz cs off m=some d) :
  ∃ e:List Value,C e=m/\C d=m/\(∀ j u,e[j]? = some u->w.cell? ((⟨q.1,off,none⟩:Addr).add j)=some u)/\JW μ d e.toArray:=by
 obtain⟨o,rfl⟩:=Adm i;have k:=H.cell hb g;have hd:=H.ones hb;let f:Nat->Value:=fun j=>(w.cell? ⟨q.1,off+j,none⟩).getD A9
 have hf:∀ j,j<m->w.cell? ⟨q.1,off+j,none⟩=some (f j)/\∀ h:off+j<C cs,VR μ cs[off+j] (f j):=by
  intro j a;obtain⟨v,hc,l⟩:=k (off+j) (by omega);refine⟨by simp[f,hc],fun _ => ?_⟩;have:f j=v:=by simp[f,hc]
  rw[this];exact l
 refine⟨(AZ m).map f,by simp,by simp;omega,fun j u hu => ?_,fun x n=>hd x (Cv (BC n)),by simp;omega,fun j h1 h2 => ?_⟩
 ·have a:j<m:=by
   have:=(Az.1 hu).1;simpa using this
  rw[Du,(hf j a).1];simp[a] at hu;rw[hu]
 ·have a:j<m:=by simpa using h2
  simpa using (hf j a).2 (by omega)
def A6x(P:Program)(s:HS)(a dst:TypeId)(p:HV):Option HV :=
 match p with
 | .s b off len _=>Cu (AKi len 1) <| match P.underlying a,P.underlying dst with
  | some (.slice e),some .string=>match P.underlying e with
   | some (.int .u8)=>gJ (s.h.get b) fun cs=>bO (Lz cs off 1) fun d=>match d with
    | [.i .u8 n]=>some (.c (.string (Bw.push (Apo n.toNat))))
    | _=>none
   | _=>none
  | _,_=>none
 | p=>cvH P a dst p
theorem Xn(H:HR μ s.h w)(F:FR μ n ρ a.tmps){f dst:TypeId}{x:Operand}{p z:HV}(g:o.op = .convert f dst x)(i:D3 ρ x=some p)(d:A6x P s f dst p=some z) :
  E1 P o a μ w s s z:=by
 unfold A6x at d;split at d
 ·rename_i b off len cap;have h1:=Cy F i;generalize k:a.eval x=v at h1;obtain⟨hl,d⟩:=AS d;have hl:=Ao hl;subst hl;split at d
  ·rename_i e hs hd;split at d
   ·rename_i l;obtain⟨cs,hb,d⟩:=E3 d;obtain⟨C,m,d⟩:=bind_some d;split at d
    ·rename_i j;cases d;cases h1 with
     | s r D hc =>
      rename_i c q;obtain⟨t,y,E,A,B⟩:=Uw H hb r m;match t,y with
      | [u],_ =>
       have hu:=B.2.2 0 (by simp) (by simp);simp only[Bk,EI] at hu;cases hu;have hr:=run_loadCells_list (P:=P) (w:=w) ⟨q.1,off,none⟩ [.int .u8 j] A;simp only[B1,Fr,AH] at hr;refine Br H (v := .string (Bw.push (Apo j.toNat))) ?_ (.c _ ⟨rfl,rfl⟩);simp[execOp,g,k,convert,run_underlying hs,run_underlying hd,run_underlying l,Conv.bytesToString,hr]
    ·cases d
   ·cases d
  ·cases d
 ·exact gR H F g i d
theorem WF{xs a:List HV}{us vs:List Value}(h1:JW μ xs us.toArray)(h2:JW μ a vs.toArray):JW μ (xs++a) (us++vs).toArray:=by
 have b:C us=C xs:=by simpa using h1.2.1
 have d:C vs=C a:=by simpa using h2.2.1
 refine⟨fun x e=>(AK.1 e).elim (h1.1 x) (h2.1 x),by simp[b,d],fun j f h => ?_⟩;simp only[EI];by_cases c:j<C xs
 ·rw[Dj c,Dj (by omega)];exact h1.2.2 j c (by simpa using (by omega:j<C us))
 ·have g:j-C xs<C a:=by simp at f;omega
  rw[Dd (by omega),Dd (by omega)];have:=h2.2.2 (j-C xs) g (by simpa using (by omega:j-C xs<C vs));simpa [b] using this
def uR(P:Program)(t t':TypeId):Option (Nat × Nat):=bO (kH P t) fun q=>Cu (Fb P t'&&Dq 1 q.2.1) <| bO (uH P q.1) fun z=>Cu (AKi (C z) q.2.1) (some q.2)
theorem nC{t t':TypeId}{k b:Nat}(h:uR P t t'=some (k,b)):∃ e a i z,P.underlying t=some (.slice e)/\P.underlying t'=some (.slice a)/\P.info? e=some i/\i.zero=some z/\i.size=k/\i.bytes=b/\z.cells.size=k/\0<k:=by
 unfold uR at h;obtain⟨⟨e,q,b'⟩,f,h⟩:=bind_some h;obtain⟨h1,h⟩:=AS h;obtain⟨z,g,h⟩:=bind_some h;obtain⟨h2,h⟩:=AS h;cases h;simp only[U,JM] at h1;obtain⟨i,j,c,l,m⟩:=KB f;obtain⟨a,n⟩:=Ej h1.1;obtain⟨r,v,d,o,_,p⟩:=Ry g;rw[c] at d;cases d;exact⟨e,a,i,v,j,n,c,o,l,m,by rw[(p fun _=>none).2.1];exact Ao h2,h1.2⟩
def gT(b n:Nat):Bool:=Dq (n*b) 140737488355328&&Dq n 140737488355328
def Ow(s:HS)(a:Nat)(cs:List HV):HS:=⟨(s.h.set a none).set s.nx (some (.c cs)),L8 s.nx,a::s.lg⟩
def apH(k b:Nat)(s:HS)(x:HV)(m:Nat)(e:List HV):RH :=
 match x with
 | .sn=>Cu (gT b m) (some (.s s.nx 0 m (.d k),GS s (.c e)))
 | .s a off n (.k c)=>gJ (s.h.get a) fun cs=>DO (Dq (n+m) c)
   (bO (gI e (off+n*k) cs) fun f=>some (.s a off (n+m) (.k c),IE s a (.c f)))
   (Cu (gT b (n+m)) <| bO (Lz cs off (n*k)) fun xs=>some (.s s.nx 0 (n+m) (.d k),GS s (.c (xs++e))))
 | .s a off n (.d sz)=>gJ (s.h.get a) fun cs=>Cu (AKi sz k&&AKi off 0&&AKi (Ade cs) (n*k)&&gT b (n+m)) (some (.s s.nx 0 (n+m) (.d k),Ow s a (cs++e)))
 | _=>none
def VO(s:HS)(x:HV):RH:=match x with | .sn=>some (x,s) | .s _ _ _ _=>some (x,s) | _=>none
def gU(P:Program)(s:HS)(t t':TypeId)(x y:HV):RH :=
 bO (uR P t t') fun q=>match y with
  | .sn=>(VO s x)
  | .s b off m _=>DO (AKi m 0) (VO s x) (gJ (s.h.get b) fun cs=>bO (Lz cs off (m*q.1)) fun a=>apH q.1 q.2 s x m a)
  | _=>none
end
end
noncomputable section
section
variable {P:Program} {μ:Mu} {w:World} {s:HS}
theorem HR.drew(H:HR μ s.h w):HR μ s.h w.drew:=⟨fun a o h=>let ⟨r,h1,h2⟩:=H.obj a o h; ⟨r,h1,h2.same (fun _ _ h=>h) rfl⟩,H.inj,H.lt⟩
theorem Step.drew{μ':Mu}{s':HS}{w':World}(h:Step μ s w.drew μ' s' w'):Step μ s w μ' s' w':=⟨h.le,h.os,h.tape,h.out,h.size,h.new,h.frame,h.stay⟩
def Res(P:Program)(m:Sem Value)(μ:Mu)(w:World)(s s':HS)(z:HV):Prop:=∃ v μ' w',m.run P w = .ok v w'/\HR μ' s'.h w'/\Step μ s w μ' s' w'/\VR μ' z v
theorem OH{t t' f e g:TypeId}{i:TypeInfo}(h:P.underlying t=some (.slice e))(hi:P.info? e=some i)(j:P.underlying t'=some (.slice g)){d:Option Addr}{n c:Nat}(hn:n<=c){b:Option Addr}{c2:Nat} :
  (Bi #[t,t'] f #[.slice d n c,.slice b 0 c2]).run P w = .ok (.slice d n c) w:=by
 rw[DD h hi j];have hf:(EV i.size 0 (.slice b 0 c2)).run P w = .ok #[] w:=by
  cases b with
  | none=>simp[EV]
  | some b=>simp[EV,loadCells,loadCellsFrom]
 cases d with
 | none=>simp[Bi,run_underlying h,sizeOf,typeInfo,hi,EE,hn,hf]
 | some a=>simp[Bi,run_underlying h,sizeOf,typeInfo,hi,EE,hn,hf,storeCells]
theorem gV{t t' ty e d:TypeId}{i:TypeInfo}(h:P.underlying t=some (.slice e))(hi:P.info? e=some i)(f:P.underlying t'=some (.slice d)){r off n c m c2:Nat}{b:Addr}{a:List Value}(hl:C a=m*i.size)
  (g:∀ j u,a[j]? = some u->w.cell? (b.add j)=some u) (k:n+m<=c) {w':World} (l:(storeCells ⟨r,off+n*i.size,none⟩ a 0).run P w = .ok () w') :
  (Bi #[t,t'] ty #[.slice (some ⟨r,off,none⟩) n c,.slice (some b) m c2]).run P w = .ok (.slice (some ⟨r,off,none⟩) (n+m) c) w':=by
 rw[DD h hi f];have o:=run_firstCells_some (P:=P) w i.size m b m c2 a hl g;simp[Bi,run_underlying h,sizeOf,typeInfo,hi,EE,k,o,Addr.add_lit,l]
theorem Qt.move(s:HS){a:Nat}{o:HO}(c:s.h.get a=some o)(cs:List HV):Qt s (Ow s a cs) where
 nx:=Aqk _
 lg b hb:=AJ _ hb
 dom b x hb:=by
  simp only[Ow,CA] at hb |-;split at hb
  next e=>subst e;exact .inr ⟨Ay _,FJ _⟩
  ·split at hb
   ·cases hb
   ·exact .inl ⟨_,hb⟩
 keep b hb hn:=by
  simp only[Ow,CA] at hn |-;rw[Al fun e=>hn ⟨XP e.symm,by omega⟩,Al fun e=>hb (by rw[e];exact AKh)]
 lgd b hb:=by
  rcases Aw.1 hb with rfl | hb
  ·exact .inr (.inl ⟨_,c⟩)
  ·exact .inl hb
theorem Aop(H:HR μ s.h w)(t:μ s.nx=none){a:Nat}{q q':Nat × Nat}{cs cs':List HV}(k:s.h.get a=some (.c cs))(g:μ a=some q){w':World}(y:w'.os=w.os)(z:w'.tape=w.tape)(A:w'.output=w.output)
  (B:w.heap.size<=w'.heap.size) (C:q'.1<w'.heap.size) (l:q'=q\/w.heap.size<=q'.1) (u:∀ r,r ≠ q'.1->r<w.heap.size->w'.heap[r]? = w.heap[r]?) (ho:∀ μ',(∀ b r,μ b=some r->μ' b=some r)->OR μ' w' q' (.c cs')) :
  HR (DP μ s.nx q') (Ow s a cs').h w'/\Step μ s w (DP μ s.nx q') (Ow s a cs') w':=by
 have i:=mU (μ:=μ) (r:=q') t;have G:a ≠ s.nx:=fun e=>by rw[e,t] at g;cases g
 have m:∀ b x p,b ≠ a->s.h.get b=some x->μ b=some p->p.1 ≠ q'.1:=by
  intro b x p hb D v e;rcases l with h | h
  ·rw[h] at e;exact hb (H.inj _ _ _ _ _ _ D k v g e)
  ·have:=H.lt _ _ v;omega
 refine⟨⟨fun b x hb => ?_,fun b b' x E p F hb d h1 h2 n => ?_,fun b p hb => ?_⟩,⟨i,y,z,A,B,fun b p hb => ?_,fun r hr hn => ?_,fun b hb => ?_⟩⟩
 ·simp only[Ow,CA] at hb;split at hb
  next e=>subst e;cases hb;exact⟨q',by simp[DP],ho _ i⟩
  ·split at hb
   ·cases hb
   next j f=>obtain⟨p,h1,h2⟩:=H.obj b x hb;exact⟨p,i _ _ h1,h2.same i (u _ (m b x p f hb h1) h2.lt)⟩
 ·simp only[Ow,CA] at hb d;unfold DP at h1 h2;split at h1
  ·rename_i j;split at h2
   next f=>rw[j,f]
   ·rename_i f;cases h1;rw[Al f] at d;split at d
    ·cases d
    next o=>exact absurd n.symm (m b' E F o d h2)
  ·rename_i j;rw[Al j] at hb;split at hb
   ·cases hb
   ·rename_i o;split at h2
    ·cases h2;exact absurd n (m b x p o hb h1)
    ·rename_i f;rw[Al f] at d;split at d
     ·cases d
     ·exact H.inj _ _ _ _ _ _ hb d h1 h2 n
 ·unfold DP at hb;split at hb
  ·cases hb;exact C
  ·have:=H.lt _ _ hb;omega
 ·unfold DP at hb;split at hb
  ·cases hb;rcases l with h | h
   ·rw[h];exact .inr (.inl ⟨a,_,k,g⟩)
   ·exact .inr (.inr h)
  ·exact .inl hb
 ·refine u r (fun e => ?_) hr;rcases l with h | h
  ·exact hn a _ q k g (by rw[e,h])
  ·omega
 ·unfold DP;rw[Al fun e=>hb ⟨XP e.symm,by simp[Ow];omega⟩]
theorem SK{cs:List HV}{A B:Array Value}(h:JW μ cs A):CR μ cs (A++B):=by
 have hl:=h.2.1;refine⟨h.1,fun j a=>⟨A[j]'(by omega),?_,h.2.2 j a (by omega)⟩⟩;rw[U8 (by omega),AE]
theorem AIf(H:HR μ s.h w){t t' ty e e':TypeId}{i:TypeInfo}{z:Value}(h1:P.underlying t=some (.slice e))(h2:P.underlying t'=some (.slice e'))(y:P.info? e=some i)(W:i.zero=some z)(X:z.cells.size=i.size)
  {x:HV} {xv:Value} (J:VR μ x xv) {K:Nat × Nat} {L m c2:Nat} {a3 E:List HV} {bb:Nat} (hb:s.h.get bb=some (.c a3)) (a8:μ bb=some K) (a9:Lz a3 L (m*i.size)=some E) (hm:m ≠ 0) {r:HV} {s':HS} (Y:D_ μ s.nx s'.nx)
  (b:apH i.size i.bytes s x m E=some (r,s')):Res P (Bi #[t,t'] ty #[xv,.slice (some ⟨K.1,L,none⟩) m c2]) μ w s s' r:=by
 obtain⟨d,A,n2,M,F⟩:=Uw H hb a8 a9;have fits:∀ k,gT i.bytes k=true->k*i.bytes<=140737488355328/\(k:Int)<=9223372036854775807:=by
  intro k hk;simp only[gT,U,JM] at hk;exact⟨hk.1,by omega⟩
 unfold apH at b;split at b
 ·-- nil
  obtain⟨hf,b⟩:=AS b;cases b;have I:=Y s.nx (Ay _) (FJ _);cases J;obtain⟨V,N⟩:=fits _ hf;have hr:=run_append_nil (P:=P) w t ty e i z h1 y W ⟨K.1,L,none⟩ m c2 d A M (by omega) N (by omega);rw[<- DD h1 y h2] at hr;obtain⟨l,p⟩:=MG H.drew I (x := .cells (d.toArray++G5 z.cells (grownCap w m 0 e-m)) e) (grownCap w m 0 e*i.size) (o := .c E) fun μ' w' B Z=>⟨_,e,Z,by
   have:=grownCap_ge w m 0 e;simp only[SX,CS,size_zeroCells,A,X,<- EC];congr 1;omega,by
   exact SK (F.mono B)⟩
  refine⟨_,_,_,hr,l,p.drew,.s (r:=(w.heap.size,grownCap w m 0 e*i.size)) (by simp[DP]) (grownCap_ge w m 0 e) ?_⟩;simp[Lx]
 ·rename_i a off n c;obtain⟨cs,G,b⟩:=E3 b;cases J with
  | s D b0 hc =>
   rename_i c' q;simp only[Lx] at hc;subst hc;cases g:Dq (n+m) c
   ·rw[g] at b;obtain⟨hf,b⟩:=AS b;obtain⟨xs,b1,b⟩:=bind_some b;cases b;have I:=Y s.nx (Ay _) (FJ _);obtain⟨f,o1,o2,o3,o4⟩:=Uw H G D b1;obtain⟨V,N⟩:=fits _ hf;have O:c<n+m:=by
     apply vX;intro hh;have:Dq (n+m) c=true:=by rw[JM];omega
     rw[this] at g;cases g
    have hr:=run_append_grow (P:=P) w t ty e i z h1 y W ⟨q.1,off,none⟩ n c f o1 o3 ⟨K.1,L,none⟩ m c2 d A M O N (growslice_fits O V);rw[<- DD h1 y h2] at hr;have a1:=grownCap_ge w (n+m) c e;obtain⟨l,p⟩:=MG H.drew I (x := .cells (f.toArray++d.toArray++G5 z.cells (grownCap w (n+m) c e-(n+m))) e) (grownCap w (n+m) c e*i.size) (o := .c (xs++E)) fun μ' w' B Z=>⟨_,e,Z,by
     simp only[SX,CS,size_zeroCells,A,o1,X,<- EC];congr 1;omega,by
     have e1:f.toArray++d.toArray=(f++d).toArray:=by simp
     rw[e1];exact SK ((WF o4 F).mono B)⟩
    refine⟨_,_,_,hr,l,p.drew,.s (r:=(w.heap.size,grownCap w (n+m) c e*i.size)) (by simp[DP]) a1 ?_⟩;simp[Lx]
   ·rw[g] at b;rw[JM] at g;obtain⟨cs',hl,b⟩:=bind_some b;rw[Qv] at hl;cases b;obtain⟨w',st,l,p⟩:=Ajy (P:=P) H G D F hl;exact⟨_,μ,w',gV h1 y h2 A M g st,l,p,.s D g rfl⟩
 ·rename_i a off n sz;obtain⟨cs,G,b⟩:=E3 b;obtain⟨a4,b⟩:=AS b;cases b;have I:=Y s.nx (Ay _) (FJ _);simp only[U] at a4;obtain⟨⟨⟨k1,k2⟩,Q⟩,hf⟩:=a4;have k1:=Ao k1;have k2:=Ao k2;have Q:=Ao Q;rw[Up] at Q;subst k1 k2;obtain⟨V,N⟩:=fits _ hf;cases J with
  | s D b0 hc =>
   rename_i c q;simp only[Lx,AH] at hc;have b2:Lz cs 0 (n*i.size)=some cs:=Akd Q;obtain⟨f,o1,o2,o3,o4⟩:=Uw H G D b2;by_cases g:n+m<=c
   ·-- there is room
    obtain⟨vs,T,a2,b8,a5⟩:=H.at G D;have b3:(n+m)*i.size<=c*i.size:=Kq _ g;rw[EC] at b3;have a6:=run_storeCells_at (P:=P) q.1 (n*i.size) T d 0 vs w a2 (by omega) (fun v S=>F.oneCell v (by simpa using S));simp only[Bv] at a6;have hr:=gV (ty:=ty) (off:=0) (c2:=c2) h1 y h2 A M g (by rw[AH];exact a6);have b4:=setRow_heap w q.1 vs (CN (n*i.size) vs.toList++d++R (n*i.size+C d) vs.toList).toArray T (0,0) a2;have b5:=(AR.1 a2).1;obtain⟨l,p⟩:=Aop (q':=q) (cs':=cs++E) H I G D (w':=w.setRow q.1 (CN (n*i.size) vs.toList++d++R (n*i.size+C d) vs.toList).toArray) rfl rfl rfl (by rw[Eg];exact Ay _) (by rw[Eg];exact b5) (.inl rfl) (fun r hr _=>Dp _ _ _ _ hr) fun μ' B=>⟨_,T,b4,by
      simp only[CS,Ah,Db,C5,B3];omega,by
      refine⟨fun x J=>(AK.1 J).elim (a5.1 x) (F.1 x),fun j hj => ?_⟩;simp only[C3];have ht:C (vs.toList.take (n*i.size))=n*i.size:=by simp;omega
      by_cases a7:j<C cs
      ·obtain⟨u,hu,S⟩:=a5.2 j a7;refine⟨u,?_,by rw[Dj a7];exact S.mono B⟩;rw[Ci,AO (by omega),B8 (by omega)];simpa using hu
      ·have b6:j-C cs<C E:=by simp at hj;omega
       obtain⟨u,hu,S⟩:=F.cr.2 _ b6;refine⟨u,?_,by rw[Dd (by omega)];exact S.mono B⟩;rw[AO (by simp only[Ah];omega),A_ (by omega),ht,<- Q];simpa using hu⟩
    exact⟨_,_,_,hr,l,p,.s (r:=q) (by simp[DP]) g (by simpa [Lx] using hc)⟩
   ·have O:c<n+m:=by omega
    have hr:=run_append_grow (P:=P) w t ty e i z h1 y W ⟨q.1,0,none⟩ n c f o1 o3 ⟨K.1,L,none⟩ m c2 d A M O N (growslice_fits O V);rw[<- DD h1 y h2] at hr;have a1:=grownCap_ge w (n+m) c e;have b7:(w.drew.alloc (.cells (f.toArray++d.toArray++G5 z.cells (grownCap w (n+m) c e-(n+m))) e)).heap[w.heap.size]? = some (.cells (f.toArray++d.toArray++G5 z.cells (grownCap w (n+m) c e-(n+m))) e):=by
     show (w.heap.push _)[w.heap.size]? = _;simp
    have b9:(w.drew.alloc (.cells (f.toArray++d.toArray++G5 z.cells (grownCap w (n+m) c e-(n+m))) e)).heap.size=w.heap.size+1:=by show (w.heap.push _).size=_;simp
    obtain⟨l,p⟩:=Aop (q':=(w.heap.size,grownCap w (n+m) c e*i.size)) (cs':=cs++E) H I G D (w':=w.drew.alloc (.cells (f.toArray++d.toArray++G5 z.cells (grownCap w (n+m) c e-(n+m))) e)) rfl rfl rfl (by omega) (by simp only;omega) (.inr (Ay _)) (fun r _ hr=>FM w.drew _ r hr) fun μ' B=>⟨_,e,b7,by
      simp only[SX,CS,size_zeroCells,A,o1,X,<- EC];congr 1;omega,by
      have e1:f.toArray++d.toArray=(f++d).toArray:=by simp
      rw[e1];exact SK ((WF o4 F).mono B)⟩
    exact⟨_,_,_,hr,l,p,.s (r:=(w.heap.size,grownCap w (n+m) c e*i.size)) (by simp[DP]) a1 (by simp[Lx])⟩
 ·cases b
theorem AIg{k b m:Nat}{x r:HV}{e:List HV}{s':HS}(h:apH k b s x m e=some (r,s')):Qt s s':=by
 unfold apH at h;split at h
 ·obtain⟨_,h⟩:=AS h;cases h;exact Qt.new _ _
 ·obtain⟨cs,d,h⟩:=E3 h;rename_i a off n c _;cases hc:Dq (n+m) c <;> rw[hc] at h
  ·obtain⟨_,h⟩:=AS h;obtain⟨xs,_,h⟩:=bind_some h;cases h;exact Qt.new _ _
  ·obtain⟨f,_,h⟩:=bind_some h;cases h;exact Qt.turn d
 ·obtain⟨cs,d,h⟩:=E3 h;obtain⟨_,h⟩:=AS h;cases h;exact Qt.move s d _
 ·cases h
theorem Ake(H:HR μ s.h w){t t' n:TypeId}{x y r:HV}{d c:Value}(f:VR μ x d)(o:VR μ y c){s':HS}(hf:D_ μ s.nx s'.nx)(h:gU P s t t' x y=some (r,s')) :
  Res P (Bi #[t,t'] n #[d,c]) μ w s s' r:=by
 obtain⟨⟨k,b⟩,u,h⟩:=bind_some h;obtain⟨e,C,i,z,h1,h2,g,v,rfl,rfl,A,_⟩:=nC u;have p:∀ {q:Option Addr} {c2:Nat},c = .slice q 0 c2->VO s x=some (r,s')->Res P (Bi #[t,t'] n #[d,c]) μ w s s' r:=by
  rintro q c2 rfl h;cases x <;> simp only[VO,Ac,Cc,reduceCtorEq] at h
  ·obtain⟨rfl,rfl⟩:=h;cases f;exact⟨_,μ,w,OH h1 g h2 (Ay _),H,Step.refl _ _ _,.sn⟩
  ·obtain⟨rfl,rfl⟩:=h;cases f with
   | s j l hc=>exact⟨_,μ,w,OH h1 g h2 l,H,Step.refl _ _ _,.s j l hc⟩
 split at h
 ·cases o;exact p rfl h
 ·rename_i b off m cap _;cases o with
  | s j l hc =>
   cases a:AKi m 0
   ·rw[a] at h;obtain⟨cs,hb,h⟩:=E3 h;obtain⟨D,B,h⟩:=bind_some h;exact AIf H h1 h2 g v A f hb j B (fun e=>by rw[e] at a;cases a) hf h
   ·rw[a] at h;have:=Ao a;subst this;exact p rfl h
 ·cases h
theorem Akf{t t':TypeId}{x y r:HV}{s':HS}(h:gU P s t t' x y=some (r,s')):Qt s s':=by
 obtain⟨⟨k,b⟩,d,h⟩:=bind_some h;have a:VO s x=some (r,s')->Qt s s':=by
  intro h;cases x <;> simp only[VO,Ac,Cc,reduceCtorEq] at h <;> exact h.2 ▸ Qt.refl _
 split at h
 ·exact a h
 ·rename_i b off m cap _;cases c:AKi m 0 <;> rw[c] at h
  ·obtain⟨cs,hb,h⟩:=E3 h;obtain⟨e,f,h⟩:=bind_some h;exact AIg h
  ·exact a h
 ·cases h
end
end
noncomputable section
def Jk(ρ:En)(d:Nat):Option Operand->Option Nat
 | none=>some d
 | some x=>bO (D3 ρ x) fun v=>asN v some
def uS(P:Program)(ρ:En)(t:TypeId)(x:HV)(lo hi mx:Option Operand):Option HV :=
 match x with
 | .sn=>bO (kH P t) fun _=>bO (Jk ρ 0 lo) fun l=>bO (Jk ρ 0 hi) fun h=>bO (Jk ρ 0 mx) fun m=>Cu (AKi l 0&&AKi h 0&&AKi m 0&&(mx.isNone || hi.isSome)) (some .sn)
 | .s a off n (.k c)=>bO (kH P t) fun q=>bO (Jk ρ c mx) fun m=>bO (Jk ρ n hi) fun h=>bO (Jk ρ 0 lo) fun l =>
   Cu (Dq l h&&Dq h m&&Dq m c&&(mx.isNone || hi.isSome)) (some (.s a (DO (AKi m l) off (off+l*q.2.1)) (h-l) (.k (m-l))))
 | .s a off n (.d sz)=>bO (kH P t) fun q=>bO (Jk ρ n mx) fun m=>bO (Jk ρ n hi) fun h=>bO (Jk ρ 0 lo) fun l=>DO mx.isNone
   (Cu (Dq l h&&Dq h n&&mx.isNone&&AKi sz q.2.1&&(AKi l 0 || Ks l n)) (some (.s a (off+l*q.2.1) (h-l) (.d sz))))
   (Cu (Dq l h&&Dq h m&&Dq m n&&hi.isSome) (some (.s a (DO (AKi m l) off (off+l*q.2.1)) (h-l) (.k (m-l)))))
 | _=>none
section
variable {P:Program} {o:Oper} {a:Act} {μ:Mu} {w:World} {s:HS} {n:Nat} {ρ:En}
theorem Il(F:FR μ n ρ a.tmps){d m y:Nat}{x:Option Operand}{code:BoundsCode}(h:Jk ρ d x=some m)(g:m<=y):(x=none->m=d)/\∀ b,x=some b->(iR (a.eval b) y code).run P w = .ok m w:=by
 cases x with
 | none=>simp only[Jk,Ac] at h;exact⟨fun _=>h.symm,fun _ e=>(by cases e)⟩
 | some x =>
  refine⟨fun e=>(by cases e),fun b e => ?_⟩;cases e;simp only[Jk] at h;obtain⟨v,c,h⟩:=bind_some h;obtain⟨q,i,f,h⟩:=HG h;cases h;subst f;have h1:=Cy F c;generalize a.eval x=u at h1;cases h1;have:(0:Int)<=(m:Int)/\(m:Int)<=(y:Int):=by omega
  simp[iR,asIntOf,this]
theorem GB(F:FR μ n ρ a.tmps){len cap l h m dc dl:Nat}{lo hi mx:Option Operand}(c:Jk ρ dc mx=some m)(b:Jk ρ dl hi=some h)(hl:Jk ρ 0 lo=some l)(h1:l<=h)(h2:h<=m)(d:m<=cap)
  (hc:mx=none->m=cap) (hd:hi=none->h=len) (e:mx=none\/hi.isSome=true):(J2 true len cap (lo.map a.eval) (hi.map a.eval) (mx.map a.eval)).run P w = .ok (l,h,m) w:=by
 unfold J2;cases mx with
 | none =>
  have:=hc rfl;subst this;cases hi with
  | none =>
   have:=hd rfl;subst this;cases lo with
   | none=>have:=(Il (P:=P) (w:=w) (code := .sliceB) F hl h1).1 rfl;subst this;simp
   | some lo=>simp[(Il (P:=P) (w:=w) F hl h1).2 lo rfl]
  | some hi =>
   cases lo with
   | none=>have:=(Il (P:=P) (w:=w) (code := .sliceB) F hl h1).1 rfl;subst this;simp[(Il (P:=P) (w:=w) F b h2).2 hi rfl]
   | some lo=>simp[(Il (P:=P) (w:=w) F b h2).2 hi rfl,(Il (P:=P) (w:=w) F hl h1).2 lo rfl]
 | some mx =>
  cases hi with
  | none=>rcases e with h | h <;> cases h
  | some hi =>
   cases lo with
   | none=>have:=(Il (P:=P) (w:=w) (code := .sliceB) F hl h1).1 rfl;subst this;simp[(Il (P:=P) (w:=w) F c d).2 mx rfl,(Il (P:=P) (w:=w) F b h2).2 hi rfl]
   | some lo=>simp[(Il (P:=P) (w:=w) F c d).2 mx rfl,(Il (P:=P) (w:=w) F b h2).2 hi rfl,(Il (P:=P) (w:=w) F hl h1).2 lo rfl]
theorem uT(H:HR μ s.h w)(F:FR μ n ρ a.tmps){t:TypeId}{x:Operand}{lo hi mx:Option Operand}{p z:HV}(g:o.op = .slice t x lo hi mx)(G:D3 ρ x=some p)(d:uS P ρ t p lo hi mx=some z):E1 P o a μ w s s z:=by
 have h1:=Cy F G;generalize j:a.eval x=v at h1;unfold uS at d;split at d
 ·obtain⟨⟨e,k,b⟩,y,d⟩:=bind_some d;obtain⟨l,hl,d⟩:=bind_some d;obtain⟨h,f,d⟩:=bind_some d;obtain⟨m,r,d⟩:=bind_some d;obtain⟨hc,d⟩:=AS d;cases d;simp only[U,CD] at hc;obtain⟨⟨⟨c1,c2⟩,c3⟩,c4⟩:=hc;have c1:=Ao c1;have c2:=Ao c2;have c3:=Ao c3;subst c1 c2 c3;obtain⟨i,hu,hi,rfl,_⟩:=KB y;cases h1;have hb:=GB (P:=P) (w:=w) (len:=0) (cap:=0) F r f hl (Ay _) (Ay _) (Ay _) (fun _=>rfl) (fun _=>rfl) (by cases mx <;> simp_all);refine Br H (v := .slice none 0 0) ?_ .sn;simp[execOp,g,j,F9,Iq,run_underlying hu,hb,E' hi]
 ·rename_i a0 off len c;obtain⟨⟨e,k,b⟩,y,d⟩:=bind_some d;obtain⟨m,r,d⟩:=bind_some d;obtain⟨h,f,d⟩:=bind_some d;obtain⟨l,hl,d⟩:=bind_some d;obtain⟨hc,d⟩:=AS d;cases d;simp only[U,CD,JM,JL] at hc;obtain⟨⟨⟨c1,c2⟩,c3⟩,c4⟩:=hc;obtain⟨i,hu,hi,rfl,_⟩:=KB y;cases h1 with
  | s B D A =>
   rename_i K q;simp only[Lx] at A;subst A;have hb:=GB (P:=P) (w:=w) (len:=len) (cap:=c) F r f hl c1 c2 c3 (fun e=>by subst e;simpa [Jk] using r.symm) (fun e=>by subst e;simpa [Jk] using f.symm) c4;refine Br H (v := .slice (some ⟨q.1,DO (AKi m l) off (off+l*i.size),none⟩) (h-l) (m-l)) ?_ (.s B (by omega) rfl);cases u:AKi m l
   ·have:¬ m=l:=fun e=>by rw[e,E7] at u;cases u
    simp[execOp,g,j,F9,Iq,run_underlying hu,hb,E' hi,this,Du]
   ·have:=Ao u;simp[execOp,g,j,F9,Iq,run_underlying hu,hb,E' hi,this]
 ·rename_i a0 off len sz;obtain⟨⟨e,k,b⟩,y,d⟩:=bind_some d;obtain⟨m,r,d⟩:=bind_some d;obtain⟨h,f,d⟩:=bind_some d;obtain⟨l,hl,d⟩:=bind_some d;cases C:mx.isNone
  ·rw[C] at d;obtain⟨hc,d⟩:=AS d;cases d;simp only[U,JM] at hc;obtain⟨⟨⟨c1,c2⟩,c3⟩,c4⟩:=hc;obtain⟨i,hu,hi,rfl,_⟩:=KB y;cases h1 with
   | s B D A =>
    rename_i c q;have hb:=GB (P:=P) (w:=w) (len:=len) (cap:=c) F r f hl c1 c2 (AA c3 D) (fun e=>by subst e;cases C) (fun e=>by subst e;simpa [Jk] using f.symm) (.inr c4);refine Br H (v := .slice (some ⟨q.1,DO (AKi m l) off (off+l*i.size),none⟩) (h-l) (m-l)) ?_ (.s B (by omega) rfl);cases u:AKi m l
    ·have:¬ m=l:=fun e=>by rw[e,E7] at u;cases u
     simp[execOp,g,j,F9,Iq,run_underlying hu,hb,E' hi,this,Du]
    ·have:=Ao u;simp[execOp,g,j,F9,Iq,run_underlying hu,hb,E' hi,this]
  rw[C] at d;clear r;obtain⟨hc,d⟩:=AS d;cases d;simp only[U,CD,JM,KD] at hc;obtain⟨⟨⟨⟨c1,c2⟩,c3⟩,c4⟩,I⟩:=hc;have c4:=Ao c4;obtain⟨i,hu,hi,rfl,_⟩:=KB y;subst c4;have c3:=JL.1 C;subst c3;cases h1 with
  | s B D A =>
   rename_i c q;simp only[Lx] at A;have hb:=GB (P:=P) (w:=w) (len:=len) (cap:=c) (mx:=none) (dc:=c) (m:=c) F rfl f hl c1 (by omega) (Ay _) (fun _=>rfl) (fun e=>by subst e;simpa [Jk] using f.symm) (.inl rfl);have L:l<=c:=by omega
   refine Br H (v := .slice (some ⟨q.1,off+l*i.size,none⟩) (h-l) (c-l)) ?_ (.s B (by omega) ?_)
   ·by_cases E:c=l
    ·have J:l=0:=by
      rcases I with h | h
      ·exact Ao h
      ·omega
     subst J;subst E;simp only[L7] at hb;simp[execOp,g,j,F9,Iq,run_underlying hu,hb,E' hi]
    ·simp only[L7] at hb;simp[execOp,g,j,F9,Iq,run_underlying hu,hb,E' hi,E,Du]
   ·simp only[Lx,DC,<- EC];rw[show l+(c-l)=c by omega];exact A
 ·cases d
def VP:HV->HV->Option Bool
 | .i k a,.i d b=>if k=d then some (a==b) else none
 | .b a,.b b=>some (a==b)
 | .c (.string a),.c (.string b)=>some (a==b)
 | _,_=>none
def gX:TypeDesc->HV->Bool
 | .int _,.i _ _=>true
 | .string,.c (.string _)=>true
 | .bool,.b _=>true
 | _,_=>false
def VQ(k:HV):List (HV × HV)->Nat->Option (Option (Nat × HV))
 | [],_=>some none
 | e::es,i=>bO (VP k e.1) fun t=>DO t (some (some (i,e.2))) (VQ k es (i+1))
theorem Aup{d:TypeDesc}{k a:HV}{v b:Value}{t:Bool}(hd:gX d k=true)(h1:VR μ k v)(h2:VR μ a b)(h:VP k a=some t):Instr.sameNow d v b=some t:=by
 unfold VP at h;split at h
 ·cases h1;cases h2;cases d <;> first | exact h | cases hd
 ·cases h1;cases h2;cases d <;> first | exact h | cases hd
 ·cases h1;cases h2;cases d <;> first | exact h | cases hd
 ·cases h
def ER(μ:Mu)(es:List (HV × HV))(ms:List MapEntry):Prop:=C ms=C es/\∀ (j:Nat) (h1:j<C es) (h2:j<C ms),VR μ es[j].1 ms[j].key/\VR μ es[j].2 ms[j].val
theorem VS{d:TypeDesc}{k:HV}{v:Value}(hd:gX d k=true)(b:VR μ k v):∀ {es:List (HV × HV)} {ms:List MapEntry} {i:Nat} {r:Option (Nat × HV)},ER μ es ms->VQ k es i=some r ->
  (r=none/\Fp d v ms i=some none)\/∃ j x u,r=some (i+j,x)/\j<C es/\Fp d v ms i=some (some (i+j,u))/\VR μ x u/\∃ y,ms[j]? = some y/\∃ e,es[j]? = some e/\VP k e.1=some true
 | [],ms,i,r,a,h=>by
  simp only[VQ,Ac] at h;have:ms=[]:=Bb a.1;subst this;exact .inl ⟨h.symm,rfl⟩
 | e::es,[],i,r,a,h=>by have:=a.1;simp at this
 | e::es,m::ms,i,r,a,h=>by
  simp only[VQ] at h;obtain⟨t,c,h⟩:=bind_some h;have h0:=a.2 0 (by simp) (by simp);simp only[Bk] at h0;have hs:=Aup hd b h0.1 c;cases t
  ·simp only[cnd_false] at h;have f:ER μ es ms:=⟨by have:=a.1;simpa using this,fun j h1 h2=>a.2 (j+1) (by simpa using h1) (by simpa using h2)⟩;rcases VS hd b f h with ⟨h1,h2⟩ | ⟨j,x,u,h1,h2,g,l,y,n,o,p,q⟩
   ·exact .inl ⟨h1,by simp only[Fp,hs];exact h2⟩
   ·refine .inr ⟨j+1,x,u,by rw[h1];simp;omega,by simp;omega,?_,l,y,by simpa using n,o,by simpa using p,q⟩;simp only[Fp,hs];rw[g];simp;omega
  ·simp only[cnd_true,Ac] at h;exact .inr ⟨0,e.2,m.val,by rw[<- h];rfl,by simp,by simp only[Fp,hs,Bv],h0.2,m,rfl,e,rfl,c⟩
section
variable{a:TypeId}{d:TypeDesc}{v:Value}
theorem Ox{b:Bool}(c:P.underlying a=some d){k:HV}(hd:gX d k=true)(m:Nat):(FA b (m+1) a v).run P w = .ok () w:=by
 rw[FA];simp only[Aj,run_underlying c,W];cases d <;> first | rfl | (cases k <;> cases hd) | (simp only[gX] at hd;cases hd)
theorem JX{ms:List MapEntry}{r:Option (Nat × Value)}(c:P.underlying a=some d)(h:Fp d v ms 0=some r):(N6 a v ms).run P w = .ok r w:=by
 simp only[N6,Aj,run_underlying c,W,h,An]
end
def zvP(P:Program)(t:TypeId):Option HV :=
 match P.info? t with
 | some i=>match i.zero with
  | some v=>XI v
  | none=>none
 | none=>none
theorem Aoq{t:TypeId}{z:HV}(a:zvP P t=some z):∃ v,(∀ w,(zeroValue t).run P w = .ok v w)/\∀ μ,VR μ z v:=by
 unfold zvP at a;split at a
 ·rename_i i hi;split at a
  next v b=>exact⟨v,fun w=>by simp[zeroValue,typeInfo,program,Cl,hi,b],fun μ=>gN a⟩
  ·cases a
 ·cases a
def Aor(P:Program)(t:TypeId):Option (TypeDesc × TypeId × TypeId) :=
 match P.underlying t with
 | some (.map a e)=>match P.underlying a with
  | some d=>some (d,a,e)
  | none=>none
 | _=>none
theorem Adn{t:TypeId}{d:TypeDesc}{a e:TypeId}(h:Aor P t=some (d,a,e)):P.underlying t=some (.map a e)/\P.underlying a=some d:=by
 unfold Aor at h;split at h
 ·rename_i b c h1;split at h
  next f h2=>cases h;exact⟨h1,h2⟩
  ·cases h
 ·cases h
def Aos(a:Bool)(v:HV)(ok:Bool):HV:=DO a (.t [v,.b ok]) v
theorem gY{a ok:Bool}{v:HV}{u:Value}(h:VR μ v u):VR μ (Aos a v ok) (if a then .tuple #[u,.bool ok] else u):=by
 cases a
 ·exact h
 ·refine .t _ _ rfl fun j h1 h2 => ?_;match j with
  | 0=>exact h
  | 1=>exact .b ok
  | j+2=>simp at h1;omega
def A6y(P:Program)(s:HS)(t:TypeId)(x k:HV)(b:Bool):Option HV :=
 bO (Aor P t) fun q=>Cu (gX q.1 k) <| match x with
  | .mn=>bO (zvP P q.2.2) fun z=>some (Aos b z false)
  | .m a=>asM (s.h.get a) fun es=>bO (VQ k es 0) fun r=>match r with
   | some p=>some (Aos b p.2 true)
   | none=>bO (zvP P q.2.2) fun z=>some (Aos b z false)
  | _=>none
theorem Akg{q:Nat × Nat}{es:List (HV × HV)}(h:OR μ w q (.m es)):∃ ms k,w.heap[q.1]? = some (.map ms k)/\ER μ es ms.toList:=by
 obtain⟨ms,k,h1,h2,a⟩:=h;exact⟨ms,k,h1,by simpa using h2,fun j b c=>by simpa using a j b (by simpa using c)⟩
theorem kI(H:HR μ s.h w)(F:FR μ n ρ a.tmps){t:TypeId}{x y:Operand}{p k z:HV}{c:Bool}(l:o.op = .lookup t x y c)(K:D3 ρ x=some p)(L:D3 ρ y=some k)(b:A6y P s t p k c=some z):E1 P o a μ w s s z:=by
 have h1:=Cy F K;have h2:=Cy F L;generalize hu:a.eval x=u at h1;generalize A:a.eval y=v at h2;obtain⟨⟨d,B,e⟩,M,b⟩:=bind_some b;obtain⟨hd,b⟩:=AS b;obtain⟨C,f⟩:=Adn M;simp only at hd;split at b
 ·obtain⟨N,D,b⟩:=bind_some b;cases b;cases h1;obtain⟨g,E,G⟩:=Aoq D;refine Br H (v:=if c then .tuple #[g,.bool false] else g) ?_ (gY (G μ));have i:(FA (#[]:Array MapEntry).isEmpty 10000 B v).run P w = .ok () w:=Ox f hd 9999;have O:(N6 B v []).run P w = .ok none w:=JX f rfl;simp only[execOp,l,hu,A,OJ,Aj,run_underlying C,W,An,i,O,E]
 ·rename_i a0 _;obtain⟨es,Q,b⟩:=Ru b;cases h1 with
  | m R =>
   rename_i q;obtain⟨ms,S,T,U⟩:=Akg (H.at Q R);obtain⟨r,hr,b⟩:=bind_some b;have I:(getObj q.1).run P w = .ok (.map ms S) w:=by simp only[getObj,Cl,T]
   have i:(FA ms.isEmpty 10000 B v).run P w = .ok () w:=Ox f hd 9999;rcases VS hd h2 U hr with ⟨rfl,hf⟩ | ⟨j,X,J,rfl,_,hf,V,_⟩
   ·obtain⟨N,D,b⟩:=bind_some b;cases b;obtain⟨g,E,G⟩:=Aoq D;refine Br H (v:=if c then .tuple #[g,.bool false] else g) ?_ (gY (G μ));simp only[execOp,l,hu,A,OJ,Aj,run_underlying C,W,I,An,i,JX f hf,E]
   ·cases b;refine Br H (v:=if c then .tuple #[J,.bool true] else J) ?_ (gY V);simp only[execOp,l,hu,A,OJ,Aj,run_underlying C,W,I,An,i,JX f hf]
 ·cases b
def AFg(P:Program)(s:HS)(t:TypeId)(x k v:HV):RH :=
 bO (Aor P t) fun q=>Cu (gX q.1 k) <| match x with
  | .m a=>asM (s.h.get a) fun es=>bO (VQ k es 0) fun r=>match r with
   | some p=>some (.u,IE s a (.m (es.set p.1 (k,v))))
   | none=>some (.u,IE s a (.m (es++[(k,v)])))
  | _=>none
theorem AIh{a b:ByteArray}(h:(a==b)=true):a=b:=by
 cases a;cases b;congr 1;exact eq_of_beq (show (_==_)=true from h)
theorem Akh{d:TypeDesc}{k a:HV}{v b:Value}(hd:gX d k=true)(h1:VR μ k v)(h2:VR μ a b)(h:VP k a=some true):ON 10000 b v=true:=by
 unfold VP at h;split at h
 ·cases h1;cases h2;split at h
  next e=>simp only[Ac,AM] at h;subst e h;simp[ON]
  ·cases h
 ·cases h1;cases h2;simp only[Ac,AM] at h;subst h;simp[ON]
 ·cases h1;cases h2;simp only[Ac] at h;have:=AIh h;subst this;simp only[ON];exact h
 ·cases h
theorem kJ(H:HR μ s.h w)(F:FR μ n ρ a.tmps){t:TypeId}{x y J:Operand}{p k v z:HV}{s':HS}(T:o.op = .mapUpdate t x y J)(hx:D3 ρ x=some p)(hy:D3 ρ y=some k)(a5:D3 ρ J=some v)(c:AFg P s t p k v=some (z,s')):E1 P o a μ w s s' z:=by
 have h1:=Cy F hx;have h2:=Cy F hy;have K:=Cy F a5;generalize hu:a.eval x=u at h1;generalize U:a.eval y=l at h2;generalize V:a.eval J=vv at K;obtain⟨⟨d,ke,e⟩,hm,c⟩:=bind_some c;obtain⟨hd,c⟩:=AS c;obtain⟨X,L⟩:=Adn hm;simp only at hd;split at c
 ·rename_i a0 _ _;obtain⟨es,M,c⟩:=Ru c;cases h1 with
  | m N =>
   rename_i q;obtain⟨ms,G,f,g⟩:=Akg (H.at M N);obtain⟨r,hr,c⟩:=bind_some c;have Y:(getObj q.1).run P w = .ok (.map ms G) w:=by simp only[getObj,Cl,f]
   have Z:(FA false 10000 ke l).run P w = .ok () w:=Ox L hd 9999;have a6:=(AR.1 f).1;have a1:∀ O:Obj,(setObj q.1 O).run P w = .ok () { w with heap:=w.heap.setIfInBounds q.1 O }:=fun O=>by simp only[setObj,Cl,f]
   have done:∀ (I:List (HV × HV)) (A:Array MapEntry) (B:Nat),ER μ I A.toList->HR μ (IE s a0 (.m I)).h { w with heap:=w.heap.setIfInBounds q.1 (.map A B) }/\Step μ s w μ (IE s a0 (.m I)) { w with heap:=w.heap.setIfInBounds q.1 (.map A B) }:=by
    intro I A B a2;have a3:∀ b,b ≠ q.1->(w.heap.setIfInBounds q.1 (.map A B))[b]? = w.heap[b]? := fun b hb=>by rw[Jo (CW hb)]
    refine⟨H.turn M N (by simp) a3 ⟨A,B,by simp[a6],by simpa using a2.1,fun j D f=>a2.2 j D (by simpa using f)⟩,Step.turn M N rfl rfl rfl (by simp) a3⟩
   rcases VS hd h2 g hr with ⟨rfl,hf⟩ | ⟨j,x',u',rfl,E,hf,b3,me,b4,a7,a4,a8⟩
   ·cases c;obtain⟨Q,R⟩:=done (es++[(k,v)]) (ms.push { key:=l,val:=vv,born:=G }) (G+1) ⟨by have:=g.1;simp at this |-;exact this,fun j D f=>by
     have hl:C ms.toList=C es:=g.1;simp only[AIy] at f |-;by_cases E:j<C es
     ·rw[Dj E,Dj (by omega)];exact g.2 j E (by omega)
     ·have:j=C es:=by simp at D;omega
      subst this;rw[Dd (by omega),Dd (by omega)];simp only[hl,Wo,Bk];exact⟨h2,K⟩⟩
    refine⟨_,μ,_,.inr ⟨?_,rfl⟩,Q,R,.u⟩;simp only[execOp,T,hu,U,V,nL,Aj,run_underlying X,W,Y,Z,JX L hf,a1,An]
   ·simp only[AH] at c hf;cases c;have hl:C ms.toList=C es:=g.1;have hold:=(g.2 j E (by omega)).1;have a9:es[j]=a7:=by rw[Af E] at a4;exact AY a4
    have b0:=Akh hd h2 hold (by rw[a9];exact a8);have b1:(Aki (((ms[j]?).map (·.key)).getD l) l).run P w = .ok l w:=by
     have b2:ms[j]? = some (ms.toList[j]'(by omega)):=by rw[<- E4,Af]
     simp only[Aki,b2,Am,F6,b0,if_true,An]
    obtain⟨Q,R⟩:=done (es.set j (k,v)) (ms.modify j fun e=>{ e with key:=l,val:=vv }) G ⟨by simpa using hl,fun i D f=>by
     have gi:i<C es:=by simpa using D
     simp only[Array.toList_modify] at f |-;by_cases S:j=i
     ·subst S;rw[N4,Akj,Ae rfl];exact⟨h2,K⟩
     ·rw[HM S,Akj,Al S];exact g.2 i gi (by omega)⟩
    refine⟨_,μ,_,.inr ⟨?_,rfl⟩,Q,R,.u⟩;simp only[execOp,T,hu,U,V,nL,Aj,run_underlying X,W,Y,Z,JX L hf,b1,a1,An]
 ·cases c
end
end
noncomputable section
section
variable {P:Program} {o:Oper} {a:Act} {μ:Mu} {w:World} {s:HS} {n:Nat} {ρ:En}
def uU(P:Program)(t:TypeId)(x:HV)(j:Nat):Option HV :=
 match P.underlying t with
 | some (.array m e)=>match x with
  | .g cs=>Cu (Ks j m) <| bO (Ut P e) fun q=>VJ cs (j*q.1) q.1 q.2
  | _=>none
 | some .string=>match x with
  | .c (.string b)=>bO (b[j]?) fun c=>some (.i .u8 c.toNat)
  | _=>none
 | _=>none
theorem uV(H:HR μ s.h w)(F:FR μ n ρ a.tmps){t:TypeId}{x y:Operand}{p z:HV}{k:IntKind}{j:Nat}(g:o.op = .index t x y)(q:D3 ρ x=some p)(r:D3 ρ y=some (.i k j))(b:uU P t p j=some z):E1 P o a μ w s s z:=by
 have h1:=Cy F q;have h2:=Cy F r;generalize hu:a.eval x=u at h1;generalize l:a.eval y=v at h2;cases h2;unfold uU at b;split at b
 ·rename_i m e f;split at b
  ·obtain⟨d,b⟩:=AS b;obtain⟨⟨C,one⟩,hs,b⟩:=bind_some b;obtain⟨vs,rfl,hc⟩:=AFf h1;rw[Rs] at b;obtain⟨v,A,B⟩:=Tk (P:=P) (w:=w) hc hs b;have d:(0:Int)<=(j:Int)/\(j:Int)<(m:Int):=by rw[KD] at d;omega
   refine Br H (v:=v) ?_ B;simp only[execOp,g,hu,l,Apn,Aj,asIntOf,An,W,run_underlying f,Ae d,(E6 (Rx hs)).2,Aq,A]
  ·cases b
 ·rename_i f;split at b
  ·obtain⟨c,hc,b⟩:=bind_some b;cases b;cases h1;refine Br H (v := .int .u8 c.toNat) ?_ (.i _ _);have d:(0:Int)<=(j:Int):=by omega
   simp only[execOp,g,hu,l,Apn,Aj,asIntOf,An,W,run_underlying f,Ae d,Aq,hc]
  ·cases b
 ·cases b
def A6z(P:Program)(s:HS)(t:TypeId)(l c:Nat):RH :=
 bO (kH P t) fun q=>Cu (Dq l c&&Dq 1 q.2.1&&Dq c 1048576&&Dq q.2.2 1048576) <| bO (uH P q.1) fun z=>Cu (AKi (C z) q.2.1) (some (.s s.nx 0 l (.k c),GS s (.c (Nz z c))))
theorem Ado(H:HR μ s.h w)(q:μ s.nx=none)(F:FR μ n ρ a.tmps){t:TypeId}{x y:Operand}{k g:IntKind}{l c:Nat}{z:HV}{s':HS}(A:o.op = .makeSlice t x y)(B:D3 ρ x=some (.i k l))(C:D3 ρ y=some (.i g c))(d:A6z P s t l c=some (z,s')) :
  E1 P o a μ w s s' z:=by
 have h1:=Cy F B;have h2:=Cy F C;generalize hu:a.eval x=u at h1;generalize D:a.eval y=v at h2;cases h1;cases h2;obtain⟨⟨e,R,b⟩,E,d⟩:=bind_some d;obtain⟨h0,d⟩:=AS d;obtain⟨j,G,d⟩:=bind_some d;obtain⟨hl,d⟩:=AS d;cases d;simp only[U,JM] at h0;obtain⟨⟨⟨c1,c2⟩,c3⟩,c4⟩:=h0;obtain⟨i,I,hi,rfl,rfl⟩:=KB E;obtain⟨S,f,p,J,_,hc⟩:=Ry G;rw[hi] at p;cases p;have hl:=Ao hl;have K:f.cells.size=i.size:=by rw[(hc μ).2.1];exact hl
 have hb:(i.bytes:Int)*(c:Int)<=281474976710656:=by
  have T:(i.bytes:Int)*c<=1048576*c:=Avs (by omega) (by omega);omega
 have hr:=run_make (P:=P) w t e i f I hi J k g (l:Int) (c:Int) (by omega) (by omega) hb (by omega);simp only[Aq] at hr;have L:JW μ (Nz j c) (madeCells f.cells (c*i.size)):=by
  have:=nA (m:=c) (hc μ) K;simpa [madeCells] using this
 obtain⟨M,N⟩:=MG H q (x := .cells (madeCells f.cells (c*i.size)) e) (madeCells f.cells (c*i.size)).size (o := .c (Nz j c)) fun μ' w' O Q=>⟨_,e,Q,rfl,(L.mono O).cr⟩;refine⟨_,_,_,.inl ?_,M,N,.s (r:=(w.heap.size,(madeCells f.cells (c*i.size)).size)) (by simp[DP]) c1 rfl⟩;simp only[execOp,A,hu,D,Aj,hr,W,An]
def AFh(P:Program)(s:HS)(t:TypeId)(x:HV):Option HV :=
 match P.underlying t with
 | some (.slice _)=>match x with
  | .sn=>some (.i .i64 (0:Nat))
  | .s _ _ l _=>some (.i .i64 l)
  | _=>none
 | some .string=>match x with
  | .c (.string b)=>some (.i .i64 b.size)
  | _=>none
 | some (.map _ _)=>match x with
  | .mn=>some (.i .i64 (0:Nat))
  | .m a=>asM (s.h.get a) fun es=>some (.i .i64 (C es))
  | _=>none
 | _=>none
def AFi(P:Program)(t:TypeId)(x:HV):Option HV :=
 match P.underlying t with
 | some (.slice _)=>match x with
  | .sn=>some (.i .i64 (0:Nat))
  | .s _ _ _ (.k c)=>some (.i .i64 c)
  | _=>none
 | _=>none
def maxH(l:List HV):Option HV:=bO (MH l) fun asx=>match asx with
 | .int k m::asx=>bO (kM k m asx) fun r=>some (.i k r)
 | _=>none
def minH(l:List HV):Option HV:=bO (MH l) fun asx=>match asx with
 | .int k m::asx=>bO (kN k m asx) fun r=>some (.i k r)
 | _=>none
def Akk(P:Program)(s:HS)(t t':TypeId)(x y:HV):RH :=
 bO (uR P t t') fun q=>match x,y with
  | .s a off m _,.s b e d _=>DO (AKi (R_ d m) 0) (some (.i .i64 (0:Nat),s)) (gJ (s.h.get b) fun cs=>bO (Lz cs e (R_ d m*q.1)) fun f =>
    gJ (s.h.get a) fun cs=>bO (gI f off cs) fun g=>some (.i .i64 (R_ d m:Nat),IE s a (.c g)))
  | .sn,.s _ _ _ _=>some (.i .i64 (0:Nat),s)
  | .s _ _ _ _,.sn=>some (.i .i64 (0:Nat),s)
  | .sn,.sn=>some (.i .i64 (0:Nat),s)
  | _,_=>none
def N0(P:Program)(s:HS)(b:Builtin)(a:List TypeId)(l:List HV):RH :=
 match b with
 | .len=>match a,l with | t::_,x::_=>bO (AFh P s t x) fun v=>some (v,s) | _,_=>none
 | .cap=>match a,l with | t::_,x::_=>bO (AFi P t x) fun v=>some (v,s) | _,_=>none
 | .max=>bO (maxH l) fun v=>some (v,s)
 | .min=>bO (minH l) fun v=>some (v,s)
 | .append=>match a,l with | t::t'::_,x::y::_=>gU P s t t' x y | _,_=>none
 | .copy=>match a,l with | t::t'::_,x::y::_=>Akk P s t t' x y | _,_=>none
 | _=>none
theorem A7a(H:HR μ s.h w){t t' r:TypeId}{x y z:HV}{u v:Value}{s':HS}(hu:VR μ x u)(g:VR μ y v)(h:Akk P s t t' x y=some (z,s')):Res P (Gm #[t,t'] r #[u,v]) μ w s s' z:=by
 obtain⟨⟨k,b⟩,C,h⟩:=bind_some h;obtain⟨e,Q,i,R,h1,h2,n,S,rfl,rfl,T,_⟩:=nC C;have j:∀ {o:Option Addr} {m c:Nat} {l:Option Addr} {d p:Nat},u = .slice o m c->v = .slice l d p->R_ d m=0->z = .i .i64 (0:Nat)->s'=s->Res P (Gm #[t,t'] r #[u,v]) μ w s s' z:=by
  rintro o m c l d p rfl rfl f rfl rfl;have hf:(EV i.size 0 (.slice l d p)).run P w = .ok #[] w:=by
   cases l with
   | none=>simp[EV]
   | some b=>simp[EV,loadCells,loadCellsFrom]
  refine⟨.int .i64 (0:Nat),μ,w,?_,H,Step.refl _ _ _,.i _ _⟩;cases o with
  | none=>simp[Gm,run_underlying h1,sizeOf,typeInfo,n,EE,f,hf,goInt]
  | some a=>simp[Gm,run_underlying h1,sizeOf,typeInfo,n,EE,f,hf,goInt,storeCells]
 split at h
 ·rename_i a off m cap b D d U _;cases hu with
  | s E V hc =>
   cases g with
   | s q A B =>
    rename_i c2 F;cases f:AKi (R_ d m) 0
    ·rw[f] at h;obtain⟨cs,hb,h⟩:=E3 h;obtain⟨X,G,h⟩:=bind_some h;obtain⟨Y,I,h⟩:=E3 h;obtain⟨Z,hl,h⟩:=bind_some h;rw[Qv] at hl;cases h;obtain⟨J,K,n2,L,M⟩:=Uw H hb q G;obtain⟨w',st,N,O⟩:=Ajy (P:=P) H I E M hl;refine⟨_,μ,w',?_,N,O,.i _ _⟩;have hf:=run_firstCells_some (P:=P) w i.size (R_ d m) ⟨F.1,D,none⟩ d c2 J K L;simp only[Gm,C3,C2,Eb,Aj,run_underlying h1,W,EE,An,E' n,hf];simp[st,goInt]
    ·rw[f] at h;cases h;exact j rfl rfl (Ao f) rfl rfl
 ·cases h;cases hu;cases g with
  | s q A B=>exact j rfl rfl (Nat.min_eq_right (B_ _)) rfl rfl
 ·cases h;cases g;cases hu with
  | s q A B=>exact j rfl rfl (Nat.min_eq_left (B_ _)) rfl rfl
 ·cases h;cases hu;cases g;exact j rfl rfl rfl rfl rfl
 ·cases h
theorem Adp{l:List HV}{asx:u}{vs:List Value}(h:MH l=some asx)(hl:C vs=C l)(hr:∀ (j:Nat) (h1:j<C l) (h2:j<C vs),VR μ l[j] vs[j]) :
  C vs=C asx/\∀ (j:Nat) (h1:j<C vs) (h2:j<C asx),Rd (fun _=>False) (fun _=>False) w vs[j] asx[j]:=by
 obtain⟨d,a⟩:=R0 h;refine⟨by omega,fun j b c => ?_⟩;obtain⟨k,m,h1,h2⟩:=a j (by omega) c;have:=hr j (by omega) b;rw[h1] at this;rw[h2];generalize vs[j]=v at this;cases this;exact .int _ _
theorem A7b{l:List HV}{vs:Array Value}{x y:HV}{a:List HV}(e:l=x::y::a)(hl:vs.size=C l)(hr:∀ (j:Nat) (h1:j<C l) (h2:j<vs.size),VR μ l[j] vs[j]):∃ u v,vs[0]? = some u/\vs[1]? = some v/\VR μ x u/\VR μ y v:=by
 subst e;have h0:0<vs.size:=by simp at hl;omega
 have h1:1<vs.size:=by simp at hl;omega
 exact⟨vs[0],vs[1],by simp[h0],by simp[h1],hr 0 (by simp) h0,hr 1 (by simp) h1⟩
section
variable{a:Array TypeId}{vs:Array Value}{t t':TypeId}{e:List TypeId}{u v:Value}{b:TypeId}
theorem uW(c:a.toList=t::t'::e)(hu:vs[0]? = some u)(d:vs[1]? = some v):Bi a b vs=Bi #[t,t'] b #[u,v]:=by
 have e0:a[0]? = some t:=by rw[<- E4,c];rfl
 have f:a[1]? = some t':=by rw[<- E4,c];rfl
 unfold Bi;simp only[e0,f,hu,d,C3,C2,Eb]
theorem Akl(c:a.toList=t::t'::e)(hu:vs[0]? = some u)(d:vs[1]? = some v):Gm a b vs=Gm #[t,t'] b #[u,v]:=by
 have e0:a[0]? = some t:=by rw[<- E4,c];rfl
 unfold Gm;simp only[e0,hu,d,C3,C2,Eb]
end
theorem Adq(H:HR μ s.h w){b:Builtin}{o:Array TypeId}{ty:TypeId}{l:List HV}{vs:Array Value}{z:HV}{s':HS}(hf:D_ μ s.nx s'.nx)(hl:vs.size=C l)(hr:∀ (j:Nat) (h1:j<C l) (h2:j<vs.size),VR μ l[j] vs[j])
  (h:N0 P s b o.toList l=some (z,s')):∃ m:Sem Value,(∀ cs,builtin b o ty cs vs=(do pure (.value (<- m))))/\Res P m μ w s s' z:=by
 unfold N0 at h;split at h
 ·split at h
  ·rename_i t p x A g;obtain⟨v,a,h⟩:=bind_some h;cases h;refine⟨_,fun _=>rfl,?_⟩;have h0:0<vs.size:=by simp at hl;omega
   have e0:o[0]? = some t:=by rw[<- E4,g];rfl
   have c:vs[0]? = some vs[0]:=by simp[h0]
   have d:=hr 0 (by simp) h0;simp only[Bk] at d;generalize vs[0]=u at c d;unfold AFh at a;split at a
   ·rename_i K hu;split at a
    ·cases a;cases d;exact⟨_,μ,w,by simp[H0,e0,c,run_underlying hu,goInt],H,Step.refl _ _ _,.i _ _⟩
    ·cases a;cases d;exact⟨_,μ,w,by simp[H0,e0,c,run_underlying hu,goInt],H,Step.refl _ _ _,.i _ _⟩
    ·cases a
   ·rename_i hu;split at a
    ·cases a;cases d;exact⟨_,μ,w,by simp[H0,e0,c,run_underlying hu,goInt],H,Step.refl _ _ _,.i _ _⟩
    ·cases a
   ·rename_i S K hu;split at a
    ·cases a;cases d;exact⟨_,μ,w,by simp[H0,e0,c,run_underlying hu,goInt],H,Step.refl _ _ _,.i _ _⟩
    ·obtain⟨es,M,a⟩:=Ru a;cases a;cases d with
     | m L =>
      rename_i q;obtain⟨ms,N,e,O⟩:=Akg (H.at M L);have Q:(getObj q.1).run P w = .ok (.map ms N) w:=by simp only[getObj,Cl,e]
      have:ms.size=C es:=by have:=O.1;simpa using this
      exact⟨_,μ,w,by simp[H0,e0,c,run_underlying hu,goInt,Q,this],H,Step.refl _ _ _,.i _ _⟩
    ·cases a
   ·cases a
  ·cases h
 ·split at h
  ·rename_i t p x A g;obtain⟨v,a,h⟩:=bind_some h;cases h;refine⟨_,fun _=>rfl,?_⟩;have h0:0<vs.size:=by simp at hl;omega
   have e0:o[0]? = some t:=by rw[<- E4,g];rfl
   have c:vs[0]? = some vs[0]:=by simp[h0]
   have d:=hr 0 (by simp) h0;simp only[Bk] at d;generalize vs[0]=u at c d;unfold AFi at a;split at a
   ·rename_i K hu;split at a
    ·cases a;cases d;exact⟨_,μ,w,by simp[A7c,e0,c,run_underlying hu,goInt],H,Step.refl _ _ _,.i _ _⟩
    ·cases a;cases d with
     | s L T hc =>
      simp only[Lx] at hc;subst hc;exact⟨_,μ,w,by simp[A7c,e0,c,run_underlying hu,goInt],H,Step.refl _ _ _,.i _ _⟩
    ·cases a
   ·cases a
  ·cases h
 ·obtain⟨v,a,h⟩:=bind_some h;cases h;refine⟨_,fun _=>rfl,?_⟩;obtain⟨asx,has,a⟩:=bind_some a;split at a
  ·rename_i k m B;obtain⟨r,D,a⟩:=bind_some a;cases a;obtain⟨f,e⟩:=Adp (w:=w) has (vs:=vs.toList) (by simpa using hl) (fun j h1 h2=>by simpa using hr j h1 (by simpa using h2));cases n:vs.toList with
   | nil=>rw[n] at f;simp at f
   | cons R E =>
    simp only[n] at f e;have h0:=e 0 (by simp) (by simp);simp only[Bk] at h0;cases h0;have F:=Yg (P:=P) (Y:=fun _=>False) (X:=fun _=>False) (w:=w) (vs:=E) (l:=B) (by simpa using f) (fun i h1 h2=>e (i+1) (by simpa using h1) (by simpa using h2)) D;exact⟨_,μ,w,by simp only[AIz,n,F],H,Step.refl _ _ _,.i _ _⟩
  ·cases a
 ·obtain⟨v,a,h⟩:=bind_some h;cases h;refine⟨_,fun _=>rfl,?_⟩;obtain⟨asx,has,a⟩:=bind_some a;split at a
  ·rename_i k m B;obtain⟨r,D,a⟩:=bind_some a;cases a;obtain⟨f,e⟩:=Adp (w:=w) has (vs:=vs.toList) (by simpa using hl) (fun j h1 h2=>by simpa using hr j h1 (by simpa using h2));cases n:vs.toList with
   | nil=>rw[n] at f;simp at f
   | cons R E =>
    simp only[n] at f e;have h0:=e 0 (by simp) (by simp);simp only[Bk] at h0;cases h0;have F:=Yh (P:=P) (Y:=fun _=>False) (X:=fun _=>False) (w:=w) (vs:=E) (l:=B) (by simpa using f) (fun i h1 h2=>e (i+1) (by simpa using h1) (by simpa using h2)) D;exact⟨_,μ,w,by simp only[AJa,n,F],H,Step.refl _ _ _,.i _ _⟩
  ·cases a
 ·split at h
  next t t' p x y A g=>obtain⟨u,v,c,G,I,J⟩:=A7b rfl hl hr;refine⟨_,fun _=>rfl,?_⟩;rw[uW g c G];exact Ake H I J hf h
  ·cases h
 ·split at h
  next t t' p x y A g=>obtain⟨u,v,c,G,I,J⟩:=A7b rfl hl hr;refine⟨_,fun _=>rfl,?_⟩;rw[Akl g c G];exact A7a H I J h
  ·cases h
 ·cases h
theorem A7d{t t':TypeId}{x y z:HV}{s':HS}(h:Akk P s t t' x y=some (z,s')):Qt s s':=by
 obtain⟨⟨k,b⟩,f,h⟩:=bind_some h;split at h
 ·rename_i a off m cap b g c i _;cases d:AKi (R_ c m) 0 <;> rw[d] at h
  ·obtain⟨cs,hb,h⟩:=E3 h;obtain⟨j,l,h⟩:=bind_some h;obtain⟨n,e,h⟩:=E3 h;obtain⟨o,hl,h⟩:=bind_some h;cases h;exact Qt.turn e
  ·cases h;exact Qt.refl _
 ·cases h;exact Qt.refl _
 ·cases h;exact Qt.refl _
 ·cases h;exact Qt.refl _
 ·cases h
theorem Adr{b:Builtin}{c:List TypeId}{l:List HV}{z:HV}{s':HS}(h:N0 P s b c l=some (z,s')):Qt s s':=by
 unfold N0 at h;split at h
 ·split at h
  ·obtain⟨v,a,h⟩:=bind_some h;cases h;exact Qt.refl _
  ·cases h
 ·split at h
  ·obtain⟨v,a,h⟩:=bind_some h;cases h;exact Qt.refl _
  ·cases h
 ·obtain⟨v,a,h⟩:=bind_some h;cases h;exact Qt.refl _
 ·obtain⟨v,a,h⟩:=bind_some h;cases h;exact Qt.refl _
 ·split at h
  ·exact Akf h
  ·cases h
 ·split at h
  ·exact A7d h
  ·cases h
 ·cases h
end
end
noncomputable section
abbrev KH:=BI->En->HS->RH
structure KC where
 run:KH
def A7e:KH:=fun _ _ _=>none
def A7f(x:Operand):KH:=fun _ ρ s=>bO (D3 ρ x) fun v=>some (v,s)
def AIi(c x y:Operand):KH:=fun _ ρ s=>bO (D3 ρ c) fun v=>asB v fun t=>bO (D3 ρ (DO t x y)) fun v=>some (v,s)
def kNew(z:Option (List HV)):KH:=fun _ _ s=>bO z fun z=>some (.p s.nx 0,GS s (.c z))
def kBox(x:Operand):KH:=fun _ ρ s=>bO (D3 ρ x) fun y=>bO (Ny y) fun z=>some (.p s.nx 0,GS s (.c z))
def ABh(P:Program)(t:TypeId)(ps:List (Nat × Operand)):KH:=fun _ ρ s=>bO (uK P ρ t ps) fun v=>some (v,s)
def A7g(P:Program)(t:TypeId)(m:Nat)(ps:List (Nat × Operand)):KH:=fun _ ρ s=>bO (Ov P ρ t m ps) fun cs=>some (.s s.nx 0 m (.k m),GS s (.c cs))
section
variable(z:Option (Nat × Bool))
def AIj(x:Operand):KH:=fun _ ρ s=>bO (D3 ρ x) fun v=>asP v fun b off=>gJ (s.h.get b) fun cs=>bO z fun q=>bO (VJ cs off q.1 q.2) fun v=>some (v,s)
def ABi(x y:Operand):KH:=fun _ ρ s=>bO (D3 ρ x) fun v=>asP v fun b off=>gJ (s.h.get b) fun cs=>bO z fun q=>bO (D3 ρ y) fun z=>bO (Ur z q.1) fun a=>bO (gI a off cs) fun d=>some (.u,IE s b (.c d))
end
def kNil(x:Operand):KH:=fun _ ρ s=>bO (D3 ρ x) fun v=>Cu (A6u v) (some (v,s))
def kBin(P:Program)(op:BinOp)(t:TypeId)(x y:Operand):KH:=fun _ ρ s=>bO (D3 ρ x) fun p=>bO (D3 ρ y) fun q=>bO (A6v P op t p q) fun v=>some (v,s)
def kUn(op:UnOp)(x:Operand):KH:=fun _ ρ s=>bO (D3 ρ x) fun p=>bO (unH op p) fun v=>some (v,s)
def AIk(P:Program)(a dst:TypeId)(x:Operand):KH:=fun _ ρ s=>bO (D3 ρ x) fun p=>bO (A6x P s a dst p) fun v=>some (v,s)
def AIl(f:Nat)(xs a:List Operand):KH:=fun _ ρ s=>bO (R' ρ xs) fun fs=>bO (R' ρ a) fun cs=>some (.f f fs cs,s)
def kMap:KH:=fun _ _ s=>some (.m s.nx,GS s (.m []))
def ABj(P:Program)(t:TypeId)(x:Operand):KH:=fun _ ρ s=>bO (D3 ρ x) fun p=>bO (A6w P t p) fun str=>some (.p s.nx 0,GS s (.it str 0))
def AIm(x:Operand):KH:=fun _ ρ s=>bO (D3 ρ x) fun v=>asP v fun b off=>Cu (AKi off 0) <| A6r (s.h.get b) fun str pos=>uQ str pos b s
def AIn(P:Program)(t:TypeId)(x y:Operand):KH:=fun _ ρ s=>bO (D3 ρ x) fun v=>asN v fun l=>bO (D3 ρ y) fun v=>asN v fun c=>A6z P s t l c
def ABk(P:Program)(t:TypeId)(x:Operand)(lo hi mx:Option Operand):KH:=fun _ ρ s=>bO (D3 ρ x) fun p=>bO (uS P ρ t p lo hi mx) fun v=>some (v,s)
def Ads(q:Option (Nat × Nat))(x:Operand):KH:=fun _ ρ s=>bO (D3 ρ x) fun v=>asP v fun b off=>bO q fun q=>some (.p b (off+q.1),s)
def ABl(q:Option (Nat × Nat × Bool))(x:Operand):KH:=fun _ ρ s=>bO (D3 ρ x) fun v=>asG v (fun cs=>bO q fun q=>bO (VJ cs q.1 q.2.1 q.2.2) fun v=>some (v,s)) none
def Adt(q:Option (TypeId × Nat × Nat))(x y:Operand):KH:=fun _ ρ s=>bO (D3 ρ x) fun v=>asS v fun b off len _=>bO (D3 ρ y) fun i=>asN i fun j=>bO q fun q=>Cu (Ks j len) (some (.p b (off+j*q.2.1),s))
section
variable(P:Program)(t:TypeId)
def ABm(x y:Operand):KH:=fun _ ρ s=>bO (D3 ρ x) fun p=>bO (D3 ρ y) fun i=>asN i fun j=>bO (uU P t p j) fun v=>some (v,s)
def A7h(x y:Operand)(a:Bool):KH:=fun _ ρ s=>bO (D3 ρ x) fun p=>bO (D3 ρ y) fun k=>bO (A6y P s t p k a) fun v=>some (v,s)
def A7i(x y b:Operand):KH:=fun _ ρ s=>bO (D3 ρ x) fun p=>bO (D3 ρ y) fun k=>bO (D3 ρ b) fun v=>AFg P s t p k v
end
def Auq(x:Operand)(i:Nat):KH:=fun _ ρ s=>bO (D3 ρ x) fun v=>asT v fun cs=>bO (mV cs i) fun v=>some (v,s)
def AIo(f:Operand)(xs:List Operand):KH:=fun call ρ s=>bO (D3 ρ f) fun fv=>bO (R' ρ xs) fun vs=>call fv vs s
def Aur(P:Program)(b:Builtin)(xs:List Operand)(a:List TypeId):KH:=fun _ ρ s=>bO (R' ρ xs) fun vs=>N0 P s b a vs
section
variable(P:Program)(t:TypeId)(f:Nat)
def ABn:Option (Nat × Nat):=bO (foP P t f) fun q=>bO (Ut P q.2) fun z=>DO (AKi z.1 0) none (some (q.1,z.1))
def ABo:Option (Nat × Nat × Bool):=bO (foP P t f) fun q=>bO (Ut P q.2) fun z=>some (q.1,z.1,z.2)
end
def A8(P:Program):Op->KC
 | .move x=>⟨A7f x⟩
 | .assign x=>⟨A7f x⟩
 | .pick c x y=>⟨AIi c x y⟩
 | .alloc t=>⟨kNew (uH P t)⟩
 | .box _ x=>⟨kBox x⟩
 | .build t ps=>⟨ABh P t ps.toList⟩
 | .buildSlice t m ps=>⟨A7g P t m ps.toList⟩
 | .load t x=>⟨AIj (Ut P t) x⟩
 | .store t x y=>⟨ABi (Ut P t) x y⟩
 | .nilCheck x=>⟨kNil x⟩
 | .binOp op t x y _=>⟨kBin P op t x y⟩
 | .unOp op _ x=>⟨kUn op x⟩
 | .convert a dst x=>⟨AIk P a dst x⟩
 | .makeFunc (.func f) xs ys=>⟨AIl f xs.toList ys.toList⟩
 | .makeMap _ none=>⟨kMap⟩
 | .range t x=>⟨ABj P t x⟩
 | .next x true=>⟨AIm x⟩
 | .makeSlice t x y=>⟨AIn P t x y⟩
 | .slice t x lo hi mx=>⟨ABk P t x lo hi mx⟩
 | .fieldAddr t x f=>⟨Ads (ABn P t f) x⟩
 | .field t x f=>⟨ABl (ABo P t f) x⟩
 | .indexAddr t x y=>⟨Adt (kH P t) x y⟩
 | .index t x y=>⟨ABm P t x y⟩
 | .lookup t x y d=>⟨A7h P t x y d⟩
 | .mapUpdate t x y e=>⟨A7i P t x y e⟩
 | .extract x i=>⟨Auq x i⟩
 | .call c=>match c.callee with
  | .value f=>⟨AIo f c.args.toList⟩
  | .builtin b=>⟨Aur P b c.args.toList c.argTypes.toList⟩
  | _=>⟨A7e⟩
 | _=>⟨A7e⟩
def R1:Op->Bool
 | .call c=>match c.callee with | .value _=>true | _=>false
 | _=>false
section
variable {P:Program} {o:Oper} {a:Act} {μ:Mu} {w:World} {s:HS} {n:Nat} {ρ:En}
theorem KM{o:HO}(hf:D_ μ s.nx (GS s o).nx):μ s.nx=none:=hf s.nx (Ay _) (FJ _)
theorem     R2 {call :      BI} (hc : ∀ f l s x s', call f l s = some (x, s') -> Qt s s') {op : Op} {x : HV} {s' : HS} (h : ( A8 P op).run call ρ s = some (x, s')) : Qt s s' := by
  cases op <;> simp only [ A8] at h <;> try (cases h; done)
  case move x => obtain ⟨v, _, h⟩ := bind_some h; cases h; exact Qt.refl _
  case assign x => obtain ⟨v, _, h⟩ := bind_some h; cases h; exact Qt.refl _
  case pick c x y => obtain ⟨v, _, h⟩ := bind_some h; obtain ⟨t, _, h⟩ :=       Rt h; obtain ⟨v, _, h⟩ := bind_some h; cases h; exact Qt.refl _
  case alloc t => obtain ⟨z, _, h⟩ := bind_some h; cases h; exact Qt.new _ _
  case box t x => obtain ⟨y, _, h⟩ := bind_some h; obtain ⟨z, _, h⟩ := bind_some h; cases h; exact Qt.new _ _
  case build t ps => obtain ⟨v, _, h⟩ := bind_some h; cases h; exact Qt.refl _
  case buildSlice t m ps => obtain ⟨v, _, h⟩ := bind_some h; cases h; exact Qt.new _ _
  case load t x => obtain ⟨v, _, h⟩ := bind_some h; obtain ⟨b, off, _, h⟩ :=       HF h; obtain ⟨cs, _, h⟩ :=       E3 h; obtain ⟨q, _, h⟩ := bind_some h; obtain ⟨q, _, h⟩ := bind_some h; cases h; exact Qt.refl _
  case store t x y => obtain ⟨v, _, h⟩ := bind_some h; obtain ⟨b, off, _, h⟩ :=       HF h; obtain ⟨cs, hb, h⟩ :=       E3 h; obtain ⟨q, _, h⟩ := bind_some h; obtain ⟨q, _, h⟩ := bind_some h; obtain ⟨q, _, h⟩ := bind_some h; obtain ⟨q, _, h⟩ := bind_some h; cases h; exact Qt.turn hb
  case nilCheck x => obtain ⟨v, _, h⟩ := bind_some h; obtain ⟨_, h⟩ :=         AS h; cases h; exact Qt.refl _
  case binOp op t x y t' => obtain ⟨v, _, h⟩ := bind_some h; obtain ⟨v, _, h⟩ := bind_some h; obtain ⟨v, _, h⟩ := bind_some h; cases h; exact Qt.refl _
  case unOp op t x => obtain ⟨v, _, h⟩ := bind_some h; obtain ⟨v, _, h⟩ := bind_some h; cases h; exact Qt.refl _
  case convert src dst x => obtain ⟨v, _, h⟩ := bind_some h; obtain ⟨v, _, h⟩ := bind_some h; cases h; exact Qt.refl _
  case makeFunc f xs ys => cases f <;> simp only at h <;> try (cases h; done)
                           obtain ⟨v, _, h⟩ := bind_some h; obtain ⟨v, _, h⟩ := bind_some h; cases h; exact Qt.refl _
  case makeMap t r =>
    cases r with
    | none => cases h; exact Qt.new _ _
    | some r => cases h
  case range t x => obtain ⟨v, _, h⟩ := bind_some h; obtain ⟨v, _, h⟩ := bind_some h; cases h; exact Qt.new _ _
  case next x b =>
    cases b with
    | false => cases h
    | true =>
      obtain ⟨v, _, h⟩ := bind_some h; obtain ⟨b, off, _, h⟩ :=       HF h; obtain ⟨_, h⟩ :=         AS h; obtain ⟨str, pos, hb, h⟩ :=        gK h
      unfold    uQ at h
      cases hc :      Ks pos str.size <;> rw [hc] at h <;> cases h
      · exact Qt.refl _
      · exact Qt.turn hb
  case makeSlice t x y =>
    obtain ⟨v, _, h⟩ := bind_some h; obtain ⟨_, l, _, h⟩ :=       HG h; obtain ⟨v, _, h⟩ := bind_some h; obtain ⟨_, c, _, h⟩ :=       HG h
    obtain ⟨q, _, h⟩ := bind_some h; obtain ⟨_, h⟩ :=         AS h; obtain ⟨z, _, h⟩ := bind_some h; obtain ⟨_, h⟩ :=         AS h; cases h; exact Qt.new _ _
  case slice t x lo hi mx => obtain ⟨v, _, h⟩ := bind_some h; obtain ⟨v, _, h⟩ := bind_some h; cases h; exact Qt.refl _
  case fieldAddr t x f => obtain ⟨v, _, h⟩ := bind_some h; obtain ⟨b, off, _, h⟩ :=       HF h; obtain ⟨q, _, h⟩ := bind_some h; cases h; exact Qt.refl _
  case field t x f => obtain ⟨v, _, h⟩ := bind_some h; obtain ⟨cs, _, h⟩ :=       mY h; obtain ⟨q, _, h⟩ := bind_some h; obtain ⟨q, _, h⟩ := bind_some h; cases h; exact Qt.refl _
  case indexAddr t x y => obtain ⟨v, _, h⟩ := bind_some h; obtain ⟨_, _, _, _, _, h⟩ :=       mZ h; obtain ⟨q, _, h⟩ := bind_some h; obtain ⟨_, c, _, h⟩ :=       HG h; obtain ⟨q, _, h⟩ := bind_some h; obtain ⟨_, h⟩ :=         AS h; cases h; exact Qt.refl _
  case index t x y => obtain ⟨q, _, h⟩ := bind_some h; obtain ⟨q, _, h⟩ := bind_some h; obtain ⟨_, c, _, h⟩ :=       HG h; obtain ⟨q, _, h⟩ := bind_some h; cases h; exact Qt.refl _
  case lookup t x y cm => obtain ⟨q, _, h⟩ := bind_some h; obtain ⟨q, _, h⟩ := bind_some h; obtain ⟨q, _, h⟩ := bind_some h; cases h; exact Qt.refl _
  case mapUpdate t x y y' =>
    obtain ⟨q, _, h⟩ := bind_some h; obtain ⟨q, _, h⟩ := bind_some h; obtain ⟨q, _, h⟩ := bind_some h
    obtain ⟨q, _, h⟩ := bind_some h; obtain ⟨_, h⟩ :=         AS h
    split at h
    · obtain ⟨es, ha, h⟩ :=       Ru h
      obtain ⟨r, _, h⟩ := bind_some h
      split at h <;> cases h <;> exact Qt.turn ha
    · cases h
  case extract x i => obtain ⟨v, _, h⟩ := bind_some h; obtain ⟨t, _, h⟩ :=       mX h; obtain ⟨v, _, h⟩ := bind_some h; cases h; exact Qt.refl _
  case call c =>
    split at h
    · obtain ⟨v, _, h⟩ := bind_some h; obtain ⟨v, _, h⟩ := bind_some h; exact hc _ _ _ _ _ h
    · obtain ⟨v, _, h⟩ := bind_some h; exact        Adr h
    · cases h
theorem    ABp {call :      BI} (H : HR μ s.h w) (F : FR μ n ρ a.tmps) {x : HV} {s' : HS} (hf :   D_ μ s.nx s'.nx) (hnc :     R1 o.op = false) (h : ( A8 P o.op).run call ρ s = some (x, s')) :    E1 P o a μ w s s' x := by
  cases hop : o.op <;> rw [hop] at h hnc <;> simp only [ A8] at h <;> try (cases h; done)
  case move x => obtain ⟨v, hv, h⟩ := bind_some h; cases h; exact         WE H F (.inl hop) hv
  case assign x => obtain ⟨v, hv, h⟩ := bind_some h; cases h; exact         WE H F (.inr hop) hv
  case pick c x y => obtain ⟨v, hv, h⟩ := bind_some h; obtain ⟨t, rfl, h⟩ :=       Rt h; obtain ⟨v, hz, h⟩ := bind_some h; cases h; exact        Adi H F hop hv hz
  case alloc t => obtain ⟨z, hz, h⟩ := bind_some h; cases h; exact          uI H hop hz (      KM hf)
  case box t x => obtain ⟨y, hy, h⟩ := bind_some h; obtain ⟨z, hz, h⟩ := bind_some h; cases h; exact       Aka H F hop hy hz (      KM hf)
  case build t ps => obtain ⟨v, hv, h⟩ := bind_some h; cases h; exact          uL H F hop hv
  case buildSlice t m ps => obtain ⟨v, hv, h⟩ := bind_some h; cases h; exact               Uu H F hop hv (      KM hf)
  case load t x => obtain ⟨v, hv, h⟩ := bind_some h; obtain ⟨b, off, rfl, h⟩ :=       HF h; obtain ⟨cs, hb, h⟩ :=       E3 h; obtain ⟨⟨k, one⟩, hq, h⟩ := bind_some h; obtain ⟨q, ht, h⟩ := bind_some h; rw [      Rs] at ht; cases h; exact        Adk H F hop hv hq hb ht
  case store t x y => obtain ⟨v, hv, h⟩ := bind_some h; obtain ⟨b, off, rfl, h⟩ :=       HF h; obtain ⟨cs, hb, h⟩ :=       E3 h; obtain ⟨⟨k, one⟩, hq, h⟩ := bind_some h; obtain ⟨z, hz, h⟩ := bind_some h; obtain ⟨ys, hys, h⟩ := bind_some h; obtain ⟨cs', hl, h⟩ := bind_some h; rw [     Qv] at hl; cases h; exact          uM H F hop hv hz hq hb (       gL hys) hl
  case nilCheck x => obtain ⟨v, hv, h⟩ := bind_some h; obtain ⟨ho, h⟩ :=         AS h; cases h; exact             Xl H F hop hv ho
  case binOp op t x y t' => obtain ⟨p, hp, h⟩ := bind_some h; obtain ⟨q, hq, h⟩ := bind_some h; obtain ⟨v, hv, h⟩ := bind_some h; cases h; exact       Akc H F hop hp hq hv
  case unOp op t x => obtain ⟨p, hp, h⟩ := bind_some h; obtain ⟨v, hv, h⟩ := bind_some h; cases h; exact      Auo H F hop hp hv
  case convert src dst x => obtain ⟨p, hp, h⟩ := bind_some h; obtain ⟨v, hv, h⟩ := bind_some h; cases h; exact             Xn H F hop hp hv
  case makeFunc f xs ys => cases f <;> simp only at h <;> try (cases h; done)
                           obtain ⟨fs, h1, h⟩ := bind_some h; obtain ⟨cs, h2, h⟩ := bind_some h; cases h; exact             Xm H F hop h1 h2
  case makeMap t r =>
    cases r with
    | none => cases h; exact            gS H hop (      KM hf)
    | some r => cases h
  case range t x => obtain ⟨v, hv, h⟩ := bind_some h; obtain ⟨str, hs, h⟩ := bind_some h; cases h; exact          uP H F hop hv hs (      KM hf)
  case next x b =>
    cases b with
    | false => cases h
    | true =>
      obtain ⟨v, hv, k1⟩ := bind_some h
      obtain ⟨b, off, e, k2⟩ :=       HF k1
      obtain ⟨h0, k3⟩ :=         AS k2
      obtain ⟨str, pos, hb, k4⟩ :=        gK k3
      have :=                    Ao h0
      subst this
      subst e
      exact        Adl H F hop hv hb k4
  case makeSlice t x y =>
    obtain ⟨v, hv, h⟩ := bind_some h; obtain ⟨_, l, rfl, h⟩ :=       HG h; obtain ⟨v, hv', h⟩ := bind_some h; obtain ⟨_, c, rfl, h⟩ :=       HG h
    have hμ : μ s.nx = none := by
      have h' := h
      obtain ⟨q, _, h'⟩ := bind_some h'; obtain ⟨_, h'⟩ :=         AS h'; obtain ⟨z, _, h'⟩ := bind_some h'; obtain ⟨_, h'⟩ :=         AS h'; cases h'
      exact       KM hf
    exact        Ado H hμ F hop hv hv' h
  case slice t x lo hi mx => obtain ⟨p, hp, h⟩ := bind_some h; obtain ⟨v, hv, h⟩ := bind_some h; cases h; exact          uT H F hop hp hv
  case fieldAddr t x f =>
    obtain ⟨v, hv, h⟩ := bind_some h; obtain ⟨b, off, rfl, h⟩ :=       HF h; obtain ⟨q, hq, h⟩ := bind_some h
    cases h
    obtain ⟨⟨fo, tf⟩, hf, hq⟩ := bind_some hq; obtain ⟨⟨k, one⟩, hz, hq⟩ := bind_some hq
    cases hk :     AKi k 0
    · rw [hk] at hq; cases hq; exact              VL H F hop hv hf hz hk
    · rw [hk] at hq; cases hq
  case field t x f =>
    obtain ⟨v, hv, h⟩ := bind_some h; obtain ⟨cs, rfl, h⟩ :=       mY h; obtain ⟨q, hq, h⟩ := bind_some h; obtain ⟨y, hy, h⟩ := bind_some h
    cases h
    obtain ⟨⟨fo, tf⟩, hf, hq⟩ := bind_some hq; obtain ⟨⟨k, one⟩, hz, hq⟩ := bind_some hq
    cases hq
    rw [      Rs] at hy
    exact          uN H F hop hv hf hz hy
  case indexAddr t x y =>
    obtain ⟨v, hv, h⟩ := bind_some h; obtain ⟨b, off, len, cap, rfl, h⟩ :=       mZ h; obtain ⟨i, hi, h⟩ := bind_some h; obtain ⟨_, j, rfl, h⟩ :=       HG h; obtain ⟨⟨e, k, b⟩, he, h⟩ := bind_some h; obtain ⟨hj, h⟩ :=         AS h; cases h; exact              VM H F hop hv hi he hj
  case index t x y => obtain ⟨p, hp, h⟩ := bind_some h; obtain ⟨i, hi, h⟩ := bind_some h; obtain ⟨_, j, rfl, h⟩ :=       HG h; obtain ⟨v, hv, h⟩ := bind_some h; cases h; exact          uV H F hop hp hi hv
  case lookup t x y cm => obtain ⟨p, hp, h⟩ := bind_some h; obtain ⟨k, hk, h⟩ := bind_some h; obtain ⟨v, hv, h⟩ := bind_some h; cases h; exact           kI H F hop hp hk hv
  case mapUpdate t x y y' => obtain ⟨p, hp, h⟩ := bind_some h; obtain ⟨k, hk, h⟩ := bind_some h; obtain ⟨v, hv, h⟩ := bind_some h; exact           kJ H F hop hp hk hv h
  case extract x i => obtain ⟨v, hv, h⟩ := bind_some h; obtain ⟨cs, rfl, h⟩ :=       mX h; obtain ⟨v, hi, h⟩ := bind_some h; rw [     gH] at hi; cases h; exact            gQ H F hop hv hi
  case call c =>
    split at h
    · rename_i f hcal
      simp only [    R1, hcal] at hnc
      cases hnc
    · rename_i b hcal
      obtain ⟨vs, hvs, h⟩ := bind_some h
      obtain ⟨e1, e2⟩ :=       Rv F hvs
      obtain ⟨m, hm, v, μ', w', hrun, g1, g2, g3⟩ :=        Adq (ty := o.type) H hf e1 e2 h
      refine ⟨v, μ', w', .inl ?_, g1, g2, g3⟩
      simp only [execOp, hop, resolve, hcal,           Aj,           An,                 W, invoke, hm, hrun]
    · cases h
end
end
noncomputable section
def BM(n:Nat)(l:List Nat):Bool:=BZ (motive:=fun _=>Bool) false (fun m _ a=>HK (motive:=fun _=>Bool) a true (AKi m n)) l
def Qw(n:Nat)(d:Option Nat):Bool:=HW (motive:=fun _=>Bool) true (fun d=>Ks d n) d
def L0(ρ:En)(d:Option Nat)(v:HV):En:=HW (motive:=fun _=>En) ρ (fun d=>ρ.set d v) d
def R4(ops:Array Oper)(g:Option (Nat × Bool)):Option (Nat × Bool) :=
 match g with
 | none=>none
 | some (j,b)=>match ops[j]? with
  | some o=>match o.dst with
   | some t=>some (t,b)
   | none=>none
  | none=>none
def Qx(ρ:En)(ops:Array Oper)(g:Option (Nat × Bool)):Option Bool :=
 match g with
 | none=>some true
 | some _=>bO (R4 ops g) fun q=>match ρ.get q.1 with
  | some (.b x)=>some (x==q.2)
  | some .u=>some false
  | _=>none
structure MO where
 run:En->HS->Option (En × HS)
section
variable(k:KC)(call:BI)(d:Option Nat)
def uX(ρ:En)(s:HS):Option (En × HS):=bO (k.run call ρ s) fun r=>some (L0 ρ d r.1,r.2)
def AIp(ops:Array Oper)(g:Option (Nat × Bool))(ρ:En)(s:HS):Option (En × HS) :=
 bO (Qx ρ ops g) fun b=>DO b (uX k call d ρ s) (some (L0 ρ d .u,s))
end
def Ee(P:Program)(call:BI)(n:Nat)(ops:Array Oper)(o:Oper):MO :=
 DO (Qw n o.dst) (match o.guard with | none=>⟨uX (A8 P o.op) call o.dst⟩ | some q=>⟨AIp (A8 P o.op) call o.dst ops (some q)⟩) ⟨fun _ _=>none⟩
def A7j(a b:MO)(ρ:En)(s:HS):Option (En × HS):=bO (a.run ρ s) fun r=>b.run r.1 r.2
def CY(P:Program)(call:BI)(n:Nat)(ops:Array Oper)(l:List Oper):MO :=
 BZ (motive:=fun _=>MO) ⟨fun ρ s=>some (ρ,s)⟩ (fun o _ a=>⟨A7j (Ee P call n ops o) a⟩) l
structure Rec where
 d:Option Nat
 v:HV
 ks:List Nat
 h:Tr HO
 vis:Option (List Nat)
 tm:List Nat
def XJ(x:List Operand):List Nat :=
 match x with
 | []=>[]
 | .tmp t::l=>t::XJ l
 | _::l=>XJ l
def Oy(ops:Array Oper)(o:Oper):List Nat :=
 match R4 ops o.guard with
 | some q=>q.1::XJ o.op.operands.toList
 | none=>XJ o.op.operands.toList
def idOf(v:Option HV):List Nat :=
 match v with
 | some (.p a _)=>[a]
 | some (.s a _ _ _)=>[a]
 | some (.m a)=>[a]
 | _=>[]
def AIq(ρ:En)(l:List Operand):List Nat:=BZ (motive:=fun _=>List Nat) [] (fun x _ a=>idOf (D3 ρ x)++a) l
def Ux(h:Tr HO)(r:Rec):Tr HO:=BZ (motive:=fun _=>Tr HO->Tr HO) (fun h=>h) (fun a _ b h=>b (h.set a (r.h.get a))) r.ks h
def Akm(h:Tr HO)(r:Rec):Tr HO:=BZ (motive:=fun _=>Tr HO->Tr HO) (fun h=>h) (fun a _ b h=>b (h.set a none)) r.ks h
section
variable(anc:List Nat)(i:Nat)(b:List Rec)(h:Tr HO)
def XK:Tr HO :=
 BZ (motive:=fun _=>Nat->Tr HO->Tr HO) (fun _ h=>h) (fun r _ a i h=>a (L8 i) (DO (BM i anc) (Ux h r) h)) b i h
def XL:Tr HO :=
 BZ (motive:=fun _=>Nat->Tr HO->Tr HO) (fun _ h=>h) (fun r _ a i h=>a (L8 i) (DO (BM i anc) h (Akm h r))) b i h
end
def GZ(anc:List Nat)(h0:Tr HO)(a:List Rec):Tr HO:=XL anc 0 a (XK anc 0 a h0)
def gZ(h:Tr HO)(l:List Nat):Tr HO:=BZ (motive:=fun _=>Tr HO) .e (fun a _ b=>b.set a (h.get a)) l
def uY(ρ:En)(l:List Nat):List (Nat × HV):=BZ (motive:=fun _=>List (Nat × HV)) [] (fun t _ a=>HW (motive:=fun _=>List (Nat × HV)) a (fun x=>(t,x)::a) (ρ.get t)) l
def VT(ρ:En)(l:List Nat):En:=⟨uY ρ l,.e,0⟩
def uZ(d:Option Nat)(l:List Nat):Bool:=match d with | some t=>BM t l | none=>false
def Adu(d a:Option Nat):Bool:=match d,a with | some t,some t'=>AKi t t' | _,_=>false
def Aot(lg l:List Nat):Bool:=BZ (motive:=fun _=>Bool) true (fun a _ b=>DO (BM a l) false b) lg
def R5(r r':Rec)(lg:List Nat):Bool :=
 !uZ r.d r'.tm && !uZ r'.d r.tm && !Adu r.d r'.d&&(match r.vis with | none=>lg.isEmpty | some l=>Aot lg l)
def N1(anc:List Nat)(i:Nat)(a:List Rec)(r':Rec)(lg:List Nat):Bool :=
 BZ (motive:=fun _=>Nat->Bool) (fun _=>true) (fun r _ b i=>DO (BM i anc || R5 r r' lg) (b (L8 i)) false) a i
def I6(ρ:En)(o:Oper):Option (List Nat):=DO (R1 o.op) none (some (AIq ρ o.op.operands.toList))
def N2(h:Tr HO)(vis:Option (List Nat)):Tr HO:=match vis with | none=>h | some l=>gZ h l
def vA(P:Program)(call:BI)(ops:Array Oper)(ρ:En)(h0:Tr HO)(nx:Nat)(a:List Rec)(anc:List Nat)(o:Oper):Option (Rec × Nat × List Nat) :=
 bO (Qx ρ ops o.guard) fun b=>DO b
  (bO ((A8 P o.op).run call (VT ρ (Oy ops o)) ⟨N2 (GZ anc h0 a) (I6 ρ o),nx,[]⟩) fun r =>
    some (⟨o.dst,r.1,r.2.lg++WS nx (r.2.nx-nx),r.2.h,I6 ρ o,Oy ops o⟩,r.2.nx,r.2.lg))
  (some (⟨o.dst,.u,[],.e,some [],Oy ops o⟩,nx,[]))
def R6(a:List Rec)(h:Tr HO):Tr HO:=BZ (motive:=fun _=>Tr HO->Tr HO) (fun h=>h) (fun r _ b h=>b (Ux h r)) a h
def evD(P:Program)(call:BI)(n:Nat)(ops:Array Oper)(h0:Tr HO)(b:List Nat):List Oper->List (List Nat)->En->Nat->List Nat->List Rec->Option (En × HS)
 | [],_,ρ,nx,lg,a=>some (ρ,⟨R6 a h0,nx,lg++b⟩)
 | o::l,anc::ancs,ρ,nx,lg,a=>bO (vA P call ops ρ h0 nx a anc o) fun r =>
   Cu (Qw n o.dst&&N1 anc 0 a r.1 r.2.2) <| evD P call n ops h0 b l ancs (L0 ρ o.dst r.1.v) r.2.1 (r.2.2++lg) (a++[r.1])
 | _::_,[],_,_,_,_=>none
section
variable(P:Program)(call:BI)(n:Nat)(ops:Array Oper)
def XM(ρ:En)(s:HS):Option (En × HS) :=
 Cu (QA ops.toList) (evD P call n ops s.h s.lg ops.toList (Hj ops.toList []) ρ s.nx [] [])
def evR(a:Bool):MO:=DO a ⟨XM P call n ops⟩ (CY P call n ops ops.toList)
end
abbrev RC:=Option (Ex × En × HS)
structure MC where
 run:En->HS->RC
def VU(r:RC)(k:En->HS->RC):RC:=bO r fun q=>Ex.rec (motive:=fun _=>RC) (k q.2.1 q.2.2) (fun _=>some q) (some q) q.1
def R7(id:Nat)(r:RC):RC:=bO r fun q=>Ex.rec (motive:=fun _=>RC) (some q) (fun i=>DO (AKi i id) (some (.norm,q.2)) (some q)) (some q) q.1
def asL{α:Type}(o:Option HO)(k:En->Nat->List Nat->Code->Code->LoopState->Option Code->Option α):Option α:=match o with | some (.l ρ n ps asx bd st j)=>k ρ n ps asx bd st j | _=>none
def ABq:Option Code->Option Ex
 | none=>some .norm
 | some .ret=>some .ret
 | some (.exit id)=>some (.exit id)
 | _=>none
def JK:Ex->Option Code
 | .norm=>none
 | .ret=>some .ret
 | .exit id=>some (.exit id)
def A7k(m:MO)(ρ:En)(s:HS):RC:=bO (m.run ρ s) fun r=>some (.norm,r.1.flush,r.2)
def cSeq(a b:MC)(ρ:En)(s:HS):RC:=VU (a.run ρ s) b.run
def Akn(x:Operand)(a b:MC)(ρ:En)(s:HS):RC:=bO (D3 ρ x) fun v=>asB v fun t=>(DO t a b).run ρ s
def ABr(id:Nat)(a:MC)(ρ:En)(s:HS):RC:=R7 id (a.run ρ s)
def SL(f:Nat)(a:MC):En->HS->RC:=Pj (motive:=fun _=>En->HS->RC) (fun _ _=>none) (fun _ b ρ s=>VU (a.run ρ s) b) f
def A7l:LoopState->Bool
 | .busy=>false
 | _=>true
def isFn(v:HV):Bool:=match v with | .f _ _ _=>true | _=>false
def vB(call:BI)(n:Nat)(f:Operand)(ps:List Nat)(asx bd:Code)(ρ:En)(s:HS):RC :=
 bO (D3 ρ f) fun fv=>Cu (isFn fv) <| bO (call fv [.y s.nx] (GS s (.l ρ n ps asx bd .ready none))) fun r =>
   asL (r.2.h.get s.nx) fun ρ1 a b c d st j=>Cu (A7l st) <| bO (ABq j) fun ex=>some (ex,ρ,IE r.2 s.nx (.l ρ1 a b c d .exhausted j))
def BJ(P:Program)(call:BI)(n:Nat)(rd:Bool)(d:Nat)(c:Code):MC :=
 Code.rec (motive:=fun _=>MC) ⟨fun ρ s=>some (.norm,ρ,s)⟩ (fun _ ops e=>⟨A7k (evR P call n ops e)⟩) (fun _ _ a b=>⟨cSeq a b⟩) (fun x _ _ a b=>⟨Akn x a b⟩) (fun id _ a=>⟨ABr id a⟩) (fun _ a=>⟨SL d a⟩)
  (fun f ps asx bd _ _=>DO rd ⟨fun _ _=>none⟩ ⟨vB call n f ps.toList asx bd⟩) (fun id=>⟨fun ρ s=>some (.exit id,ρ,s)⟩) (fun _ a=>a) (fun _=>⟨fun ρ s=>some (.norm,ρ,s)⟩) (fun _=>⟨fun _ _=>none⟩) ⟨fun ρ s=>some (.ret,ρ,s)⟩ (fun _=>⟨fun _ _=>none⟩) c
def VV:List HV->Nat->List (Nat × HV)->List (Nat × HV)
 | [],_,l=>l
 | x::xs,i,l=>VV xs (L8 i) ((i,x)::l)
def Uy(P:Program)(ρ:En)(s:HS):List ResultVar->Option (List HV)
 | []=>some []
 | .tmp t::l=>bO (ρ.get t) fun v=>bO (Uy P ρ s l) fun vs=>some (v::vs)
 | .cell t a::l=>bO (ρ.get t) fun v=>asP v fun b off=>gJ (s.h.get b) fun cs=>bO (Ut P a) fun q=>bO (VJ cs off q.1 q.2) fun v=>bO (Uy P ρ s l) fun vs=>some (v::vs)
def Adv(l:List HV):HV:=match l with | [x]=>x | l => .t l
def hC:List Nat->List HV->Nat->En->Option En
 | [],[],_,ρ=>some ρ
 | p::ps,x::xs,n,ρ=>Cu (Ks p n) (hC ps xs n (ρ.set p x))
 | _,_,_,_=>none
def Qy(f:Func):Bool := !(f.name == "runtime.NumGoroutine")
def Aou(e:Ex):Bool:=Ex.rec (motive:=fun _=>Bool) true (fun _=>false) true e
def AIr(e:Ex):Bool:=Ex.rec (motive:=fun _=>Bool) true (fun _=>false) false e
def Uz:LoopState->Option Code->Bool
 | .ready,none=>true
 | _,_=>false
structure MF where
 run:List HV->HS->RH
section
variable(P:Program)
def AFj(n ms:Nat)(res:List ResultVar)(c:MC)(l:List HV)(s:HS):RH :=
 Cu (Dq (Ade l) n) <| bO (c.run (En.flush ⟨VV l 0 [],.e,ms⟩) s) fun r=>Cu (Aou r.1) <| bO (Uy P r.2.1 r.2.2 res) fun vs=>some (Adv vs,r.2.2)
def nD(call:BI)(a:Nat)(mk:Nat->Nat)(fn:Nat):MF :=
 match P.funcs[fn]? with
 | some F=>match F.body with
  | some c=>DO (Qy F) ⟨AFj P F.ntmps (mk fn) F.results.toList (BJ P call F.ntmps false a c)⟩ ⟨fun _ _=>none⟩
  | none=>⟨fun _ _=>none⟩
 | none=>⟨fun _ _=>none⟩
def U0(call:BI)(a b:Nat)(args:List HV)(s:HS):RH :=
 asL (s.h.get b) fun ρ n ps asx bd st j=>Cu (Uz st j) <| bO (hC ps args n ρ) fun ρ' =>
   bO ((BJ P call n true a asx).run ρ' s) fun r=>Cu (AIr r.1) <|
    asL (r.2.2.h.get b) fun ρ1 g i k m S5 o=>Cu (Uz S5 o) <|
     bO ((BJ P call n true a bd).run r.2.1 (IE r.2.2 b (.l ρ1 g i k m .busy none))) fun q =>
      asL (q.2.2.h.get b) fun ρ2 p t u v _ _=>some (.b (JK q.1).isNone,IE q.2.2 b (.l ρ2 p t u v (match q.1 with | .norm => .ready | _ => .done) (JK q.1)))
def VW(call:BI)(a:Nat)(mk:Nat->Nat)(fv:HV)(args:List HV)(s:HS):RH :=
 match fv with
 | .f fn fs cs=>(nD P call a mk fn).run (fs++args++cs) s
 | .y b=>U0 P call a b args s
 | _=>none
def Jm(a:Nat)(mk:Nat->Nat)(d:Nat):BI :=
 Pj (motive:=fun _=>BI) (fun _ _ _=>none) (fun _ w fv args s=>VW P w a mk fv args s) d
end
end
noncomputable section
section
variable {P:Program} {call:BI} {n:Nat} {ops:Array Oper} {ρ ρ':En} {s s':HS}
def QC(call:BI):Prop:=∀ f l s x s',call f l s=some (x,s')->Qt s s'
theorem nE(ρ:En)(d:Option Nat)(v:HV)(t:Nat):(L0 ρ d v).get t=if d=some t then some v else ρ.get t:=by
 cases d with
 | none=>rw[Al (by simp)];rfl
 | some d =>
  show (ρ.set d v).get t=_;rw[Adc];by_cases h:t=d
  ·rw[Ae h,Ae (by rw[h])]
  ·rw[Al h,Al fun e=>h (AY e).symm]
theorem hJ{o:Oper}(h:(Ee P call n ops o).run ρ s=some (ρ',s')):Qw n o.dst=true/\∃ b,Qx ρ ops o.guard=some b /\
  ((b=true/\∃ x,(A8 P o.op).run call ρ s=some (x,s')/\ρ'=L0 ρ o.dst x)\/(b=false/\s'=s/\ρ'=L0 ρ o.dst .u)):=by
 unfold Ee at h;cases hd:Qw n o.dst
 ·rw[hd] at h;cases h
 ·rw[hd] at h;refine⟨rfl,?_⟩;simp only[cnd_true] at h;have plain:uX (A8 P o.op) call o.dst ρ s=some (ρ',s')->∃ x,(A8 P o.op).run call ρ s=some (x,s')/\ρ'=L0 ρ o.dst x:=by
   intro h;obtain⟨⟨x,c⟩,h1,h⟩:=BY h;cases h;exact⟨x,h1,rfl⟩
  cases a:o.guard with
  | none =>
   rw[a] at h;exact⟨true,rfl,.inl ⟨rfl,plain h⟩⟩
  | some q =>
   rw[a] at h;obtain⟨b,hb,h⟩:=BY h;refine⟨b,hb,?_⟩;cases b
   ·simp only[cnd_false] at h;cases h;exact .inr ⟨rfl,rfl,rfl⟩
   ·exact .inl ⟨rfl,plain h⟩
theorem Adw(hc:QC call){o:Oper}(h:(Ee P call n ops o).run ρ s=some (ρ',s')):Qt s s':=by
 obtain⟨_,b,_,⟨_,x,h1,_⟩ | ⟨_,rfl,_⟩⟩:=hJ h
 ·exact R2 hc h1
 ·exact Qt.refl _
theorem WG{o:Oper}{l:List Oper}(h:(CY P call n ops (o::l)).run ρ s=some (ρ',s')):∃ ρ1 a,(Ee P call n ops o).run ρ s=some (ρ1,a)/\(CY P call n ops l).run ρ1 a=some (ρ',s'):=by
 have h:A7j (Ee P call n ops o) (CY P call n ops l) ρ s=some (ρ',s'):=h;obtain⟨⟨ρ1,a⟩,h1,h2⟩:=BY h;exact⟨ρ1,a,h1,h2⟩
theorem VX(hc:QC call):∀ {l:List Oper} {ρ:En} {s:HS},(CY P call n ops l).run ρ s=some (ρ',s')->Qt s s'
 | [],ρ,s,h=>by cases h;exact Qt.refl _
 | o::l,ρ,s,h=>by
  obtain⟨ρ1,a,h1,h2⟩:=WG h;exact (Adw hc h1).trans (VX hc h2)
theorem Gx{a:Nat}:∀ {l:List Nat},BM a l=true↔a∈l
 | []=>⟨fun h=>(by cases h),fun h=>(by cases h)⟩
 | b::l=>by
  have e:BM a (b::l)=DO (AKi b a) true (BM a l):=rfl;rw[e,Aw];cases h:AKi b a
  ·rw[cnd_false,Gx];constructor
   ·exact .inr
   ·rintro (rfl | c)
    ·rw[E7] at h;cases h
    ·exact c
  ·exact⟨fun _ => .inl (Ao h).symm,fun _=>rfl⟩
theorem WH(r:Rec)(a:Nat):∀ (h:Tr HO),(Ux h r).get a=if BM a r.ks then r.h.get a else h.get a:=by
 have f:∀ (l:List Nat) (h:Tr HO),(BZ (motive:=fun _=>Tr HO->Tr HO) (fun h=>h) (fun a _ d h=>d (h.set a (r.h.get a))) l h:Tr HO).get a=if BM a l then r.h.get a else h.get a:=by
  intro l;induction l with
  | nil=>intro h;rfl
  | cons b l d =>
   intro h;have e:BM a (b::l)=DO (AKi b a) true (BM a l):=rfl;rw[e];refine (d (h.set b (r.h.get b))).trans ?_;rw[CA];cases hb:AKi b a
   ·rw[cnd_false];by_cases c:BM a l=true
    ·rw[Ae c,Ae c]
    ·rw[Al c,Al c,Al fun e=>by rw[e,E7] at hb;cases hb]
   ·have:=Ao hb;subst this;rw[cnd_true,Ae rfl,Ae rfl,ite_self]
 exact fun h=>f r.ks h
theorem Ako(r:Rec)(a:Nat):∀ (h:Tr HO),(Akm h r).get a=if BM a r.ks then none else h.get a:=by
 have f:∀ (l:List Nat) (h:Tr HO),(BZ (motive:=fun _=>Tr HO->Tr HO) (fun h=>h) (fun a _ d h=>d (h.set a none)) l h:Tr HO).get a=if BM a l then none else h.get a:=by
  intro l;induction l with
  | nil=>intro h;rfl
  | cons b l d =>
   intro h;have e:BM a (b::l)=DO (AKi b a) true (BM a l):=rfl;rw[e];refine (d (h.set b none)).trans ?_;rw[CA];cases hb:AKi b a
   ·rw[cnd_false];by_cases c:BM a l=true
    ·rw[Ae c,Ae c]
    ·rw[Al c,Al c,Al fun e=>by rw[e,E7] at hb;cases hb]
   ·have:=Ao hb;subst this;rw[cnd_true,Ae rfl,Ae rfl,ite_self]
 exact fun h=>f r.ks h
def Di(D:Nat->Bool)(a:Nat):List Rec->Nat->Option HO->Option HO
 | [],_,b=>b
 | r::rs,i,b=>Di D a rs (i+1) (if D i&&BM a r.ks then r.h.get a else b)
def Hz(D:Nat->Bool)(t:Nat):List Rec->Nat->Option HV->Option HV
 | [],_,b=>b
 | r::rs,i,b=>Hz D t rs (i+1) (if D i&&r.d==some t then some r.v else b)
def hU(anc:List Nat)(a:Nat):List Rec->Nat->Bool
 | [],_=>false
 | r::rs,i=>(!BM i anc&&BM a r.ks) || hU anc a rs (i+1)
theorem WI(anc:List Nat)(a:Nat):∀ (rs:List Rec) (i:Nat) (h:Tr HO),(XK anc i rs h).get a=Di (fun j=>BM j anc) a rs i (h.get a)
 | [],i,h=>rfl
 | r::rs,i,h=>by
  have e:XK anc i (r::rs) h=XK anc (i+1) rs (DO (BM i anc) (Ux h r) h):=rfl;rw[e,WI anc a rs (i+1)];simp only[Di];congr 1;rcases Q (BM i anc) with b | b
  ·simp only[b,cnd_true,WH,G8]
  ·simp[b]
theorem WJ(anc:List Nat)(a:Nat):∀ (rs:List Rec) (i:Nat) (h:Tr HO),(XL anc i rs h).get a=if hU anc a rs i then none else h.get a
 | [],i,h=>rfl
 | r::rs,i,h=>by
  have e:XL anc i (r::rs) h=XL anc (i+1) rs (DO (BM i anc) h (Akm h r)):=rfl;rw[e,WJ anc a rs (i+1)];simp only[hU];rcases Q (BM i anc) with b | b
  ·simp[b]
  ·simp only[b,cnd_false,Ako,Bool.not_false,G8];rcases Q (BM a r.ks) with h1 | h1 <;> simp[h1]
theorem Ml(a:Nat):∀ (rs:List Rec) (i:Nat) (h:Tr HO),(R6 rs h).get a=Di (fun _=>true) a rs i (h.get a)
 | [],i,h=>rfl
 | r::rs,i,h=>by
  have e:R6 (r::rs) h=R6 rs (Ux h r):=rfl;rw[e,Ml a rs (i+1)];simp only[Di];congr 1;rw[WH];simp
theorem SM(anc:List Nat)(h0:Tr HO)(rs:List Rec)(a:Nat):(GZ anc h0 rs).get a=if hU anc a rs 0 then none else Di (fun j=>BM j anc) a rs 0 (h0.get a):=by
 unfold GZ;rw[WJ,WI]
theorem SN{anc:List Nat}{a:Nat}:∀ {rs:List Rec} {i:Nat},hU anc a rs i=false->∀ j r,rs[j]? = some r->BM a r.ks=true->BM (i+j) anc=true
 | [],i,_,j,r,hr,_=>by simp at hr
 | r0::rs,i,h,j,r,hr,b=>by
  simp only[hU,nM,Bool.and_eq_false_iff,Bool.not_eq_false'] at h;cases j with
  | zero =>
   simp only[C2,Ac] at hr;subst hr;rcases h.1 with h1 | h1
   ·exact h1
   ·rw[b] at h1;cases h1
  | succ j =>
   have:=SN h.2 j r (by simpa using hr) b;rwa [show i+1+j=i+(j+1) by omega] at this
theorem HH{D c:Nat->Bool}{a:Nat}:∀ {rs:List Rec} {i:Nat} {b:Option HO},(∀ j r,rs[j]? = some r->BM a r.ks=true->D (i+j)=c (i+j))->Di D a rs i b=Di c a rs i b
 | [],i,b,_=>rfl
 | r::rs,i,b,h=>by
  simp only[Di];have e:(if (D i&&BM a r.ks)=true then r.h.get a else b)=if (c i&&BM a r.ks)=true then r.h.get a else b:=by
   cases d:BM a r.ks
   ·simp
   ·have:=h 0 r rfl d;simp only[Bv] at this;rw[this]
  rw[e];exact HH fun j r' hr d=>by
   have:=h (j+1) r' (by simpa using hr) d;rwa [show i+(j+1)=i+1+j by omega] at this
theorem JY{D:Nat->Bool}{a:Nat}:∀ {rs:List Rec} {i:Nat} {b:Option HO},(∀ j r,rs[j]? = some r->BM a r.ks=true->D (i+j)=false)->Di D a rs i b=b
 | [],i,b,_=>rfl
 | r::rs,i,b,h=>by
  simp only[Di];have e:(if (D i&&BM a r.ks)=true then r.h.get a else b)=b:=by
   cases c:BM a r.ks
   ·simp
   ·have:=h 0 r rfl c;simp only[Bv] at this;rw[this];simp
  rw[e];exact JY fun j r' hr c=>by
   have:=h (j+1) r' (by simpa using hr) c;rwa [show i+(j+1)=i+1+j by omega] at this
theorem WK{D:Nat->Bool}{a:Nat}:∀ {rs:List Rec} {i k:Nat} {r:Rec} {b:Option HO},rs[k]? = some r->D (i+k)=true->BM a r.ks=true->(∀ j r',k<j->rs[j]? = some r'->BM a r'.ks=true->D (i+j)=false)->Di D a rs i b=r.h.get a
 | [],i,k,r,b,hr,_,_,_=>by simp at hr
 | r0::rs,i,k,r,b,hr,c,e,h=>by
  simp only[Di];cases k with
  | zero =>
   simp only[C2,Ac] at hr;subst hr;simp only[Bv] at c;rw[c,e];exact JY fun j r' hr d=>by
    have:=h (j+1) r' (by omega) (by simpa using hr) d;rwa [show i+(j+1)=i+1+j by omega] at this
  | succ k =>
   refine WK (k:=k) (by simpa using hr) (by rwa [show i+(k+1)=i+1+k by omega] at c) e fun j r' g f d => ?_;have:=h (j+1) r' (by omega) (by simpa using f) d;rwa [show i+(j+1)=i+1+j by omega] at this
theorem Oz{D:Nat->Bool}{a:Nat}:∀ {rs:List Rec} {i:Nat} {b:Option HO},Di D a rs i b=b\/∃ (k:Nat) (r:Rec),rs[k]? = some r/\D (i+k)=true/\BM a r.ks=true/\Di D a rs i b=r.h.get a
 | [],i,b => .inl rfl
 | r::rs,i,b=>by
  simp only[Di];rcases Oz (D:=D) (a:=a) (rs:=rs) (i:=i+1) (b:=if (D i&&BM a r.ks)=true then r.h.get a else b) with h | ⟨k,r',h1,h2,c,d⟩
  ·rw[h];split
   next hc=>rw[U] at hc;exact .inr ⟨0,r,rfl,by simpa using hc.1,hc.2,rfl⟩
   ·exact .inl rfl
  ·exact .inr ⟨k+1,r',by simpa using h1,by rwa [show i+(k+1)=i+1+k by omega],c,d⟩
theorem WL{D:Nat->Bool}{a:Nat}:∀ {rs:List Rec} {i k:Nat} {b:Option HO},(∀ j r,k<=j->rs[j]? = some r->BM a r.ks=true->D (i+j)=false)->Di D a (rs.take k) i b=Di D a rs i b
 | [],i,k,b,_=>by simp
 | r::rs,i,0,b,h=>by
  rw[J',JY (rs:=r::rs) fun j r' hr c=>h j r' (B_ _) hr c];rfl
 | r::rs,i,k+1,b,h=>by
  simp only[K3,Di];exact WL fun j r' d hr c=>by
   have:=h (j+1) r' (by omega) (by simpa using hr) c;rwa [show i+(j+1)=i+1+j by omega] at this
theorem JZ{D c:Nat->Bool}{t:Nat}:∀ {rs:List Rec} {i:Nat} {b:Option HV},(∀ j r,rs[j]? = some r->r.d=some t->D (i+j)=c (i+j))->Hz D t rs i b=Hz c t rs i b
 | [],i,b,_=>rfl
 | r::rs,i,b,h=>by
  simp only[Hz];have e:(if (D i&&r.d==some t)=true then some r.v else b)=if (c i&&r.d==some t)=true then some r.v else b:=by
   by_cases a:r.d=some t
   ·have:=h 0 r rfl a;simp only[Bv] at this;rw[this]
   ·have:(r.d==some t)=false:=by simpa using a
    rw[this];simp
  rw[e];exact JZ fun j r' hr a=>by
   have:=h (j+1) r' (by simpa using hr) a;rwa [show i+(j+1)=i+1+j by omega] at this
theorem O0{D:Nat->Bool}{t:Nat}:∀ {rs:List Rec} {i:Nat} {b:Option HV},(∀ j r,rs[j]? = some r->r.d=some t->D (i+j)=false)->Hz D t rs i b=b
 | [],i,b,_=>rfl
 | r::rs,i,b,h=>by
  simp only[Hz];have e:(if (D i&&r.d==some t)=true then some r.v else b)=b:=by
   by_cases a:r.d=some t
   ·have:=h 0 r rfl a;simp only[Bv] at this;rw[this];simp
   ·have:(r.d==some t)=false:=by simpa using a
    rw[this];simp
  rw[e];exact O0 fun j r' hr a=>by
   have:=h (j+1) r' (by simpa using hr) a;rwa [show i+(j+1)=i+1+j by omega] at this
theorem iA{D:Nat->Bool}{t:Nat}:∀ {rs:List Rec} {i k:Nat} {r:Rec} {b:Option HV},rs[k]? = some r->D (i+k)=true->r.d=some t->(∀ j r',k<j->rs[j]? = some r'->r'.d=some t->D (i+j)=false)->Hz D t rs i b=some r.v
 | [],i,k,r,b,hr,_,_,_=>by simp at hr
 | r0::rs,i,k,r,b,hr,a,e,h=>by
  simp only[Hz];cases k with
  | zero =>
   simp only[C2,Ac] at hr;subst hr;simp only[Bv] at a;rw[a,e];simp only[BEq.rfl,E8,if_true];exact O0 fun j r' hr c=>by
    have:=h (j+1) r' (by omega) (by simpa using hr) c;rwa [show i+(j+1)=i+1+j by omega] at this
  | succ k =>
   refine iA (k:=k) (by simpa using hr) (by rwa [show i+(k+1)=i+1+k by omega] at a) e fun j r' g f c => ?_;have:=h (j+1) r' (by omega) (by simpa using f) c;rwa [show i+(j+1)=i+1+j by omega] at this
theorem iB{D:Nat->Bool}{t:Nat}:∀ {rs:List Rec} {i k:Nat} {b:Option HV},(∀ j r,k<=j->rs[j]? = some r->r.d=some t->D (i+j)=false)->Hz D t (rs.take k) i b=Hz D t rs i b
 | [],i,k,b,_=>by simp
 | r::rs,i,0,b,h=>by
  rw[J',O0 (rs:=r::rs) fun j r' hr a=>h j r' (B_ _) hr a];rfl
 | r::rs,i,k+1,b,h=>by
  simp only[K3,Hz];exact iB fun j r' c hr a=>by
   have:=h (j+1) r' (by omega) (by simpa using hr) a;rwa [show i+(j+1)=i+1+j by omega] at this
theorem U1{D:Nat->Bool}{t:Nat}(r:Rec):∀ {rs:List Rec} {i:Nat} {b:Option HV},Hz D t (rs++[r]) i b=if D (i+C rs)&&r.d==some t then some r.v else Hz D t rs i b
 | [],i,b=>by simp only[Dg,Hz,Fr,Bv]
 | r0::rs,i,b=>by
  simp only[HZ,Hz,B1];rw[U1 r,show i+1+C rs=i+(C rs+1) by omega]
end
end
noncomputable section
variable {P:Program} {call:BI} {n:Nat} {ops:Array Oper} {h0:Tr HO} {ancs:List (List Nat)} {ρ0:En}
structure DR (P:Program) (call:BI) (n:Nat) (ops:Array Oper) (h0:Tr HO) (ancs:List (List Nat)) (rs:List Rec) (ρs:Nat->En) (nxs:Nat->Nat) (lgs:Nat->List Nat) (k:Nat):Prop where
 len:rs.length=k
 op:∀ i,i<k->∃ o r,ops[i]? = some o/\rs[i]? = some r/\vA P call ops (ρs i) h0 (nxs i) (rs.take i) (ancs.getD i []) o=some (r,nxs (i+1),lgs i)/\Qw n o.dst=true /\
  N1 (ancs.getD i []) 0 (rs.take i) r (lgs i)=true/\ρs (i+1)=L0 (ρs i) o.dst r.v
theorem iC{B:List Nat}{ρ':En}{s':HS}:∀ (l:List Oper) (e:List (List Nat)) (k:Nat) (ρ:En) (nx:Nat) (lg:List Nat) (rs:List Rec) (ρs:Nat->En) (nxs:Nat->Nat) (lgs:Nat->List Nat),
  (∀ j,l[j]? = ops[k+j]?)->(∀ j,e[j]? = ancs[k+j]?)->DR P call n ops h0 ancs rs ρs nxs lgs k->ρs k=ρ->nxs k=nx->(∀ a,a∈lg↔∃ i,i<k/\a∈lgs i)->evD P call n ops h0 B l e ρ nx lg rs=some (ρ',s') ->
  ∃ D ρs' b c,DR P call n ops h0 ancs D ρs' b c (k+C l)/\ρs' 0=ρs 0/\b 0=nxs 0/\ρs' (k+C l)=ρ'/\s'.h=R6 D h0/\s'.nx=b (k+C l)/\(∀ a,a∈s'.lg↔(∃ i,i<k+C l/\a∈c i)\/a∈B)
 | [],e,k,ρ,nx,lg,rs,ρs,nxs,lgs,_,_,hd,h1,h2,t,h=>by
  simp only[evD,Ac,Cc] at h;obtain⟨rfl,rfl⟩:=h;exact⟨rs,ρs,nxs,lgs,hd,rfl,rfl,h1,rfl,h2.symm,fun a=>by rw[AK,t];rfl⟩
 | o::l,[],k,ρ,nx,lg,rs,ρs,nxs,lgs,_,_,_,_,_,_,h=>by simp[evD] at h
 | o::l,anc::e,k,ρ,nx,lg,rs,ρs,nxs,lgs,hl,E,hd,h1,h2,t,h=>by
  simp only[evD] at h;obtain⟨⟨r,u,w⟩,hr,h⟩:=BY h;obtain⟨hc,h⟩:=AS h;rw[U] at hc;have F:ancs.getD k []=anc:=by
   have:=E 0;simp only[C2,Bv] at this;rw[Z,<- this];rfl
  have K:ops[k]? = some o:=by have:=hl 0;simpa using this.symm
  have G:=hd.len;let ρs':Nat->En:=fun i=>if i=k+1 then L0 ρ o.dst r.v else ρs i
  let b:Nat->Nat:=fun i=>if i=k+1 then u else nxs i
  let c:Nat->List Nat:=fun i=>if i=k then w else lgs i
  have d:∀ i,i<=k->ρs' i=ρs i:=fun i hi=>Al (by omega);have f:∀ i,i<=k->b i=nxs i:=fun i hi=>Al (by omega);have g:∀ i,i<k->c i=lgs i:=fun i hi=>Al (by omega);have H:ρs' (k+1)=L0 ρ o.dst r.v:=Ae rfl;have I:b (k+1)=u:=Ae rfl;have m:c k=w:=Ae rfl;have L:DR P call n ops h0 ancs (rs++[r]) ρs' b c (k+1):=by
   refine⟨by simp[G],fun i hi => ?_⟩;by_cases x:i=k
   ·subst x;refine⟨o,r,K,by rw[A_ (by omega),G,Wo];rfl,?_,hc.1,?_,?_⟩
    ·rw[d i (Ay _),f i (Ay _),I,m,h1,h2,F,F8 (by omega),E_ (by omega)];exact hr
    ·rw[F,m,F8 (by omega),E_ (by omega)];exact hc.2
    ·rw[H,d i (Ay _),h1]
   ·obtain⟨o',r',p,y,z,q,A,s⟩:=hd.op i (by omega);refine⟨o',r',p,by rw[AO (by omega)];exact y,?_,q,?_,?_⟩
    ·rw[d i (by omega),f i (by omega),f (i+1) (by omega),g i (by omega),F8 (by omega)];exact z
    ·rw[g i (by omega),F8 (by omega)];exact A
    ·rw[d (i+1) (by omega),d i (by omega)];exact s
  obtain⟨M,ρs2,N,O,p,y,z,q,A,s,J⟩:=iC l e (k+1) (L0 ρ o.dst r.v) u (w++lg) (rs++[r]) ρs' b c
   (fun j=>by have:=hl (j+1);rw[Eb] at this;rw[this];congr 1;omega) (fun j=>by have:=E (j+1);rw[Eb] at this;rw[this];congr 1;omega) L H I (fun a=>by
    rw[AK,t];constructor
    ·rintro (h | ⟨i,hi,h⟩)
     ·exact⟨k,FJ k,by rw[m];exact h⟩
     ·exact⟨i,by omega,by rw[g i hi];exact h⟩
    ·rintro⟨i,hi,h⟩;by_cases x:i=k
     ·subst x;rw[m] at h;exact .inl h
     ·exact .inr ⟨i,by omega,by rw[g i (by omega)] at h;exact h⟩) h
  have Q:k+1+C l=k+C (o::l):=by simp;omega
  rw[Q] at p q s J;exact⟨M,ρs2,N,O,p,by rw[y,d 0 (B_ _)],by rw[z,f 0 (B_ _)],q,A,s,J⟩
theorem Qz{anc:List Nat}{r':Rec}{lg:List Nat}:∀ {rs:List Rec} {i:Nat},N1 anc i rs r' lg=true->∀ j r,rs[j]? = some r->BM (i+j) anc=false->R5 r r' lg=true
 | [],i,_,j,r,hr,_=>by simp at hr
 | r0::rs,i,h,j,r,hr,a=>by
  have e:N1 anc i (r0::rs) r' lg=DO (BM i anc || R5 r0 r' lg) (N1 anc (i+1) rs r' lg) false:=rfl;rw[e] at h;cases hc:(BM i anc || R5 r0 r' lg)
  ·rw[hc] at h;cases h
  ·rw[hc,cnd_true] at h;cases j with
   | zero =>
    simp only[C2,Ac] at hr;subst hr;simp only[Bv] at a;rw[a,Aey] at hc;exact hc
   | succ j=>exact Qz h j r (by simpa using hr) (by rwa [show i+1+j=i+(j+1) by omega])
theorem iD{l:List Nat}{a:Nat}:∀ {lg:List Nat},Aot lg l=true->a∈lg->¬ a∈l
 | [],_,h=>by cases h
 | b::lg,h,d=>by
  have e:Aot (b::lg) l=DO (BM b l) false (Aot lg l):=rfl;rw[e] at h;cases c:BM b l
  ·rw[c,cnd_false] at h;rcases Aw.1 d with rfl | d
   ·intro f;rw[Gx.2 f] at c;cases c
   ·exact iD h d
  ·rw[c] at h;cases h
structure Apart (r r':Rec) (lg:List Nat):Prop where
 a:∀ t,r.d=some t->¬ t∈r'.tm
 b:∀ t,r'.d=some t->¬ t∈r.tm
 c:∀ t,r.d=some t->r'.d=some t->False
 d:∀ x,x∈lg->∃ l,r.vis=some l/\¬ x∈l
theorem vC{r r':Rec}{lg:List Nat}(h:R5 r r' lg=true):Apart r r' lg:=by
 simp only[R5,U,Bl] at h;obtain⟨⟨⟨h1,h2⟩,e⟩,b⟩:=h;refine⟨fun t a c => ?_,fun t a c => ?_,fun t a g => ?_,fun x d => ?_⟩
 ·rw[a] at h1;rw[show uZ (some t) r'.tm=BM t r'.tm from rfl,Gx.2 c] at h1;cases h1
 ·rw[a] at h2;rw[show uZ (some t) r.tm=BM t r.tm from rfl,Gx.2 c] at h2;cases h2
 ·rw[a,g,show Adu (some t) (some t)=AKi t t from rfl,E7] at e;cases e
 ·cases f:r.vis with
  | none =>
   rw[f] at b;have:lg=[]:=by simpa using b
   rw[this] at d;cases d
  | some l =>
   rw[f] at b;exact⟨l,rfl,iD b d⟩
structure RecF (P:Program) (call:BI) (ops:Array Oper) (ρ:En) (h0:Tr HO) (nx nx':Nat) (lg:List Nat) (rs:List Rec) (anc:List Nat) (o:Oper) (r:Rec):Prop where
 d:r.d=o.dst
 tm:r.tm=Oy ops o
 ks:∀ a,BM a r.ks=true↔a∈lg\/(nx<=a/\a<nx')
 run:(Qx ρ ops o.guard=some true/\r.vis=I6 ρ o/\(A8 P o.op).run call (VT ρ (Oy ops o)) ⟨N2 (GZ anc h0 rs) (I6 ρ o),nx,[]⟩=some (r.v,⟨r.h,nx',lg⟩)) \/
  (Qx ρ ops o.guard=some false/\r.vis=some []/\r.v = .u/\nx'=nx/\lg=[])
theorem Adx{ρ:En}{nx nx':Nat}{lg:List Nat}{rs:List Rec}{anc:List Nat}{o:Oper}{r:Rec}(hc:QC call)(h:vA P call ops ρ h0 nx rs anc o=some (r,nx',lg)):RecF P call ops ρ h0 nx nx' lg rs anc o r:=by
 unfold vA at h;obtain⟨b,hb,h⟩:=BY h;cases b
 ·rw[cnd_false] at h;cases h;exact⟨rfl,rfl,fun a=>⟨fun h=>(by cases h),fun h=>(by rcases h with h | h;cases h;omega)⟩,.inr ⟨hb,rfl,rfl,rfl,rfl⟩⟩
 ·rw[cnd_true] at h;obtain⟨⟨v,c⟩,hr,h⟩:=BY h;cases h;have q:=(R2 hc hr).nx;simp only at q;refine⟨rfl,rfl,fun a => ?_,.inl ⟨hb,rfl,hr⟩⟩;rw[Gx,AK,AJn];constructor
  ·rintro (h | h)
   ·exact .inl h
   ·exact .inr ⟨h.1,by omega⟩
  ·rintro (h | h)
   ·exact .inl h
   ·exact .inr ⟨h.1,by omega⟩
theorem iE(h:Tr HO)(a:Nat):∀ (l:List Nat),(gZ h l).get a=if BM a l then h.get a else none
 | []=>rfl
 | b::l=>by
  have e:gZ h (b::l)=(gZ h l).set b (h.get b):=rfl;have c:BM a (b::l)=DO (AKi b a) true (BM a l):=rfl;rw[e,c,CA,iE h a l];cases hb:AKi b a
  ·rw[Al fun e=>by rw[e,E7] at hb;cases hb];rfl
  ·have:=Ao hb;subst this;rw[Ae rfl];rfl
theorem SO{h:Tr HO}{vis:Option (List Nat)}{a:Nat}{o:HO}(hs:(N2 h vis).get a=some o):h.get a=some o/\∀ l,vis=some l->a∈l:=by
 cases vis with
 | none=>exact⟨hs,fun l e=>by cases e⟩
 | some l =>
  have hs:(gZ h l).get a=some o:=hs;rw[iE] at hs;split at hs
  next b=>exact⟨hs,fun c e=>by cases e;exact Gx.1 b⟩
  ·cases hs
theorem SP{ρ:En}{t:Nat}{x:HV}:∀ {l:List Nat},(VT ρ l).get t=some x->t∈l/\ρ.get t=some x
 | [],h=>by
  have h:DO (Un 0 t) ((Tr.e:Tr HV).get t) none=some x:=h;cases hb:Un 0 t <;> rw[hb] at h <;> cases h
 | u::l,h=>by
  have e:uY ρ (u::l)=HW (motive:=fun _=>List (Nat × HV)) (uY ρ l) (fun x=>(u,x)::uY ρ l) (ρ.get u):=rfl;unfold VT at h;rw[e] at h;cases hu:ρ.get u with
  | none =>
   rw[hu] at h;obtain⟨h1,h2⟩:=SP (l:=l) h;exact⟨AJ _ h1,h2⟩
  | some y =>
   rw[hu] at h;have a:DO (AKi u t) (some y) ((VT ρ l).get t)=some x:=h;cases hb:AKi u t
   ·rw[hb,cnd_false] at a;obtain⟨h1,h2⟩:=SP (l:=l) a;exact⟨AJ _ h1,h2⟩
   ·rw[hb,cnd_true] at a;have:=Ao hb;subst this;exact⟨AKh,by rw[hu];exact a⟩
end
end Go.Hp
