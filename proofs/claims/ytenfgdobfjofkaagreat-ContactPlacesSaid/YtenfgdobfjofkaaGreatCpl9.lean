/- Texts of the proof of ContactPlaces: part 9 of 17. -/
import Derived.RangeFuncRecord
import Derived.Test.YtenfgdobfjofkaaGreatCpl8
namespace Go.Hp
open Go.Ai Go.RowKit
open _root_.Array renaming getElem?_append_left->RI,getElem?_eq_getElem->A4,getElem?_eq_some_iff->A8,getElem?_setIfInBounds_ne->MX,getElem?_toList->DI,length_toList->Bt,size_append->Qm
open Bool renaming and_eq_true->U,and_self->DN,eq_false_or_eq_true->Ah,not_eq_true'->BJ,or_eq_false_iff->aK,or_eq_true->C7,rec->GI,true_and->Yt
open _root_.ByteArray renaming empty->AP
open Classical renaming byContradiction->iC
open Go renaming undef->A0
open Go.Builtin renaming append_->AT,cap_->Aqe,copy_->Fq,firstCells->Ea,lenOf->DS,len_->Gy,max_->A0r,min_->A0s,zeroCells->F6
open Go.Instr renaming checkKey->Je,findKey->Yx,findNow->H_,index->Aav,keyThatStays->wA,lookup->aB,mapUpdate->Agm,next->Azv,sameBits->MT,slice->Hh,sliceAt->ED,sliceBound->Yy,sliceBounds->Iu
open Go.IntKind renaming i64->D
open Go.Op renaming equal->wW,stringOp->LJ
open Go.Result renaming andThen_ok->Aa
open Go.RowKit.Below renaming heap_alloc->F7
open Go.Sem renaming run->Cn,run_bind->Am,run_pure->Ap
open Go.Utf8 renaming decode->SB
open Go.World renaming putObj_heap_other->DO,putObj_heap_same->Arq
open Int renaming mul_le_mul_of_nonneg_right->Agp,toNat_natCast->Ao
open List renaming append_assoc->EU,cons_append->LH,drop->R,drop_zero->DF,eq_nil_of_length_eq_zero->A_,getD_eq_getElem?_getD->Z,getElem?_append_left->AA,getElem?_append_right->AO,getElem?_cons_succ->Du,getElem?_cons_zero->Cb,getElem?_eq_getElem->Ad,getElem?_eq_some_iff->AZ,getElem?_take_of_lt->BO,getElem?_toArray->Cq,getElem_append_left->CD,getElem_append_right->C3,getElem_cons_zero->Bk,getElem_modify->wB,getElem_of_mem->Hr,getElem_set_ne->MV,getElem_set_self->No,getElem_toArray->DV,length->C,length_append->Ac,length_cons->BF,length_drop->ET,length_nil->Ev,length_take->EE,mem_append->AF,mem_cons->Aw,mem_cons_of_mem->AI,mem_cons_self->A1,mem_of_mem_drop->C1,mem_of_mem_take->B8,mem_range'_1->A1e,nil_append->C',range->A',range'->TH,rec->BG,size_toArray->Cr,take->CV,take_append_of_le_length->EC,take_of_length_le->Ej,take_succ_cons->MW,take_zero->M8
open Nat renaming add_assoc->Fs,add_mul->Ek,add_zero->Bn,beq->Au,beq_refl->DM,ble->CM,ble_eq->IA,blt->Jd,blt_eq->Jx,eq_of_beq_eq_true->Aj,le_of_eq->U0,le_refl->Ar,le_succ->Abr,le_trans->AR,lt_succ_self->EQ,min->PH,mul_le_mul_right->Hf,rec->Nu,sub_self->Tg,succ->Ki,zero_add->AJ,zero_le->Cj
open Ne renaming symm->EG
open Option renaming getD_some->EA,isNone_iff_eq_none->I9,map_eq_some_iff->S,map_none->Kg,map_some->Al,rec->GQ
open Option.some renaming inj->AM,injEq->Ab
open Prod.mk renaming injEq->BP
open UInt8 renaming ofNat->Axq
noncomputable section
def KU:List HV->Option (u)
 | []=>some []
 | .i k n::l=>(KU l).map (.int k n::·)
 | _=>none
def avH:HV->Option AV
 | .b x=>some (.bool x)
 | .i k n=>some (.int k n)
 | .g cs=>(KU cs).map .agg
 | _=>none
def hvA:AV->Option HV
 | .int k n=>some (.i k n)
 | .bool b=>some (.b b)
 | .str b=>some (.c (.string b))
 | _=>none
theorem Po:∀ {cs:List HV} {asx:u},KU cs=some asx->C asx=C cs/\∀ (j:Nat) (h1:j<C cs) (h2:j<C asx),∃ k n,cs[j] = .i k n/\asx[j] = .int k n
 | [],asx,h=>by
  simp only[KU,Ab] at h;subst h;exact⟨rfl,fun j h1=>(by simp at h1)⟩
 | x::l,asx,h=>by
  cases x <;> simp only[KU,S] at h <;> try cases h
  rename_i k n bs h;obtain⟨h,rfl⟩:=h;obtain⟨a,b⟩:=Po h;refine⟨by simp[a],fun j h1 h2 => ?_⟩;cases j with
  | zero=>exact⟨k,n,rfl,rfl⟩
  | succ j=>exact b j (by simpa using h1) (by simpa using h2)
theorem fR{μ:Mu}{Y X:Nat->Prop}{w:World}{x:HV}{v:Value}{y:AV}(h:VR μ x v)(c:avH x=some y):Rd Y X w v y:=by
 cases x <;> simp only[avH,Ab,S] at c <;> try cases c
 ·cases h;exact .bool _
 ·cases h;exact .int _ _
 ·rename_i cs asx c;obtain⟨c,rfl⟩:=c;obtain⟨a,b⟩:=Po c;cases h with
  | g _ vs ho hs hr =>
   refine .agg vs asx (fun z d => ?_) (by omega) (fun j h1 h2 => ?_)
   ·obtain⟨j,f,rfl⟩:=Hr d;obtain⟨k,n,_,e⟩:=b j (by omega) f;rw[e];rfl
   ·obtain⟨k,n,i,l⟩:=b j (by omega) h2;have:=hr j (by omega) h1;rw[i] at this;rw[l];generalize vs[j]=u at this;cases this;exact .int _ _
theorem zV{μ:Mu}{Y X:Nat->Prop}{w:World}{x:HV}{v:Value}{y:AV}(h:Rd Y X w v y)(a:hvA y=some x):VR μ x v:=by
 cases y <;> simp only[hvA,Ab] at a <;> try cases a
 ·cases h;exact .i _ _
 ·cases h;exact .b _
 ·cases h;exact .c _ ⟨rfl,rfl⟩
def Z_(op:BinOp)(r:Bool):Option HV :=
 match op with
 | .eql=>some (.b r)
 | .neq=>some (.b (!r))
 | _=>none
def Apx(P:Program)(op:BinOp)(t:TypeId):HV->HV->Option HV
 | .i k a,.i d b=>bO (J7 op (.int k a) (.int d b)) hvA
 | .b a,.b c=>BV (Nh P t) (Z_ op (a==c))
 | .g xs,.g e=>bO (KU xs) fun asx=>bO (KU e) fun bs=>BV (xA P t (C xs)) (bO (B9 asx bs) (Z_ op))
 | .s _ _ _ _,.sn=>BV (Eo P t) (Z_ op false)
 | .sn,.sn=>BV (Eo P t) (Z_ op true)
 | .c (.string a),.c (.string b)=>bO (Zh op a b) hvA
 | _,_=>none
section
variable {P:Program} {o:Oper} {a:Act} {μ:Mu} {w:World} {s:HS} {n:Nat} {ρ:En}
theorem R2{op:BinOp}{t:TypeId}{x y:Operand}{u v:Value}{r:Bool}{z:HV}{t':TypeId}(H:HR μ s.h w)(e:o.op = .binOp op t x y t')(c:Z_ op r=some z)(hu:a.eval x=u)(f:a.eval y=v)
  (g:(eqGuard op t x y u v).run P w = .ok () w) (i:(wW t u v).run P w = .ok r w) (hb:∀ d,d = .eql\/d = .neq->binOp d t u v=(if d = .eql then (do pure (.bool (<- wW t u v))) else (do pure (.bool (!(<- wW t u v)))))):DE P o a μ w s s z:=by
 unfold Z_ at c;split at c
 ·cases c;refine Bi H (v := .bool r) ?_ (.b _);simp only[execOp,e,hu,f,Am,g,Aa,hb .eql (.inl rfl),if_true,i,Ap]
 ·cases c;refine Bi H (v := .bool (!r)) ?_ (.b _);simp only[execOp,e,hu,f,Am,g,Aa,hb .neq (.inr rfl),reduceCtorEq,if_false,i,Ap]
 ·cases c
theorem vU(H:HR μ s.h w)(F:FR μ n ρ a.tmps){op:BinOp}{t t':TypeId}{x y:Operand}{p q z:HV}(f:o.op = .binOp op t x y t')(B:CU ρ x=some p)(C:CU ρ y=some q)(d:Apx P op t p q=some z):DE P o a μ w s s z:=by
 have h1:=B_ F B;have h2:=B_ F C;generalize hu:a.eval x=u at h1;generalize g:a.eval y=v at h2;unfold Apx at d;split at d
 ·cases h1;cases h2;obtain⟨c,hb,hc⟩:=bind_some d;obtain⟨r,E,hr⟩:=iQ (P:=P) (w:=w) (t:=t) (Y:=fun _=>False) (X:=fun _=>False) hb;exact Bi H (v:=r) (by simp[execOp,f,hu,g,Ld,E]) (zV hr hc)
 ·rename_i i j;cases h1;cases h2;obtain⟨h0,d⟩:=A9 d;have G:P.underlying t=some .bool:=by
   unfold Nh at h0;split at h0
   ·assumption
   ·cases h0
  exact R2 H f d hu g (HA ..) (run_equalIn_bool' w 9999 t i j G) (by rintro l (rfl | rfl) <;> rfl)
 next xs J=>obtain⟨asx,A,d⟩:=bind_some d;obtain⟨bs,I,d⟩:=bind_some d;obtain⟨h0,d⟩:=A9 d;obtain⟨r,hr,d⟩:=bind_some d;have r1:Rd (fun _=>False) (fun _=>False) w u (.agg asx):=fR h1 (by simp[avH,A]);have r2:Rd (fun _=>False) (fun _=>False) w v (.agg bs):=fR h2 (by simp[avH,I]);obtain⟨us,vs,rfl,rfl,heq,k⟩:=xB h0 r1 r2 (Po A).1 hr x y;exact R2 H f d hu g (k op) heq (by rintro l (rfl | rfl) <;> rfl)
 ·obtain⟨h0,d⟩:=A9 d;obtain⟨e,m⟩:=D3 h0;cases h1;cases h2;exact R2 H f d hu g (by cases op <;> rfl) (run_equal_slice_nil w t e _ _ _ m) (by rintro l (rfl | rfl) <;> rfl)
 ·obtain⟨h0,d⟩:=A9 d;obtain⟨e,m⟩:=D3 h0;cases h1;cases h2;exact R2 H f d hu g (by cases op <;> rfl) (run_equal_slice_nil w t e _ _ _ m) (by rintro l (rfl | rfl) <;> rfl)
 ·rename_i i j;obtain⟨c,hc,d⟩:=bind_some d;cases h1;cases h2;have k:(eqGuard op t x y (.string i) (.string j)).run P w = .ok () w:=by cases op <;> rfl
  cases op <;> simp only[Zh] at hc <;> first | (cases hc;done) | skip
  ·split at hc
   ·rename_i K;cases hc;cases d;have hn:¬ (((i.size+j.size:Nat):Int)>IntKind.max D):=by
     have:IntKind.max D=9223372036854775807:=by decide
     omega
    exact Bi H (v := .string (i++j)) (by simp only[execOp,f,hu,g,Am,k,Aa,binOp,LJ,hn,if_false,Ap]) (.c _ ⟨rfl,rfl⟩)
   ·cases hc
  ·cases hc;cases d;exact Bi H (v := .bool (i.toList==j.toList)) (by simp only[execOp,f,hu,g,Am,k,Aa,binOp,LJ,Ap]) (.b _)
  ·cases hc;cases d;exact Bi H (v := .bool (!(i.toList==j.toList))) (by simp only[execOp,f,hu,g,Am,k,Aa,binOp,LJ,Ap]) (.b _)
 ·cases d
def unH(op:UnOp)(p:HV):Option HV:=bO (avH p) fun y=>bO (unA op y) hvA
theorem Afj(H:HR μ s.h w)(F:FR μ n ρ a.tmps){op:UnOp}{t:TypeId}{x:Operand}{p z:HV}(d:o.op = .unOp op t x)(e:CU ρ x=some p)(b:unH op p=some z):DE P o a μ w s s z:=by
 obtain⟨y,f,b⟩:=bind_some b;obtain⟨c,hc,b⟩:=bind_some b;obtain⟨v,g,hr⟩:=xC (P:=P) (w:=w) (fR (Y:=fun _=>False) (X:=fun _=>False) (B_ F e) f) hc;exact Bi H (v:=v) (by simp[execOp,d,g]) (zV hr b)
def cvH(P:Program)(a dst:TypeId):HV->Option HV
 | .i _ n=>match P.underlying dst with
  | some (.int k)=>BV (Qw P a) (some (.i k (k.wrap n)))
  | _=>none
 | _=>none
theorem XX(H:HR μ s.h w)(F:FR μ n ρ a.tmps){c dst:TypeId}{x:Operand}{p z:HV}(d:o.op = .convert c dst x)(e:CU ρ x=some p)(b:cvH P c dst p=some z) :
  DE P o a μ w s s z:=by
 have h1:=B_ F e;generalize f:a.eval x=v at h1;unfold cvH at b;split at b
 ·cases h1;split at b
  ·rename_i k hd;obtain⟨hs,b⟩:=A9 b;cases b;unfold Qw at hs;split at hs
   next ks g=>exact Bi H (v := .int k (k.wrap _)) (by simp[execOp,d,f,convert,run_underlying g,run_underlying hd,Conv.intToInt]) (.i _ _)
   ·cases hs
  ·cases b
 ·cases b
theorem TU(H:HR μ s.h w)(F:FR μ n ρ a.tmps){f:FuncId}{xs b:Array Operand}{fs cs:List HV}(c:o.op = .makeFunc (.func f) xs b)(d:PG ρ xs.toList=some fs)(e:PG ρ b.toList=some cs):DE P o a μ w s s (.f f fs cs):=by
 obtain⟨g,i⟩:=Pj F d;obtain⟨j,k⟩:=Pj F e;exact Bi H (v := .func (.func f) (xs.map a.eval) (b.map a.eval)) (by simp[execOp,c,Instr.makeFunc]) (.f f fs cs _ _ g j i k)
theorem XY(H:HR μ s.h w){t:TypeId}(b:o.op = .makeMap t none)(c:μ s.nx=none):DE P o a μ w s (FT s (.m [])) (.m s.nx):=by
 obtain⟨h1,h2⟩:=KT H c (x := .map #[] 0) 0 (o := .m []) fun μ' w' _ d=>⟨#[],0,d,rfl,fun j h1=>(by simp at h1)⟩;exact⟨_,_,_,.inl (by simp[execOp,b,Instr.makeMap]),h1,h2,.m (r:=(w.heap.size,0)) (by simp[Di])⟩
def Apy(P:Program)(t:TypeId)(x:HV):Option ByteArray:=match P.underlying t,x with | some .string,.c (.string str)=>some str | _,_=>none
theorem fS(H:HR μ s.h w)(F:FR μ n ρ a.tmps){t:TypeId}{x:Operand}{p:HV}{str:ByteArray}(b:o.op = .range t x)(c:CU ρ x=some p)(hs:Apy P t p=some str)(d:μ s.nx=none):DE P o a μ w s (FT s (.it str 0)) (.p s.nx 0):=by
 have h1:=B_ F c;generalize e:a.eval x=v at h1;unfold Apy at hs;split at hs
 next hu=>cases hs;cases h1;obtain⟨f,g⟩:=KT H d (x := .stringIter str 0) 0 (o := .it str 0) fun μ' w' _ i=>i;exact⟨_,_,_,.inl (by simp[execOp,b,e,Instr.range,run_underlying hu]),f,g,.p (r:=(w.heap.size,0)) (by simp[Di])⟩
 ·cases hs
def fT(str:ByteArray)(pos b:Nat)(s:HS):Option (HV × HS) :=
 Dh (Jd pos str.size) (some (.t [.b true,.i .i64 (pos:Int),.i .i32 ((SB str pos).1:Int)],⟨s.h.set b (some (.it str (pos+(SB str pos).2))),s.nx,b::s.lg⟩)) (some (.t [.b false],s))
theorem pH(H:HR μ s.h w)(F:FR μ n ρ a.tmps){x:Operand}{b pos:Nat}{str:ByteArray}{z:HV}{s':HS}(f:o.op = .next x true)(k:CU ρ x=some (.p b 0))(hb:s.h.get b=some (.it str pos))(h:fT str pos b s=some (z,s')):DE P o a μ w s s' z:=by
 have h1:=B_ F k;generalize g:a.eval x=v at h1;cases h1 with
 | p c =>
  rename_i q;have d:w.heap[q.1]? = some (.stringIter str pos):=H.at hb c;have l:=(A8.1 d).1;unfold fT at h;cases hc:Jd pos str.size
  ·rw[hc] at h;cases h;have hn:¬ pos<str.size:=fun e=>by rw[<- Jx] at e;rw[e] at hc;cases hc
   refine Bi H (v := .tuple #[.bool false]) ?_ (.t _ _ rfl fun j h1 h2 => ?_)
   ·simp[execOp,f,g,Azv,getObj,Cn,d,hn]
   ·have:j=0:=by simpa using h1
    subst this;exact .b false
  ·rw[hc] at h;cases h;have hn:pos<str.size:=by rwa [Jx] at hc
   refine⟨.tuple #[.bool true,goInt pos,.int .i32 ((SB str pos).1:Int)],μ,w.putObj q.1 (.stringIter str (pos+(SB str pos).2)),.inl ?_,H.turn hb c (by simp) (fun b hb=>DO hb) (Arq l),Step.turn hb c rfl rfl rfl (by simp) (fun b hb=>DO hb),.t _ _ rfl fun j h1 h2 => ?_⟩
   ·simp[execOp,f,g,Azv,getObj,setObj,Cn,d,hn,World.putObj]
   ·match j,h1 with
    | 0,_=>exact .b true
    | 1,_=>exact .i .i64 _
    | 2,_=>exact .i .i32 _
def Kb(cs:List HV)(off m:Nat):Option (List HV):=pB m off cs
theorem pI{cs a:List HV}{off m:Nat}(h:Kb cs off m=some a):off+m<=C cs/\(cs.drop off).take m=a:=by
 unfold Kb at h;rw[Rx] at h;split at h
 ·exact⟨by assumption,AM h⟩
 ·cases h
theorem vV{cs:List HV}{m:Nat}(h:C cs=m):Kb cs 0 m=some cs:=by
 unfold Kb;rw[Rx,Af (by omega),DF,Ej (by omega)]
theorem R4(H:HR μ s.h w){b off m:Nat}{q:Nat × Nat}{cs d:List HV}(hb:s.h.get b=some (.c cs))(g:μ b=some q)(i:Kb cs off m=some d) :
  ∃ e:List Value,C e=m/\C d=m/\(∀ j u,e[j]? = some u->w.cell? ((⟨q.1,off,none⟩:Addr).add j)=some u)/\IM μ d e.toArray:=by
 obtain⟨o,rfl⟩:=pI i;have k:=H.cell hb g;have hd:=H.ones hb;let f:Nat->Value:=fun j=>(w.cell? ⟨q.1,off+j,none⟩).getD A0
 have hf:∀ j,j<m->w.cell? ⟨q.1,off+j,none⟩=some (f j)/\∀ h:off+j<C cs,VR μ cs[off+j] (f j):=by
  intro j a;obtain⟨v,hc,l⟩:=k (off+j) (by omega);refine⟨by simp[f,hc],fun _ => ?_⟩;have:f j=v:=by simp[f,hc]
  rw[this];exact l
 refine⟨(A' m).map f,by simp,by simp;omega,fun j u hu => ?_,fun x n=>hd x (C1 (B8 n)),by simp;omega,fun j h1 h2 => ?_⟩
 ·have a:j<m:=by
   have:=(AZ.1 hu).1;simpa using this
  rw[Dk,(hf j a).1];simp[a] at hu;rw[hu]
 ·have a:j<m:=by simpa using h2
  simpa using (hf j a).2 (by omega)
def Apz(P:Program)(s:HS)(a dst:TypeId)(p:HV):Option HV :=
 match p with
 | .s b off len _=>BV (Au len 1) <| match P.underlying a,P.underlying dst with
  | some (.slice e),some .string=>match P.underlying e with
   | some (.int .u8)=>XQ (s.h.get b) fun cs=>bO (Kb cs off 1) fun d=>match d with
    | [.i .u8 n]=>some (.c (.string (AP.push (Axq n.toNat))))
    | _=>none
   | _=>none
  | _,_=>none
 | p=>cvH P a dst p
theorem TV(H:HR μ s.h w)(F:FR μ n ρ a.tmps){f dst:TypeId}{x:Operand}{p z:HV}(g:o.op = .convert f dst x)(i:CU ρ x=some p)(d:Apz P s f dst p=some z) :
  DE P o a μ w s s z:=by
 unfold Apz at d;split at d
 ·rename_i b off len cap;have h1:=B_ F i;generalize k:a.eval x=v at h1;obtain⟨hl,d⟩:=A9 d;have hl:=Aj hl;subst hl;split at d
  ·rename_i e hs hd;split at d
   ·rename_i l;obtain⟨cs,hb,d⟩:=DH d;obtain⟨C,m,d⟩:=bind_some d;split at d
    ·rename_i j;cases d;cases h1 with
     | s r D hc =>
      rename_i c q;obtain⟨t,y,E,A,B⟩:=R4 H hb r m;match t,y with
      | [u],_ =>
       have hu:=B.2.2 0 (by simp) (by simp);simp only[Bk,DV] at hu;cases hu;have hr:=run_loadCells_list (P:=P) (w:=w) ⟨q.1,off,none⟩ [.int .u8 j] A;simp only[BF,Ev,AJ] at hr;refine Bi H (v := .string (AP.push (Axq j.toNat))) ?_ (.c _ ⟨rfl,rfl⟩);simp[execOp,g,k,convert,run_underlying hs,run_underlying hd,run_underlying l,Conv.bytesToString,hr]
    ·cases d
   ·cases d
  ·cases d
 ·exact XX H F g i d
theorem T6{xs a:List HV}{us vs:List Value}(h1:IM μ xs us.toArray)(h2:IM μ a vs.toArray):IM μ (xs++a) (us++vs).toArray:=by
 have b:C us=C xs:=by simpa using h1.2.1
 have d:C vs=C a:=by simpa using h2.2.1
 refine⟨fun x e=>(AF.1 e).elim (h1.1 x) (h2.1 x),by simp[b,d],fun j f h => ?_⟩;simp only[DV];by_cases c:j<C xs
 ·rw[CD c,CD (by omega)];exact h1.2.2 j c (by simpa using (by omega:j<C us))
 ·have g:j-C xs<C a:=by simp at f;omega
  rw[C3 (by omega),C3 (by omega)];have:=h2.2.2 (j-C xs) g (by simpa using (by omega:j-C xs<C vs));simpa [b] using this
def fU(P:Program)(t t':TypeId):Option (Nat × Nat):=bO (Zc P t) fun q=>BV (Eo P t'&&CM 1 q.2.1) <| bO (fK P q.1) fun z=>BV (Au (C z) q.2.1) (some q.2)
theorem aA{t t':TypeId}{k b:Nat}(h:fU P t t'=some (k,b)):∃ e a i z,P.underlying t=some (.slice e)/\P.underlying t'=some (.slice a)/\P.info? e=some i/\i.zero=some z/\i.size=k/\i.bytes=b/\z.cells.size=k/\0<k:=by
 unfold fU at h;obtain⟨⟨e,q,b'⟩,f,h⟩:=bind_some h;obtain⟨h1,h⟩:=A9 h;obtain⟨z,g,h⟩:=bind_some h;obtain⟨h2,h⟩:=A9 h;cases h;simp only[U,IA] at h1;obtain⟨i,j,c,l,m⟩:=Jv f;obtain⟨a,n⟩:=D3 h1.1;obtain⟨r,v,d,o,_,p⟩:=Pm g;rw[c] at d;cases d;exact⟨e,a,i,v,j,n,c,o,l,m,by rw[(p fun _=>none).2.1];exact Aj h2,h1.2⟩
def XZ(b n:Nat):Bool:=CM (n*b) 140737488355328&&CM n 140737488355328
def Mv(s:HS)(a:Nat)(cs:List HV):HS:=⟨(s.h.set a none).set s.nx (some (.c cs)),Ki s.nx,a::s.lg⟩
def apH(k b:Nat)(s:HS)(x:HV)(m:Nat)(e:List HV):RH :=
 match x with
 | .sn=>BV (XZ b m) (some (.s s.nx 0 m (.d k),FT s (.c e)))
 | .s a off n (.k c)=>XQ (s.h.get a) fun cs=>Dh (CM (n+m) c)
   (bO (XP e (off+n*k) cs) fun f=>some (.s a off (n+m) (.k c),H2 s a (.c f)))
   (BV (XZ b (n+m)) <| bO (Kb cs off (n*k)) fun xs=>some (.s s.nx 0 (n+m) (.d k),FT s (.c (xs++e))))
 | .s a off n (.d sz)=>XQ (s.h.get a) fun cs=>BV (Au sz k&&Au off 0&&Au (pA cs) (n*k)&&XZ b (n+m)) (some (.s s.nx 0 (n+m) (.d k),Mv s a (cs++e)))
 | _=>none
def SC(s:HS)(x:HV):RH:=match x with | .sn=>some (x,s) | .s _ _ _ _=>some (x,s) | _=>none
def X_(P:Program)(s:HS)(t t':TypeId)(x y:HV):RH :=
 bO (fU P t t') fun q=>match y with
  | .sn=>(SC s x)
  | .s b off m _=>Dh (Au m 0) (SC s x) (XQ (s.h.get b) fun cs=>bO (Kb cs off (m*q.1)) fun a=>apH q.1 q.2 s x m a)
  | _=>none
end
end
noncomputable section
section
variable {P:Program} {μ:Mu} {w:World} {s:HS}
theorem HR.drew(H:HR μ s.h w):HR μ s.h w.drew:=⟨fun a o h=>let ⟨r,h1,h2⟩:=H.obj a o h; ⟨r,h1,h2.same (fun _ _ h=>h) rfl⟩,H.inj,H.lt⟩
theorem Step.drew{μ':Mu}{s':HS}{w':World}(h:Step μ s w.drew μ' s' w'):Step μ s w μ' s' w':=⟨h.le,h.os,h.tape,h.out,h.size,h.new,h.frame,h.stay⟩
def Res(P:Program)(m:Sem Value)(μ:Mu)(w:World)(s s':HS)(z:HV):Prop:=∃ v μ' w',m.run P w = .ok v w'/\HR μ' s'.h w'/\Step μ s w μ' s' w'/\VR μ' z v
theorem MJ{t t' f e g:TypeId}{i:TypeInfo}(h:P.underlying t=some (.slice e))(hi:P.info? e=some i)(j:P.underlying t'=some (.slice g)){d:Option Addr}{n c:Nat}(hn:n<=c){b:Option Addr}{c2:Nat} :
  (AT #[t,t'] f #[.slice d n c,.slice b 0 c2]).run P w = .ok (.slice d n c) w:=by
 rw[Da h hi j];have hf:(Ea i.size 0 (.slice b 0 c2)).run P w = .ok #[] w:=by
  cases b with
  | none=>simp[Ea]
  | some b=>simp[Ea,loadCells,loadCellsFrom]
 cases d with
 | none=>simp[AT,run_underlying h,sizeOf,typeInfo,hi,DS,hn,hf]
 | some a=>simp[AT,run_underlying h,sizeOf,typeInfo,hi,DS,hn,hf,storeCells]
theorem Ya{t t' ty e d:TypeId}{i:TypeInfo}(h:P.underlying t=some (.slice e))(hi:P.info? e=some i)(f:P.underlying t'=some (.slice d)){r off n c m c2:Nat}{b:Addr}{a:List Value}(hl:C a=m*i.size)
  (g:∀ j u,a[j]? = some u->w.cell? (b.add j)=some u) (k:n+m<=c) {w':World} (l:(storeCells ⟨r,off+n*i.size,none⟩ a 0).run P w = .ok () w') :
  (AT #[t,t'] ty #[.slice (some ⟨r,off,none⟩) n c,.slice (some b) m c2]).run P w = .ok (.slice (some ⟨r,off,none⟩) (n+m) c) w':=by
 rw[Da h hi f];have o:=run_firstCells_some (P:=P) w i.size m b m c2 a hl g;simp[AT,run_underlying h,sizeOf,typeInfo,hi,DS,k,o,Addr.add_lit,l]
theorem Qt.move(s:HS){a:Nat}{o:HO}(c:s.h.get a=some o)(cs:List HV):Qt s (Mv s a cs) where
 nx:=Abr _
 lg b hb:=AI _ hb
 dom b x hb:=by
  simp only[Mv,Cf] at hb |-;split at hb
  next e=>subst e;exact .inr ⟨Ar _,EQ _⟩
  ·split at hb
   ·cases hb
   ·exact .inl ⟨_,hb⟩
 keep b hb hn:=by
  simp only[Mv,Cf] at hn |-;rw[Ak fun e=>hn ⟨U0 e.symm,by omega⟩,Ak fun e=>hb (by rw[e];exact A1)]
 lgd b hb:=by
  rcases Aw.1 hb with rfl | hb
  ·exact .inr (.inl ⟨_,c⟩)
  ·exact .inl hb
theorem zW(H:HR μ s.h w)(t:μ s.nx=none){a:Nat}{q q':Nat × Nat}{cs cs':List HV}(k:s.h.get a=some (.c cs))(g:μ a=some q){w':World}(y:w'.os=w.os)(z:w'.tape=w.tape)(A:w'.output=w.output)
  (B:w.heap.size<=w'.heap.size) (C:q'.1<w'.heap.size) (l:q'=q\/w.heap.size<=q'.1) (u:∀ r,r ≠ q'.1->r<w.heap.size->w'.heap[r]? = w.heap[r]?) (ho:∀ μ',(∀ b r,μ b=some r->μ' b=some r)->OR μ' w' q' (.c cs')) :
  HR (Di μ s.nx q') (Mv s a cs').h w'/\Step μ s w (Di μ s.nx q') (Mv s a cs') w':=by
 have i:=ZU (μ:=μ) (r:=q') t;have G:a ≠ s.nx:=fun e=>by rw[e,t] at g;cases g
 have m:∀ b x p,b ≠ a->s.h.get b=some x->μ b=some p->p.1 ≠ q'.1:=by
  intro b x p hb D v e;rcases l with h | h
  ·rw[h] at e;exact hb (H.inj _ _ _ _ _ _ D k v g e)
  ·have:=H.lt _ _ v;omega
 refine⟨⟨fun b x hb => ?_,fun b b' x E p F hb d h1 h2 n => ?_,fun b p hb => ?_⟩,⟨i,y,z,A,B,fun b p hb => ?_,fun r hr hn => ?_,fun b hb => ?_⟩⟩
 ·simp only[Mv,Cf] at hb;split at hb
  next e=>subst e;cases hb;exact⟨q',by simp[Di],ho _ i⟩
  ·split at hb
   ·cases hb
   next j f=>obtain⟨p,h1,h2⟩:=H.obj b x hb;exact⟨p,i _ _ h1,h2.same i (u _ (m b x p f hb h1) h2.lt)⟩
 ·simp only[Mv,Cf] at hb d;unfold Di at h1 h2;split at h1
  ·rename_i j;split at h2
   next f=>rw[j,f]
   ·rename_i f;cases h1;rw[Ak f] at d;split at d
    ·cases d
    next o=>exact absurd n.symm (m b' E F o d h2)
  ·rename_i j;rw[Ak j] at hb;split at hb
   ·cases hb
   ·rename_i o;split at h2
    ·cases h2;exact absurd n (m b x p o hb h1)
    ·rename_i f;rw[Ak f] at d;split at d
     ·cases d
     ·exact H.inj _ _ _ _ _ _ hb d h1 h2 n
 ·unfold Di at hb;split at hb
  ·cases hb;exact C
  ·have:=H.lt _ _ hb;omega
 ·unfold Di at hb;split at hb
  ·cases hb;rcases l with h | h
   ·rw[h];exact .inr (.inl ⟨a,_,k,g⟩)
   ·exact .inr (.inr h)
  ·exact .inl hb
 ·refine u r (fun e => ?_) hr;rcases l with h | h
  ·exact hn a _ q k g (by rw[e,h])
  ·omega
 ·unfold Di;rw[Ak fun e=>hb ⟨U0 e.symm,by simp[Mv];omega⟩]
theorem Qc{cs:List HV}{A B:Array Value}(h:IM μ cs A):CR μ cs (A++B):=by
 have hl:=h.2.1;refine⟨h.1,fun j a=>⟨A[j]'(by omega),?_,h.2.2 j a (by omega)⟩⟩;rw[RI (by omega),A4]
theorem Azw(H:HR μ s.h w){t t' ty e e':TypeId}{i:TypeInfo}{z:Value}(h1:P.underlying t=some (.slice e))(h2:P.underlying t'=some (.slice e'))(y:P.info? e=some i)(W:i.zero=some z)(X:z.cells.size=i.size)
  {x:HV} {xv:Value} (J:VR μ x xv) {K:Nat × Nat} {L m c2:Nat} {a3 E:List HV} {bb:Nat} (hb:s.h.get bb=some (.c a3)) (a8:μ bb=some K) (a9:Kb a3 L (m*i.size)=some E) (hm:m ≠ 0) {r:HV} {s':HS} (Y:D1 μ s.nx s'.nx)
  (b:apH i.size i.bytes s x m E=some (r,s')):Res P (AT #[t,t'] ty #[xv,.slice (some ⟨K.1,L,none⟩) m c2]) μ w s s' r:=by
 obtain⟨d,A,n2,M,F⟩:=R4 H hb a8 a9;have fits:∀ k,XZ i.bytes k=true->k*i.bytes<=140737488355328/\(k:Int)<=9223372036854775807:=by
  intro k hk;simp only[XZ,U,IA] at hk;exact⟨hk.1,by omega⟩
 unfold apH at b;split at b
 ·-- nil
  obtain⟨hf,b⟩:=A9 b;cases b;have I:=Y s.nx (Ar _) (EQ _);cases J;obtain⟨V,N⟩:=fits _ hf;have hr:=run_append_nil (P:=P) w t ty e i z h1 y W ⟨K.1,L,none⟩ m c2 d A M (by omega) N (by omega);rw[<- Da h1 y h2] at hr;obtain⟨l,p⟩:=KT H.drew I (x := .cells (d.toArray++F6 z.cells (grownCap w m 0 e-m)) e) (grownCap w m 0 e*i.size) (o := .c E) fun μ' w' B Z=>⟨_,e,Z,by
   have:=grownCap_ge w m 0 e;simp only[Qm,Cr,size_zeroCells,A,X,<- Ek];congr 1;omega,by
   exact Qc (F.mono B)⟩
  refine⟨_,_,_,hr,l,p.drew,.s (r:=(w.heap.size,grownCap w m 0 e*i.size)) (by simp[Di]) (grownCap_ge w m 0 e) ?_⟩;simp[J_]
 ·rename_i a off n c;obtain⟨cs,G,b⟩:=DH b;cases J with
  | s D b0 hc =>
   rename_i c' q;simp only[J_] at hc;subst hc;cases g:CM (n+m) c
   ·rw[g] at b;obtain⟨hf,b⟩:=A9 b;obtain⟨xs,b1,b⟩:=bind_some b;cases b;have I:=Y s.nx (Ar _) (EQ _);obtain⟨f,o1,o2,o3,o4⟩:=R4 H G D b1;obtain⟨V,N⟩:=fits _ hf;have O:c<n+m:=by
     apply iC;intro hh;have:CM (n+m) c=true:=by rw[IA];omega
     rw[this] at g;cases g
    have hr:=run_append_grow (P:=P) w t ty e i z h1 y W ⟨q.1,off,none⟩ n c f o1 o3 ⟨K.1,L,none⟩ m c2 d A M O N (growslice_fits O V);rw[<- Da h1 y h2] at hr;have a1:=grownCap_ge w (n+m) c e;obtain⟨l,p⟩:=KT H.drew I (x := .cells (f.toArray++d.toArray++F6 z.cells (grownCap w (n+m) c e-(n+m))) e) (grownCap w (n+m) c e*i.size) (o := .c (xs++E)) fun μ' w' B Z=>⟨_,e,Z,by
     simp only[Qm,Cr,size_zeroCells,A,o1,X,<- Ek];congr 1;omega,by
     have e1:f.toArray++d.toArray=(f++d).toArray:=by simp
     rw[e1];exact Qc ((T6 o4 F).mono B)⟩
    refine⟨_,_,_,hr,l,p.drew,.s (r:=(w.heap.size,grownCap w (n+m) c e*i.size)) (by simp[Di]) a1 ?_⟩;simp[J_]
   ·rw[g] at b;rw[IA] at g;obtain⟨cs',hl,b⟩:=bind_some b;rw[O2] at hl;cases b;obtain⟨w',st,l,p⟩:=vP (P:=P) H G D F hl;exact⟨_,μ,w',Ya h1 y h2 A M g st,l,p,.s D g rfl⟩
 ·rename_i a off n sz;obtain⟨cs,G,b⟩:=DH b;obtain⟨a4,b⟩:=A9 b;cases b;have I:=Y s.nx (Ar _) (EQ _);simp only[U] at a4;obtain⟨⟨⟨k1,k2⟩,Q⟩,hf⟩:=a4;have k1:=Aj k1;have k2:=Aj k2;have Q:=Aj Q;rw[Rv] at Q;subst k1 k2;obtain⟨V,N⟩:=fits _ hf;cases J with
  | s D b0 hc =>
   rename_i c q;simp only[J_,AJ] at hc;have b2:Kb cs 0 (n*i.size)=some cs:=vV Q;obtain⟨f,o1,o2,o3,o4⟩:=R4 H G D b2;by_cases g:n+m<=c
   ·-- there is room
    obtain⟨vs,T,a2,b8,a5⟩:=H.at G D;have b3:(n+m)*i.size<=c*i.size:=Hf _ g;rw[Ek] at b3;have a6:=run_storeCells_at (P:=P) q.1 (n*i.size) T d 0 vs w a2 (by omega) (fun v S=>F.oneCell v (by simpa using S));simp only[Bn] at a6;have hr:=Ya (ty:=ty) (off:=0) (c2:=c2) h1 y h2 A M g (by rw[AJ];exact a6);have b4:=setRow_heap w q.1 vs (CV (n*i.size) vs.toList++d++R (n*i.size+C d) vs.toList).toArray T (0,0) a2;have b5:=(A8.1 a2).1;obtain⟨l,p⟩:=zW (q':=q) (cs':=cs++E) H I G D (w':=w.setRow q.1 (CV (n*i.size) vs.toList++d++R (n*i.size+C d) vs.toList).toArray) rfl rfl rfl (by rw[DX];exact Ar _) (by rw[DX];exact b5) (.inl rfl) (fun r hr _=>Dy _ _ _ _ hr) fun μ' B=>⟨_,T,b4,by
      simp only[Cr,Ac,EE,ET,Bt];omega,by
      refine⟨fun x J=>(AF.1 J).elim (a5.1 x) (F.1 x),fun j hj => ?_⟩;simp only[Cq];have ht:C (vs.toList.take (n*i.size))=n*i.size:=by simp;omega
      by_cases a7:j<C cs
      ·obtain⟨u,hu,S⟩:=a5.2 j a7;refine⟨u,?_,by rw[CD a7];exact S.mono B⟩;rw[EU,AA (by omega),BO (by omega)];simpa using hu
      ·have b6:j-C cs<C E:=by simp at hj;omega
       obtain⟨u,hu,S⟩:=F.cr.2 _ b6;refine⟨u,?_,by rw[C3 (by omega)];exact S.mono B⟩;rw[AA (by simp only[Ac];omega),AO (by omega),ht,<- Q];simpa using hu⟩
    exact⟨_,_,_,hr,l,p,.s (r:=q) (by simp[Di]) g (by simpa [J_] using hc)⟩
   ·have O:c<n+m:=by omega
    have hr:=run_append_grow (P:=P) w t ty e i z h1 y W ⟨q.1,0,none⟩ n c f o1 o3 ⟨K.1,L,none⟩ m c2 d A M O N (growslice_fits O V);rw[<- Da h1 y h2] at hr;have a1:=grownCap_ge w (n+m) c e;have b7:(w.drew.alloc (.cells (f.toArray++d.toArray++F6 z.cells (grownCap w (n+m) c e-(n+m))) e)).heap[w.heap.size]? = some (.cells (f.toArray++d.toArray++F6 z.cells (grownCap w (n+m) c e-(n+m))) e):=by
     show (w.heap.push _)[w.heap.size]? = _;simp
    have b9:(w.drew.alloc (.cells (f.toArray++d.toArray++F6 z.cells (grownCap w (n+m) c e-(n+m))) e)).heap.size=w.heap.size+1:=by show (w.heap.push _).size=_;simp
    obtain⟨l,p⟩:=zW (q':=(w.heap.size,grownCap w (n+m) c e*i.size)) (cs':=cs++E) H I G D (w':=w.drew.alloc (.cells (f.toArray++d.toArray++F6 z.cells (grownCap w (n+m) c e-(n+m))) e)) rfl rfl rfl (by omega) (by simp only;omega) (.inr (Ar _)) (fun r _ hr=>F7 w.drew _ r hr) fun μ' B=>⟨_,e,b7,by
      simp only[Qm,Cr,size_zeroCells,A,o1,X,<- Ek];congr 1;omega,by
      have e1:f.toArray++d.toArray=(f++d).toArray:=by simp
      rw[e1];exact Qc ((T6 o4 F).mono B)⟩
    exact⟨_,_,_,hr,l,p,.s (r:=(w.heap.size,grownCap w (n+m) c e*i.size)) (by simp[Di]) a1 (by simp[J_])⟩
 ·cases b
theorem Azx{k b m:Nat}{x r:HV}{e:List HV}{s':HS}(h:apH k b s x m e=some (r,s')):Qt s s':=by
 unfold apH at h;split at h
 ·obtain⟨_,h⟩:=A9 h;cases h;exact Qt.new _ _
 ·obtain⟨cs,d,h⟩:=DH h;rename_i a off n c _;cases hc:CM (n+m) c <;> rw[hc] at h
  ·obtain⟨_,h⟩:=A9 h;obtain⟨xs,_,h⟩:=bind_some h;cases h;exact Qt.new _ _
  ·obtain⟨f,_,h⟩:=bind_some h;cases h;exact Qt.turn d
 ·obtain⟨cs,d,h⟩:=DH h;obtain⟨_,h⟩:=A9 h;cases h;exact Qt.move s d _
 ·cases h
theorem vW(H:HR μ s.h w){t t' n:TypeId}{x y r:HV}{d c:Value}(f:VR μ x d)(o:VR μ y c){s':HS}(hf:D1 μ s.nx s'.nx)(h:X_ P s t t' x y=some (r,s')) :
  Res P (AT #[t,t'] n #[d,c]) μ w s s' r:=by
 obtain⟨⟨k,b⟩,u,h⟩:=bind_some h;obtain⟨e,C,i,z,h1,h2,g,v,rfl,rfl,A,_⟩:=aA u;have p:∀ {q:Option Addr} {c2:Nat},c = .slice q 0 c2->SC s x=some (r,s')->Res P (AT #[t,t'] n #[d,c]) μ w s s' r:=by
  rintro q c2 rfl h;cases x <;> simp only[SC,Ab,BP,reduceCtorEq] at h
  ·obtain⟨rfl,rfl⟩:=h;cases f;exact⟨_,μ,w,MJ h1 g h2 (Ar _),H,Step.refl _ _ _,.sn⟩
  ·obtain⟨rfl,rfl⟩:=h;cases f with
   | s j l hc=>exact⟨_,μ,w,MJ h1 g h2 l,H,Step.refl _ _ _,.s j l hc⟩
 split at h
 ·cases o;exact p rfl h
 ·rename_i b off m cap _;cases o with
  | s j l hc =>
   cases a:Au m 0
   ·rw[a] at h;obtain⟨cs,hb,h⟩:=DH h;obtain⟨D,B,h⟩:=bind_some h;exact Azw H h1 h2 g v A f hb j B (fun e=>by rw[e] at a;cases a) hf h
   ·rw[a] at h;have:=Aj a;subst this;exact p rfl h
 ·cases h
theorem vX{t t':TypeId}{x y r:HV}{s':HS}(h:X_ P s t t' x y=some (r,s')):Qt s s':=by
 obtain⟨⟨k,b⟩,d,h⟩:=bind_some h;have a:SC s x=some (r,s')->Qt s s':=by
  intro h;cases x <;> simp only[SC,Ab,BP,reduceCtorEq] at h <;> exact h.2 ▸ Qt.refl _
 split at h
 ·exact a h
 ·rename_i b off m cap _;cases c:Au m 0 <;> rw[c] at h
  ·obtain⟨cs,hb,h⟩:=DH h;obtain⟨e,f,h⟩:=bind_some h;exact Azx h
  ·exact a h
 ·cases h
end
end
noncomputable section
def HY(ρ:En)(d:Nat):Option Operand->Option Nat
 | none=>some d
 | some x=>bO (CU ρ x) fun v=>asN v some
def fV(P:Program)(ρ:En)(t:TypeId)(x:HV)(lo hi mx:Option Operand):Option HV :=
 match x with
 | .sn=>bO (Zc P t) fun _=>bO (HY ρ 0 lo) fun l=>bO (HY ρ 0 hi) fun h=>bO (HY ρ 0 mx) fun m=>BV (Au l 0&&Au h 0&&Au m 0&&(mx.isNone || hi.isSome)) (some .sn)
 | .s a off n (.k c)=>bO (Zc P t) fun q=>bO (HY ρ c mx) fun m=>bO (HY ρ n hi) fun h=>bO (HY ρ 0 lo) fun l =>
   BV (CM l h&&CM h m&&CM m c&&(mx.isNone || hi.isSome)) (some (.s a (Dh (Au m l) off (off+l*q.2.1)) (h-l) (.k (m-l))))
 | .s a off n (.d sz)=>bO (Zc P t) fun q=>bO (HY ρ n mx) fun m=>bO (HY ρ n hi) fun h=>bO (HY ρ 0 lo) fun l=>Dh mx.isNone
   (BV (CM l h&&CM h n&&mx.isNone&&Au sz q.2.1&&(Au l 0 || Jd l n)) (some (.s a (off+l*q.2.1) (h-l) (.d sz))))
   (BV (CM l h&&CM h m&&CM m n&&hi.isSome) (some (.s a (Dh (Au m l) off (off+l*q.2.1)) (h-l) (.k (m-l)))))
 | _=>none
section
variable {P:Program} {o:Oper} {a:Act} {μ:Mu} {w:World} {s:HS} {n:Nat} {ρ:En}
theorem Hd(F:FR μ n ρ a.tmps){d m y:Nat}{x:Option Operand}{code:BoundsCode}(h:HY ρ d x=some m)(g:m<=y):(x=none->m=d)/\∀ b,x=some b->(Yy (a.eval b) y code).run P w = .ok m w:=by
 cases x with
 | none=>simp only[HY,Ab] at h;exact⟨fun _=>h.symm,fun _ e=>(by cases e)⟩
 | some x =>
  refine⟨fun e=>(by cases e),fun b e => ?_⟩;cases e;simp only[HY] at h;obtain⟨v,c,h⟩:=bind_some h;obtain⟨q,i,f,h⟩:=GE h;cases h;subst f;have h1:=B_ F c;generalize a.eval x=u at h1;cases h1;have:(0:Int)<=(m:Int)/\(m:Int)<=(y:Int):=by omega
  simp[Yy,asIntOf,this]
theorem FD(F:FR μ n ρ a.tmps){len cap l h m dc e:Nat}{lo hi mx:Option Operand}(c:HY ρ dc mx=some m)(b:HY ρ e hi=some h)(hl:HY ρ 0 lo=some l)(h1:l<=h)(h2:h<=m)(d:m<=cap)
  (hc:mx=none->m=cap) (hd:hi=none->h=len) (f:mx=none\/hi.isSome=true):(Iu true len cap (lo.map a.eval) (hi.map a.eval) (mx.map a.eval)).run P w = .ok (l,h,m) w:=by
 unfold Iu;cases mx with
 | none =>
  have:=hc rfl;subst this;cases hi with
  | none =>
   have:=hd rfl;subst this;cases lo with
   | none=>have:=(Hd (P:=P) (w:=w) (code := .sliceB) F hl h1).1 rfl;subst this;simp
   | some lo=>simp[(Hd (P:=P) (w:=w) F hl h1).2 lo rfl]
  | some hi =>
   cases lo with
   | none=>have:=(Hd (P:=P) (w:=w) (code := .sliceB) F hl h1).1 rfl;subst this;simp[(Hd (P:=P) (w:=w) F b h2).2 hi rfl]
   | some lo=>simp[(Hd (P:=P) (w:=w) F b h2).2 hi rfl,(Hd (P:=P) (w:=w) F hl h1).2 lo rfl]
 | some mx =>
  cases hi with
  | none=>rcases f with h | h <;> cases h
  | some hi =>
   cases lo with
   | none=>have:=(Hd (P:=P) (w:=w) (code := .sliceB) F hl h1).1 rfl;subst this;simp[(Hd (P:=P) (w:=w) F c d).2 mx rfl,(Hd (P:=P) (w:=w) F b h2).2 hi rfl]
   | some lo=>simp[(Hd (P:=P) (w:=w) F c d).2 mx rfl,(Hd (P:=P) (w:=w) F b h2).2 hi rfl,(Hd (P:=P) (w:=w) F hl h1).2 lo rfl]
theorem fW(H:HR μ s.h w)(F:FR μ n ρ a.tmps){t:TypeId}{x:Operand}{lo hi mx:Option Operand}{p z:HV}(g:o.op = .slice t x lo hi mx)(G:CU ρ x=some p)(d:fV P ρ t p lo hi mx=some z):DE P o a μ w s s z:=by
 have h1:=B_ F G;generalize j:a.eval x=v at h1;unfold fV at d;split at d
 ·obtain⟨⟨e,k,b⟩,y,d⟩:=bind_some d;obtain⟨l,hl,d⟩:=bind_some d;obtain⟨h,f,d⟩:=bind_some d;obtain⟨m,r,d⟩:=bind_some d;obtain⟨hc,d⟩:=A9 d;cases d;simp only[U,C7] at hc;obtain⟨⟨⟨c1,c2⟩,c3⟩,c4⟩:=hc;have c1:=Aj c1;have c2:=Aj c2;have c3:=Aj c3;subst c1 c2 c3;obtain⟨i,hu,hi,rfl,_⟩:=Jv y;cases h1;have hb:=FD (P:=P) (w:=w) (len:=0) (cap:=0) F r f hl (Ar _) (Ar _) (Ar _) (fun _=>rfl) (fun _=>rfl) (by cases mx <;> simp_all);refine Bi H (v := .slice none 0 0) ?_ .sn;simp[execOp,g,j,ED,Hh,run_underlying hu,hb,Ei hi]
 ·rename_i a0 off len c;obtain⟨⟨e,k,b⟩,y,d⟩:=bind_some d;obtain⟨m,r,d⟩:=bind_some d;obtain⟨h,f,d⟩:=bind_some d;obtain⟨l,hl,d⟩:=bind_some d;obtain⟨hc,d⟩:=A9 d;cases d;simp only[U,C7,IA,I9] at hc;obtain⟨⟨⟨c1,c2⟩,c3⟩,c4⟩:=hc;obtain⟨i,hu,hi,rfl,_⟩:=Jv y;cases h1 with
  | s B D A =>
   rename_i K q;simp only[J_] at A;subst A;have hb:=FD (P:=P) (w:=w) (len:=len) (cap:=c) F r f hl c1 c2 c3 (fun e=>by subst e;simpa [HY] using r.symm) (fun e=>by subst e;simpa [HY] using f.symm) c4;refine Bi H (v := .slice (some ⟨q.1,Dh (Au m l) off (off+l*i.size),none⟩) (h-l) (m-l)) ?_ (.s B (by omega) rfl);cases u:Au m l
   ·have:¬ m=l:=fun e=>by rw[e,DM] at u;cases u
    simp[execOp,g,j,ED,Hh,run_underlying hu,hb,Ei hi,this,Dk]
   ·have:=Aj u;simp[execOp,g,j,ED,Hh,run_underlying hu,hb,Ei hi,this]
 ·rename_i a0 off len sz;obtain⟨⟨e,k,b⟩,y,d⟩:=bind_some d;obtain⟨m,r,d⟩:=bind_some d;obtain⟨h,f,d⟩:=bind_some d;obtain⟨l,hl,d⟩:=bind_some d;cases C:mx.isNone
  ·rw[C] at d;obtain⟨hc,d⟩:=A9 d;cases d;simp only[U,IA] at hc;obtain⟨⟨⟨c1,c2⟩,c3⟩,c4⟩:=hc;obtain⟨i,hu,hi,rfl,_⟩:=Jv y;cases h1 with
   | s B D A =>
    rename_i c q;have hb:=FD (P:=P) (w:=w) (len:=len) (cap:=c) F r f hl c1 c2 (AR c3 D) (fun e=>by subst e;cases C) (fun e=>by subst e;simpa [HY] using f.symm) (.inr c4);refine Bi H (v := .slice (some ⟨q.1,Dh (Au m l) off (off+l*i.size),none⟩) (h-l) (m-l)) ?_ (.s B (by omega) rfl);cases u:Au m l
    ·have:¬ m=l:=fun e=>by rw[e,DM] at u;cases u
     simp[execOp,g,j,ED,Hh,run_underlying hu,hb,Ei hi,this,Dk]
    ·have:=Aj u;simp[execOp,g,j,ED,Hh,run_underlying hu,hb,Ei hi,this]
  rw[C] at d;clear r;obtain⟨hc,d⟩:=A9 d;cases d;simp only[U,C7,IA,Jx] at hc;obtain⟨⟨⟨⟨c1,c2⟩,c3⟩,c4⟩,I⟩:=hc;have c4:=Aj c4;obtain⟨i,hu,hi,rfl,_⟩:=Jv y;subst c4;have c3:=I9.1 C;subst c3;cases h1 with
  | s B D A =>
   rename_i c q;simp only[J_] at A;have hb:=FD (P:=P) (w:=w) (len:=len) (cap:=c) (mx:=none) (dc:=c) (m:=c) F rfl f hl c1 (by omega) (Ar _) (fun _=>rfl) (fun e=>by subst e;simpa [HY] using f.symm) (.inl rfl);have L:l<=c:=by omega
   refine Bi H (v := .slice (some ⟨q.1,off+l*i.size,none⟩) (h-l) (c-l)) ?_ (.s B (by omega) ?_)
   ·by_cases E:c=l
    ·have J:l=0:=by
      rcases I with h | h
      ·exact Aj h
      ·omega
     subst J;subst E;simp only[Kg] at hb;simp[execOp,g,j,ED,Hh,run_underlying hu,hb,Ei hi]
    ·simp only[Kg] at hb;simp[execOp,g,j,ED,Hh,run_underlying hu,hb,Ei hi,E,Dk]
   ·simp only[J_,Fs,<- Ek];rw[show l+(c-l)=c by omega];exact A
 ·cases d
def SD:HV->HV->Option Bool
 | .i k a,.i d b=>if k=d then some (a==b) else none
 | .b a,.b b=>some (a==b)
 | .c (.string a),.c (.string b)=>some (a==b)
 | _,_=>none
def Yb:TypeDesc->HV->Bool
 | .int _,.i _ _=>true
 | .string,.c (.string _)=>true
 | .bool,.b _=>true
 | _,_=>false
def SE(k:HV):List (HV × HV)->Nat->Option (Option (Nat × HV))
 | [],_=>some none
 | e::es,i=>bO (SD k e.1) fun t=>Dh t (some (some (i,e.2))) (SE k es (i+1))
theorem Afk{d:TypeDesc}{k a:HV}{v b:Value}{t:Bool}(hd:Yb d k=true)(h1:VR μ k v)(h2:VR μ a b)(h:SD k a=some t):Instr.sameNow d v b=some t:=by
 unfold SD at h;split at h
 ·cases h1;cases h2;cases d <;> first | exact h | cases hd
 ·cases h1;cases h2;cases d <;> first | exact h | cases hd
 ·cases h1;cases h2;cases d <;> first | exact h | cases hd
 ·cases h
def ER(μ:Mu)(es:List (HV × HV))(ms:List MapEntry):Prop:=C ms=C es/\∀ (j:Nat) (h1:j<C es) (h2:j<C ms),VR μ es[j].1 ms[j].key/\VR μ es[j].2 ms[j].val
theorem SF{d:TypeDesc}{k:HV}{v:Value}(hd:Yb d k=true)(b:VR μ k v):∀ {es:List (HV × HV)} {ms:List MapEntry} {i:Nat} {r:Option (Nat × HV)},ER μ es ms->SE k es i=some r ->
  (r=none/\H_ d v ms i=some none)\/∃ j x u,r=some (i+j,x)/\j<C es/\H_ d v ms i=some (some (i+j,u))/\VR μ x u/\∃ y,ms[j]? = some y/\∃ e,es[j]? = some e/\SD k e.1=some true
 | [],ms,i,r,a,h=>by
  simp only[SE,Ab] at h;have:ms=[]:=A_ a.1;subst this;exact .inl ⟨h.symm,rfl⟩
 | e::es,[],i,r,a,h=>by have:=a.1;simp at this
 | e::es,m::ms,i,r,a,h=>by
  simp only[SE] at h;obtain⟨t,c,h⟩:=bind_some h;have h0:=a.2 0 (by simp) (by simp);simp only[Bk] at h0;have hs:=Afk hd b h0.1 c;cases t
  ·simp only[cnd_false] at h;have f:ER μ es ms:=⟨by have:=a.1;simpa using this,fun j h1 h2=>a.2 (j+1) (by simpa using h1) (by simpa using h2)⟩;rcases SF hd b f h with ⟨h1,h2⟩ | ⟨j,x,u,h1,h2,g,l,y,n,o,p,q⟩
   ·exact .inl ⟨h1,by simp only[H_,hs];exact h2⟩
   ·refine .inr ⟨j+1,x,u,by rw[h1];simp;omega,by simp;omega,?_,l,y,by simpa using n,o,by simpa using p,q⟩;simp only[H_,hs];rw[g];simp;omega
  ·simp only[cnd_true,Ab] at h;exact .inr ⟨0,e.2,m.val,by rw[<- h];rfl,by simp,by simp only[H_,hs,Bn],h0.2,m,rfl,e,rfl,c⟩
section
variable{a:TypeId}{d:TypeDesc}{v:Value}
theorem Mw{b:Bool}(c:P.underlying a=some d){k:HV}(hd:Yb d k=true)(m:Nat):(Je b (m+1) a v).run P w = .ok () w:=by
 rw[Je];simp only[Am,run_underlying c,Aa];cases d <;> first | rfl | (cases k <;> cases hd) | (simp only[Yb] at hd;cases hd)
theorem IN{ms:List MapEntry}{r:Option (Nat × Value)}(c:P.underlying a=some d)(h:H_ d v ms 0=some r):(Yx a v ms).run P w = .ok r w:=by
 simp only[Yx,Am,run_underlying c,Aa,h,Ap]
end
def zvP(P:Program)(t:TypeId):Option HV :=
 match P.info? t with
 | some i=>match i.zero with
  | some v=>Ut v
  | none=>none
 | none=>none
theorem zX{t:TypeId}{z:HV}(a:zvP P t=some z):∃ v,(∀ w,(zeroValue t).run P w = .ok v w)/\∀ μ,VR μ z v:=by
 unfold zvP at a;split at a
 ·rename_i i hi;split at a
  next v b=>exact⟨v,fun w=>by simp[zeroValue,typeInfo,program,Cn,hi,b],fun μ=>XV a⟩
  ·cases a
 ·cases a
def zY(P:Program)(t:TypeId):Option (TypeDesc × TypeId × TypeId) :=
 match P.underlying t with
 | some (.map a e)=>match P.underlying a with
  | some d=>some (d,a,e)
  | none=>none
 | _=>none
theorem pJ{t:TypeId}{d:TypeDesc}{a e:TypeId}(h:zY P t=some (d,a,e)):P.underlying t=some (.map a e)/\P.underlying a=some d:=by
 unfold zY at h;split at h
 ·rename_i b c h1;split at h
  next f h2=>cases h;exact⟨h1,h2⟩
  ·cases h
 ·cases h
def zZ(a:Bool)(v:HV)(ok:Bool):HV:=Dh a (.t [v,.b ok]) v
theorem Yc{a ok:Bool}{v:HV}{u:Value}(h:VR μ v u):VR μ (zZ a v ok) (if a then .tuple #[u,.bool ok] else u):=by
 cases a
 ·exact h
 ·refine .t _ _ rfl fun j h1 h2 => ?_;match j with
  | 0=>exact h
  | 1=>exact .b ok
  | j+2=>simp at h1;omega
def Aqa(P:Program)(s:HS)(t:TypeId)(x k:HV)(b:Bool):Option HV :=
 bO (zY P t) fun q=>BV (Yb q.1 k) <| match x with
  | .mn=>bO (zvP P q.2.2) fun z=>some (zZ b z false)
  | .m a=>asM (s.h.get a) fun es=>bO (SE k es 0) fun r=>match r with
   | some p=>some (zZ b p.2 true)
   | none=>bO (zvP P q.2.2) fun z=>some (zZ b z false)
  | _=>none
theorem vY{q:Nat × Nat}{es:List (HV × HV)}(h:OR μ w q (.m es)):∃ ms k,w.heap[q.1]? = some (.map ms k)/\ER μ es ms.toList:=by
 obtain⟨ms,k,h1,h2,a⟩:=h;exact⟨ms,k,h1,by simpa using h2,fun j b c=>by simpa using a j b (by simpa using c)⟩
theorem Zd(H:HR μ s.h w)(F:FR μ n ρ a.tmps){t:TypeId}{x y:Operand}{p k z:HV}{c:Bool}(l:o.op = .lookup t x y c)(K:CU ρ x=some p)(L:CU ρ y=some k)(b:Aqa P s t p k c=some z):DE P o a μ w s s z:=by
 have h1:=B_ F K;have h2:=B_ F L;generalize hu:a.eval x=u at h1;generalize A:a.eval y=v at h2;obtain⟨⟨d,B,e⟩,M,b⟩:=bind_some b;obtain⟨hd,b⟩:=A9 b;obtain⟨C,f⟩:=pJ M;simp only at hd;split at b
 ·obtain⟨N,D,b⟩:=bind_some b;cases b;cases h1;obtain⟨g,E,G⟩:=zX D;refine Bi H (v:=if c then .tuple #[g,.bool false] else g) ?_ (Yc (G μ));have i:(Je (#[]:Array MapEntry).isEmpty 10000 B v).run P w = .ok () w:=Mw f hd 9999;have O:(Yx B v []).run P w = .ok none w:=IN f rfl;simp only[execOp,l,hu,A,aB,Am,run_underlying C,Aa,Ap,i,O,E]
 ·rename_i a0 _;obtain⟨es,Q,b⟩:=Pi b;cases h1 with
  | m R =>
   rename_i q;obtain⟨ms,S,T,U⟩:=vY (H.at Q R);obtain⟨r,hr,b⟩:=bind_some b;have I:(getObj q.1).run P w = .ok (.map ms S) w:=by simp only[getObj,Cn,T]
   have i:(Je ms.isEmpty 10000 B v).run P w = .ok () w:=Mw f hd 9999;rcases SF hd h2 U hr with ⟨rfl,hf⟩ | ⟨j,W,J,rfl,_,hf,V,_⟩
   ·obtain⟨N,D,b⟩:=bind_some b;cases b;obtain⟨g,E,G⟩:=zX D;refine Bi H (v:=if c then .tuple #[g,.bool false] else g) ?_ (Yc (G μ));simp only[execOp,l,hu,A,aB,Am,run_underlying C,Aa,I,Ap,i,IN f hf,E]
   ·cases b;refine Bi H (v:=if c then .tuple #[J,.bool true] else J) ?_ (Yc V);simp only[execOp,l,hu,A,aB,Am,run_underlying C,Aa,I,Ap,i,IN f hf]
 ·cases b
def Axr(P:Program)(s:HS)(t:TypeId)(x k v:HV):RH :=
 bO (zY P t) fun q=>BV (Yb q.1 k) <| match x with
  | .m a=>asM (s.h.get a) fun es=>bO (SE k es 0) fun r=>match r with
   | some p=>some (.u,H2 s a (.m (es.set p.1 (k,v))))
   | none=>some (.u,H2 s a (.m (es++[(k,v)])))
  | _=>none
theorem Azy{a b:ByteArray}(h:(a==b)=true):a=b:=by
 cases a;cases b;congr 1;exact eq_of_beq (show (_==_)=true from h)
theorem vZ{d:TypeDesc}{k a:HV}{v b:Value}(hd:Yb d k=true)(h1:VR μ k v)(h2:VR μ a b)(h:SD k a=some true):MT 10000 b v=true:=by
 unfold SD at h;split at h
 ·cases h1;cases h2;split at h
  next e=>simp only[Ab,AW] at h;subst e h;simp[MT]
  ·cases h
 ·cases h1;cases h2;simp only[Ab,AW] at h;subst h;simp[MT]
 ·cases h1;cases h2;simp only[Ab] at h;have:=Azy h;subst this;simp only[MT];exact h
 ·cases h
theorem Ze(H:HR μ s.h w)(F:FR μ n ρ a.tmps){t:TypeId}{x y J:Operand}{p k v z:HV}{s':HS}(T:o.op = .mapUpdate t x y J)(hx:CU ρ x=some p)(hy:CU ρ y=some k)(a4:CU ρ J=some v)(c:Axr P s t p k v=some (z,s')):DE P o a μ w s s' z:=by
 have h1:=B_ F hx;have h2:=B_ F hy;have K:=B_ F a4;generalize hu:a.eval x=u at h1;generalize U:a.eval y=l at h2;generalize V:a.eval J=vv at K;obtain⟨⟨d,ke,e⟩,hm,c⟩:=bind_some c;obtain⟨hd,c⟩:=A9 c;obtain⟨W,L⟩:=pJ hm;simp only at hd;split at c
 ·rename_i a0 _ _;obtain⟨es,M,c⟩:=Pi c;cases h1 with
  | m N =>
   rename_i q;obtain⟨ms,G,f,g⟩:=vY (H.at M N);obtain⟨r,hr,c⟩:=bind_some c;have X:(getObj q.1).run P w = .ok (.map ms G) w:=by simp only[getObj,Cn,f]
   have Y:(Je false 10000 ke l).run P w = .ok () w:=Mw L hd 9999;have a5:=(A8.1 f).1;have Z:∀ O:Obj,(setObj q.1 O).run P w = .ok () { w with heap:=w.heap.setIfInBounds q.1 O }:=fun O=>by simp only[setObj,Cn,f]
   have done:∀ (I:List (HV × HV)) (A:Array MapEntry) (B:Nat),ER μ I A.toList->HR μ (H2 s a0 (.m I)).h { w with heap:=w.heap.setIfInBounds q.1 (.map A B) }/\Step μ s w μ (H2 s a0 (.m I)) { w with heap:=w.heap.setIfInBounds q.1 (.map A B) }:=by
    intro I A B a1;have a2:∀ b,b ≠ q.1->(w.heap.setIfInBounds q.1 (.map A B))[b]? = w.heap[b]? := fun b hb=>by rw[MX (EG hb)]
    refine⟨H.turn M N (by simp) a2 ⟨A,B,by simp[a5],by simpa using a1.1,fun j D f=>a1.2 j D (by simpa using f)⟩,Step.turn M N rfl rfl rfl (by simp) a2⟩
   rcases SF hd h2 g hr with ⟨rfl,hf⟩ | ⟨j,x',u',rfl,E,hf,b2,me,b3,a6,a3,a7⟩
   ·cases c;obtain⟨Q,R⟩:=done (es++[(k,v)]) (ms.push { key:=l,val:=vv,born:=G }) (G+1) ⟨by have:=g.1;simp at this |-;exact this,fun j D f=>by
     have hl:C ms.toList=C es:=g.1;simp only[Array.toList_push] at f |-;by_cases E:j<C es
     ·rw[CD E,CD (by omega)];exact g.2 j E (by omega)
     ·have:j=C es:=by simp at D;omega
      subst this;rw[C3 (by omega),C3 (by omega)];simp only[hl,Tg,Bk];exact⟨h2,K⟩⟩
    refine⟨_,μ,_,.inr ⟨?_,rfl⟩,Q,R,.u⟩;simp only[execOp,T,hu,U,V,Agm,Am,run_underlying W,Aa,X,Y,IN L hf,Z,Ap]
   ·simp only[AJ] at c hf;cases c;have hl:C ms.toList=C es:=g.1;have hold:=(g.2 j E (by omega)).1;have a8:es[j]=a6:=by rw[Ad E] at a3;exact AM a3
    have a9:=vZ hd h2 hold (by rw[a8];exact a7);have b0:(wA (((ms[j]?).map (·.key)).getD l) l).run P w = .ok l w:=by
     have b1:ms[j]? = some (ms.toList[j]'(by omega)):=by rw[<- DI,Ad]
     simp only[wA,b1,Al,EA,a9,if_true,Ap]
    obtain⟨Q,R⟩:=done (es.set j (k,v)) (ms.modify j fun e=>{ e with key:=l,val:=vv }) G ⟨by simpa using hl,fun i D f=>by
     have gi:i<C es:=by simpa using D
     simp only[Array.toList_modify] at f |-;by_cases S:j=i
     ·subst S;rw[No,wB,Af rfl];exact⟨h2,K⟩
     ·rw[MV S,wB,Ak S];exact g.2 i gi (by omega)⟩
    refine⟨_,μ,_,.inr ⟨?_,rfl⟩,Q,R,.u⟩;simp only[execOp,T,hu,U,V,Agm,Am,run_underlying W,Aa,X,Y,IN L hf,b0,Z,Ap]
 ·cases c
end
end
noncomputable section
section
variable {P:Program} {o:Oper} {a:Act} {μ:Mu} {w:World} {s:HS} {n:Nat} {ρ:En}
def fX(P:Program)(t:TypeId)(x:HV)(j:Nat):Option HV :=
 match P.underlying t with
 | some (.array m e)=>match x with
  | .g cs=>BV (Jd j m) <| bO (R0 P e) fun q=>S7 cs (j*q.1) q.1 q.2
  | _=>none
 | some .string=>match x with
  | .c (.string b)=>bO (b[j]?) fun c=>some (.i .u8 c.toNat)
  | _=>none
 | _=>none
theorem fY(H:HR μ s.h w)(F:FR μ n ρ a.tmps){t:TypeId}{x y:Operand}{p z:HV}{k:IntKind}{j:Nat}(g:o.op = .index t x y)(q:CU ρ x=some p)(r:CU ρ y=some (.i k j))(b:fX P t p j=some z):DE P o a μ w s s z:=by
 have h1:=B_ F q;have h2:=B_ F r;generalize hu:a.eval x=u at h1;generalize l:a.eval y=v at h2;cases h2;unfold fX at b;split at b
 ·rename_i m e f;split at b
  ·obtain⟨d,b⟩:=A9 b;obtain⟨⟨C,one⟩,hs,b⟩:=bind_some b;obtain⟨vs,rfl,hc⟩:=Axp h1;rw[Pg] at b;obtain⟨v,A,B⟩:=Qz (P:=P) (w:=w) hc hs b;have d:(0:Int)<=(j:Int)/\(j:Int)<(m:Int):=by rw[Jx] at d;omega
   refine Bi H (v:=v) ?_ B;simp only[execOp,g,hu,l,Aav,Am,asIntOf,Ap,Aa,run_underlying f,Af d,(Ed (Pk hs)).2,Ao,A]
  ·cases b
 ·rename_i f;split at b
  ·obtain⟨c,hc,b⟩:=bind_some b;cases b;cases h1;refine Bi H (v := .int .u8 c.toNat) ?_ (.i _ _);have d:(0:Int)<=(j:Int):=by omega
   simp only[execOp,g,hu,l,Aav,Am,asIntOf,Ap,Aa,run_underlying f,Af d,Ao,hc]
  ·cases b
 ·cases b
def Aqb(P:Program)(s:HS)(t:TypeId)(l c:Nat):RH :=
 bO (Zc P t) fun q=>BV (CM l c&&CM 1 q.2.1&&CM c 1048576&&CM q.2.2 1048576) <| bO (fK P q.1) fun z=>BV (Au (C z) q.2.1) (some (.s s.nx 0 l (.k c),FT s (.c (LA z c))))
theorem pK(H:HR μ s.h w)(q:μ s.nx=none)(F:FR μ n ρ a.tmps){t:TypeId}{x y:Operand}{k g:IntKind}{l c:Nat}{z:HV}{s':HS}(A:o.op = .makeSlice t x y)(B:CU ρ x=some (.i k l))(C:CU ρ y=some (.i g c))(d:Aqb P s t l c=some (z,s')) :
  DE P o a μ w s s' z:=by
 have h1:=B_ F B;have h2:=B_ F C;generalize hu:a.eval x=u at h1;generalize D:a.eval y=v at h2;cases h1;cases h2;obtain⟨⟨e,R,b⟩,E,d⟩:=bind_some d;obtain⟨h0,d⟩:=A9 d;obtain⟨j,G,d⟩:=bind_some d;obtain⟨hl,d⟩:=A9 d;cases d;simp only[U,IA] at h0;obtain⟨⟨⟨c1,c2⟩,c3⟩,c4⟩:=h0;obtain⟨i,I,hi,rfl,rfl⟩:=Jv E;obtain⟨S,f,p,J,_,hc⟩:=Pm G;rw[hi] at p;cases p;have hl:=Aj hl;have K:f.cells.size=i.size:=by rw[(hc μ).2.1];exact hl
 have hb:(i.bytes:Int)*(c:Int)<=281474976710656:=by
  have T:(i.bytes:Int)*c<=1048576*c:=Agp (by omega) (by omega);omega
 have hr:=run_make (P:=P) w t e i f I hi J k g l c (by omega) (by omega) hb (by omega);simp only[Ao] at hr;have L:IM μ (LA j c) (madeCells f.cells (c*i.size)):=by
  have:=Z' (m:=c) (hc μ) K;simpa [madeCells] using this
 obtain⟨M,N⟩:=KT H q (x := .cells (madeCells f.cells (c*i.size)) e) (madeCells f.cells (c*i.size)).size (o := .c (LA j c)) fun μ' w' O Q=>⟨_,e,Q,rfl,(L.mono O).cr⟩;refine⟨_,_,_,.inl ?_,M,N,.s (r:=(w.heap.size,(madeCells f.cells (c*i.size)).size)) (by simp[Di]) c1 rfl⟩;simp only[execOp,A,hu,D,Am,hr,Aa,Ap]
def Axs(P:Program)(s:HS)(t:TypeId)(x:HV):Option HV :=
 match P.underlying t with
 | some (.slice _)=>match x with
  | .sn=>some (.i .i64 (0:Nat))
  | .s _ _ l _=>some (.i .i64 l)
  | _=>none
 | some .string=>match x with
  | .c (.string b)=>some (.i .i64 b.size)
  | _=>none
 | some (.map _ _)=>match x with
  | .mn=>some (.i .i64 (0:Nat))
  | .m a=>asM (s.h.get a) fun es=>some (.i .i64 (C es))
  | _=>none
 | _=>none
def Axt(P:Program)(t:TypeId)(x:HV):Option HV :=
 match P.underlying t with
 | some (.slice _)=>match x with
  | .sn=>some (.i .i64 (0:Nat))
  | .s _ _ _ (.k c)=>some (.i .i64 c)
  | _=>none
 | _=>none
def maxH(l:List HV):Option HV:=bO (KU l) fun asx=>match asx with
 | .int k m::asx=>bO (Zf k m asx) fun r=>some (.i k r)
 | _=>none
def minH(l:List HV):Option HV:=bO (KU l) fun asx=>match asx with
 | .int k m::asx=>bO (Zg k m asx) fun r=>some (.i k r)
 | _=>none
def wC(P:Program)(s:HS)(t t':TypeId)(x y:HV):RH :=
 bO (fU P t t') fun q=>match x,y with
  | .s a off m _,.s b e d _=>Dh (Au (PH d m) 0) (some (.i .i64 (0:Nat),s)) (XQ (s.h.get b) fun cs=>bO (Kb cs e (PH d m*q.1)) fun f =>
    XQ (s.h.get a) fun cs=>bO (XP f off cs) fun g=>some (.i .i64 (PH d m:Nat),H2 s a (.c g)))
  | .sn,.s _ _ _ _=>some (.i .i64 (0:Nat),s)
  | .s _ _ _ _,.sn=>some (.i .i64 (0:Nat),s)
  | .sn,.sn=>some (.i .i64 (0:Nat),s)
  | _,_=>none
def LB(P:Program)(s:HS)(b:Builtin)(a:List TypeId)(l:List HV):RH :=
 match b with
 | .len=>match a,l with | t::_,x::_=>bO (Axs P s t x) fun v=>some (v,s) | _,_=>none
 | .cap=>match a,l with | t::_,x::_=>bO (Axt P t x) fun v=>some (v,s) | _,_=>none
 | .max=>bO (maxH l) fun v=>some (v,s)
 | .min=>bO (minH l) fun v=>some (v,s)
 | .append=>match a,l with | t::t'::_,x::y::_=>X_ P s t t' x y | _,_=>none
 | .copy=>match a,l with | t::t'::_,x::y::_=>wC P s t t' x y | _,_=>none
 | _=>none
theorem Aqc(H:HR μ s.h w){t t' r:TypeId}{x y z:HV}{u v:Value}{s':HS}(hu:VR μ x u)(g:VR μ y v)(h:wC P s t t' x y=some (z,s')):Res P (Fq #[t,t'] r #[u,v]) μ w s s' z:=by
 obtain⟨⟨k,b⟩,C,h⟩:=bind_some h;obtain⟨e,Q,i,R,h1,h2,n,S,rfl,rfl,T,_⟩:=aA C;have j:∀ {o:Option Addr} {m c:Nat} {l:Option Addr} {d p:Nat},u = .slice o m c->v = .slice l d p->PH d m=0->z = .i .i64 (0:Nat)->s'=s->Res P (Fq #[t,t'] r #[u,v]) μ w s s' z:=by
  rintro o m c l d p rfl rfl f rfl rfl;have hf:(Ea i.size 0 (.slice l d p)).run P w = .ok #[] w:=by
   cases l with
   | none=>simp[Ea]
   | some b=>simp[Ea,loadCells,loadCellsFrom]
  refine⟨.int .i64 (0:Nat),μ,w,?_,H,Step.refl _ _ _,.i _ _⟩;cases o with
  | none=>simp[Fq,run_underlying h1,sizeOf,typeInfo,n,DS,f,hf,goInt]
  | some a=>simp[Fq,run_underlying h1,sizeOf,typeInfo,n,DS,f,hf,goInt,storeCells]
 split at h
 ·rename_i a off m cap b D d U _;cases hu with
  | s E V hc =>
   cases g with
   | s q A B =>
    rename_i c2 F;cases f:Au (PH d m) 0
    ·rw[f] at h;obtain⟨cs,hb,h⟩:=DH h;obtain⟨W,G,h⟩:=bind_some h;obtain⟨X,I,h⟩:=DH h;obtain⟨Y,hl,h⟩:=bind_some h;rw[O2] at hl;cases h;obtain⟨J,K,Z,L,M⟩:=R4 H hb q G;obtain⟨w',st,N,O⟩:=vP (P:=P) H I E M hl;refine⟨_,μ,w',?_,N,O,.i _ _⟩;have hf:=run_firstCells_some (P:=P) w i.size (PH d m) ⟨F.1,D,none⟩ d c2 J K L;simp only[Fq,Cq,Cb,Du,Am,run_underlying h1,Aa,DS,Ap,Ei n,hf];simp[st,goInt]
    ·rw[f] at h;cases h;exact j rfl rfl (Aj f) rfl rfl
 ·cases h;cases hu;cases g with
  | s q A B=>exact j rfl rfl (Nat.min_eq_right (Cj _)) rfl rfl
 ·cases h;cases g;cases hu with
  | s q A B=>exact j rfl rfl (Nat.min_eq_left (Cj _)) rfl rfl
 ·cases h;cases hu;cases g;exact j rfl rfl rfl rfl rfl
 ·cases h
theorem pL{l:List HV}{asx:u}{vs:List Value}(h:KU l=some asx)(hl:C vs=C l)(hr:∀ (j:Nat) (h1:j<C l) (h2:j<C vs),VR μ l[j] vs[j]) :
  C vs=C asx/\∀ (j:Nat) (h1:j<C vs) (h2:j<C asx),Rd (fun _=>False) (fun _=>False) w vs[j] asx[j]:=by
 obtain⟨d,a⟩:=Po h;refine⟨by omega,fun j b c => ?_⟩;obtain⟨k,m,h1,h2⟩:=a j (by omega) c;have:=hr j (by omega) b;rw[h1] at this;rw[h2];generalize vs[j]=v at this;cases this;exact .int _ _
theorem Aqd{l:List HV}{vs:Array Value}{x y:HV}{a:List HV}(e:l=x::y::a)(hl:vs.size=C l)(hr:∀ (j:Nat) (h1:j<C l) (h2:j<vs.size),VR μ l[j] vs[j]):∃ u v,vs[0]? = some u/\vs[1]? = some v/\VR μ x u/\VR μ y v:=by
 subst e;have h0:0<vs.size:=by simp at hl;omega
 have h1:1<vs.size:=by simp at hl;omega
 exact⟨vs[0],vs[1],by simp[h0],by simp[h1],hr 0 (by simp) h0,hr 1 (by simp) h1⟩
section
variable{a:Array TypeId}{vs:Array Value}{t t':TypeId}{e:List TypeId}{u v:Value}{b:TypeId}
theorem fZ(c:a.toList=t::t'::e)(hu:vs[0]? = some u)(d:vs[1]? = some v):AT a b vs=AT #[t,t'] b #[u,v]:=by
 have e0:a[0]? = some t:=by rw[<- DI,c];rfl
 have f:a[1]? = some t':=by rw[<- DI,c];rfl
 unfold AT;simp only[e0,f,hu,d,Cq,Cb,Du]
theorem wD(c:a.toList=t::t'::e)(hu:vs[0]? = some u)(d:vs[1]? = some v):Fq a b vs=Fq #[t,t'] b #[u,v]:=by
 have e0:a[0]? = some t:=by rw[<- DI,c];rfl
 unfold Fq;simp only[e0,hu,d,Cq,Cb,Du]
end
theorem pM(H:HR μ s.h w){b:Builtin}{o:Array TypeId}{ty:TypeId}{l:List HV}{vs:Array Value}{z:HV}{s':HS}(hf:D1 μ s.nx s'.nx)(hl:vs.size=C l)(hr:∀ (j:Nat) (h1:j<C l) (h2:j<vs.size),VR μ l[j] vs[j])
  (h:LB P s b o.toList l=some (z,s')):∃ m:Sem Value,(∀ cs,builtin b o ty cs vs=(do pure (.value (<- m))))/\Res P m μ w s s' z:=by
 unfold LB at h;split at h
 ·split at h
  ·rename_i t p x A g;obtain⟨v,a,h⟩:=bind_some h;cases h;refine⟨_,fun _=>rfl,?_⟩;have h0:0<vs.size:=by simp at hl;omega
   have e0:o[0]? = some t:=by rw[<- DI,g];rfl
   have c:vs[0]? = some vs[0]:=by simp[h0]
   have d:=hr 0 (by simp) h0;simp only[Bk] at d;generalize vs[0]=u at c d;unfold Axs at a;split at a
   ·rename_i K hu;split at a
    ·cases a;cases d;exact⟨_,μ,w,by simp[Gy,e0,c,run_underlying hu,goInt],H,Step.refl _ _ _,.i _ _⟩
    ·cases a;cases d;exact⟨_,μ,w,by simp[Gy,e0,c,run_underlying hu,goInt],H,Step.refl _ _ _,.i _ _⟩
    ·cases a
   ·rename_i hu;split at a
    ·cases a;cases d;exact⟨_,μ,w,by simp[Gy,e0,c,run_underlying hu,goInt],H,Step.refl _ _ _,.i _ _⟩
    ·cases a
   ·rename_i S K hu;split at a
    ·cases a;cases d;exact⟨_,μ,w,by simp[Gy,e0,c,run_underlying hu,goInt],H,Step.refl _ _ _,.i _ _⟩
    ·obtain⟨es,M,a⟩:=Pi a;cases a;cases d with
     | m L =>
      rename_i q;obtain⟨ms,N,e,O⟩:=vY (H.at M L);have Q:(getObj q.1).run P w = .ok (.map ms N) w:=by simp only[getObj,Cn,e]
      have:ms.size=C es:=by have:=O.1;simpa using this
      exact⟨_,μ,w,by simp[Gy,e0,c,run_underlying hu,goInt,Q,this],H,Step.refl _ _ _,.i _ _⟩
    ·cases a
   ·cases a
  ·cases h
 ·split at h
  ·rename_i t p x A g;obtain⟨v,a,h⟩:=bind_some h;cases h;refine⟨_,fun _=>rfl,?_⟩;have h0:0<vs.size:=by simp at hl;omega
   have e0:o[0]? = some t:=by rw[<- DI,g];rfl
   have c:vs[0]? = some vs[0]:=by simp[h0]
   have d:=hr 0 (by simp) h0;simp only[Bk] at d;generalize vs[0]=u at c d;unfold Axt at a;split at a
   ·rename_i K hu;split at a
    ·cases a;cases d;exact⟨_,μ,w,by simp[Aqe,e0,c,run_underlying hu,goInt],H,Step.refl _ _ _,.i _ _⟩
    ·cases a;cases d with
     | s L T hc =>
      simp only[J_] at hc;subst hc;exact⟨_,μ,w,by simp[Aqe,e0,c,run_underlying hu,goInt],H,Step.refl _ _ _,.i _ _⟩
    ·cases a
   ·cases a
  ·cases h
 ·obtain⟨v,a,h⟩:=bind_some h;cases h;refine⟨_,fun _=>rfl,?_⟩;obtain⟨asx,has,a⟩:=bind_some a;split at a
  ·rename_i k m B;obtain⟨r,D,a⟩:=bind_some a;cases a;obtain⟨f,e⟩:=pL (w:=w) has (vs:=vs.toList) (by simpa using hl) (fun j h1 h2=>by simpa using hr j h1 (by simpa using h2));cases n:vs.toList with
   | nil=>rw[n] at f;simp at f
   | cons R E =>
    simp only[n] at f e;have h0:=e 0 (by simp) (by simp);simp only[Bk] at h0;cases h0;have F:=UB (P:=P) (Y:=fun _=>False) (X:=fun _=>False) (w:=w) (vs:=E) (l:=B) (by simpa using f) (fun i h1 h2=>e (i+1) (by simpa using h1) (by simpa using h2)) D;exact⟨_,μ,w,by simp only[A0r,n,F],H,Step.refl _ _ _,.i _ _⟩
  ·cases a
 ·obtain⟨v,a,h⟩:=bind_some h;cases h;refine⟨_,fun _=>rfl,?_⟩;obtain⟨asx,has,a⟩:=bind_some a;split at a
  ·rename_i k m B;obtain⟨r,D,a⟩:=bind_some a;cases a;obtain⟨f,e⟩:=pL (w:=w) has (vs:=vs.toList) (by simpa using hl) (fun j h1 h2=>by simpa using hr j h1 (by simpa using h2));cases n:vs.toList with
   | nil=>rw[n] at f;simp at f
   | cons R E =>
    simp only[n] at f e;have h0:=e 0 (by simp) (by simp);simp only[Bk] at h0;cases h0;have F:=UC (P:=P) (Y:=fun _=>False) (X:=fun _=>False) (w:=w) (vs:=E) (l:=B) (by simpa using f) (fun i h1 h2=>e (i+1) (by simpa using h1) (by simpa using h2)) D;exact⟨_,μ,w,by simp only[A0s,n,F],H,Step.refl _ _ _,.i _ _⟩
  ·cases a
 ·split at h
  next t t' p x y A g=>obtain⟨u,v,c,G,I,J⟩:=Aqd rfl hl hr;refine⟨_,fun _=>rfl,?_⟩;rw[fZ g c G];exact vW H I J hf h
  ·cases h
 ·split at h
  next t t' p x y A g=>obtain⟨u,v,c,G,I,J⟩:=Aqd rfl hl hr;refine⟨_,fun _=>rfl,?_⟩;rw[wD g c G];exact Aqc H I J h
  ·cases h
 ·cases h
theorem Aqf{t t':TypeId}{x y z:HV}{s':HS}(h:wC P s t t' x y=some (z,s')):Qt s s':=by
 obtain⟨⟨k,b⟩,f,h⟩:=bind_some h;split at h
 ·rename_i a off m cap b g c i _;cases d:Au (PH c m) 0 <;> rw[d] at h
  ·obtain⟨cs,hb,h⟩:=DH h;obtain⟨j,l,h⟩:=bind_some h;obtain⟨n,e,h⟩:=DH h;obtain⟨o,hl,h⟩:=bind_some h;cases h;exact Qt.turn e
  ·cases h;exact Qt.refl _
 ·cases h;exact Qt.refl _
 ·cases h;exact Qt.refl _
 ·cases h;exact Qt.refl _
 ·cases h
theorem pN{b:Builtin}{c:List TypeId}{l:List HV}{z:HV}{s':HS}(h:LB P s b c l=some (z,s')):Qt s s':=by
 unfold LB at h;split at h
 ·split at h
  ·obtain⟨v,a,h⟩:=bind_some h;cases h;exact Qt.refl _
  ·cases h
 ·split at h
  ·obtain⟨v,a,h⟩:=bind_some h;cases h;exact Qt.refl _
  ·cases h
 ·obtain⟨v,a,h⟩:=bind_some h;cases h;exact Qt.refl _
 ·obtain⟨v,a,h⟩:=bind_some h;cases h;exact Qt.refl _
 ·split at h
  ·exact vX h
  ·cases h
 ·split at h
  ·exact Aqf h
  ·cases h
 ·cases h
end
end
noncomputable section
abbrev KH:=B0->En->HS->RH
structure KC where
 run:KH
def Aqg:KH:=fun _ _ _=>none
def Aqh(x:Operand):KH:=fun _ ρ s=>bO (CU ρ x) fun v=>some (v,s)
def Azz(c x y:Operand):KH:=fun _ ρ s=>bO (CU ρ c) fun v=>asB v fun t=>bO (CU ρ (Dh t x y)) fun v=>some (v,s)
def kNew(z:Option (List HV)):KH:=fun _ _ s=>bO z fun z=>some (.p s.nx 0,FT s (.c z))
def kBox(x:Operand):KH:=fun _ ρ s=>bO (CU ρ x) fun y=>bO (L9 y) fun z=>some (.p s.nx 0,FT s (.c z))
def Atn(P:Program)(t:TypeId)(ps:List (Nat × Operand)):KH:=fun _ ρ s=>bO (fN P ρ t ps) fun v=>some (v,s)
def Aqi(P:Program)(t:TypeId)(m:Nat)(ps:List (Nat × Operand)):KH:=fun _ ρ s=>bO (Mt P ρ t m ps) fun cs=>some (.s s.nx 0 m (.k m),FT s (.c cs))
section
variable(z:Option (Nat × Bool))
def A0a(x:Operand):KH:=fun _ ρ s=>bO (CU ρ x) fun v=>vQ v fun b off=>XQ (s.h.get b) fun cs=>bO z fun q=>bO (S7 cs off q.1 q.2) fun v=>some (v,s)
def Ato(x y:Operand):KH:=fun _ ρ s=>bO (CU ρ x) fun v=>vQ v fun b off=>XQ (s.h.get b) fun cs=>bO z fun q=>bO (CU ρ y) fun z=>bO (Ry z q.1) fun a=>bO (XP a off cs) fun d=>some (.u,H2 s b (.c d))
end
def kNil(x:Operand):KH:=fun _ ρ s=>bO (CU ρ x) fun v=>BV (Apw v) (some (v,s))
def kBin(P:Program)(op:BinOp)(t:TypeId)(x y:Operand):KH:=fun _ ρ s=>bO (CU ρ x) fun p=>bO (CU ρ y) fun q=>bO (Apx P op t p q) fun v=>some (v,s)
def kUn(op:UnOp)(x:Operand):KH:=fun _ ρ s=>bO (CU ρ x) fun p=>bO (unH op p) fun v=>some (v,s)
def A0b(P:Program)(a dst:TypeId)(x:Operand):KH:=fun _ ρ s=>bO (CU ρ x) fun p=>bO (Apz P s a dst p) fun v=>some (v,s)
def A0c(f:Nat)(xs a:List Operand):KH:=fun _ ρ s=>bO (PG ρ xs) fun fs=>bO (PG ρ a) fun cs=>some (.f f fs cs,s)
def kMap:KH:=fun _ _ s=>some (.m s.nx,FT s (.m []))
def Atp(P:Program)(t:TypeId)(x:Operand):KH:=fun _ ρ s=>bO (CU ρ x) fun p=>bO (Apy P t p) fun str=>some (.p s.nx 0,FT s (.it str 0))
def A0d(x:Operand):KH:=fun _ ρ s=>bO (CU ρ x) fun v=>vQ v fun b off=>BV (Au off 0) <| Aps (s.h.get b) fun str pos=>fT str pos b s
def A0e(P:Program)(t:TypeId)(x y:Operand):KH:=fun _ ρ s=>bO (CU ρ x) fun v=>asN v fun l=>bO (CU ρ y) fun v=>asN v fun c=>Aqb P s t l c
def Atq(P:Program)(t:TypeId)(x:Operand)(lo hi mx:Option Operand):KH:=fun _ ρ s=>bO (CU ρ x) fun p=>bO (fV P ρ t p lo hi mx) fun v=>some (v,s)
def pO(q:Option (Nat × Nat))(x:Operand):KH:=fun _ ρ s=>bO (CU ρ x) fun v=>vQ v fun b off=>bO q fun q=>some (.p b (off+q.1),s)
def Atr(q:Option (Nat × Nat × Bool))(x:Operand):KH:=fun _ ρ s=>bO (CU ρ x) fun v=>asG v (fun cs=>bO q fun q=>bO (S7 cs q.1 q.2.1 q.2.2) fun v=>some (v,s)) none
def pP(q:Option (TypeId × Nat × Nat))(x y:Operand):KH:=fun _ ρ s=>bO (CU ρ x) fun v=>asS v fun b off len _=>bO (CU ρ y) fun i=>asN i fun j=>bO q fun q=>BV (Jd j len) (some (.p b (off+j*q.2.1),s))
section
variable(P:Program)(t:TypeId)
def Ats(x y:Operand):KH:=fun _ ρ s=>bO (CU ρ x) fun p=>bO (CU ρ y) fun i=>asN i fun j=>bO (fX P t p j) fun v=>some (v,s)
def Aqj(x y:Operand)(a:Bool):KH:=fun _ ρ s=>bO (CU ρ x) fun p=>bO (CU ρ y) fun k=>bO (Aqa P s t p k a) fun v=>some (v,s)
def Aqk(x y b:Operand):KH:=fun _ ρ s=>bO (CU ρ x) fun p=>bO (CU ρ y) fun k=>bO (CU ρ b) fun v=>Axr P s t p k v
end
def Afl(x:Operand)(i:Nat):KH:=fun _ ρ s=>bO (CU ρ x) fun v=>asT v fun cs=>bO (ZV cs i) fun v=>some (v,s)
def A0f(f:Operand)(xs:List Operand):KH:=fun call ρ s=>bO (CU ρ f) fun fv=>bO (PG ρ xs) fun vs=>call fv vs s
def Afm(P:Program)(b:Builtin)(xs:List Operand)(a:List TypeId):KH:=fun _ ρ s=>bO (PG ρ xs) fun vs=>LB P s b a vs
section
variable(P:Program)(t:TypeId)(f:Nat)
def Att:Option (Nat × Nat):=bO (foP P t f) fun q=>bO (R0 P q.2) fun z=>Dh (Au z.1 0) none (some (q.1,z.1))
def Atu:Option (Nat × Nat × Bool):=bO (foP P t f) fun q=>bO (R0 P q.2) fun z=>some (q.1,z.1,z.2)
end
def A2(P:Program):Op->KC
 | .move x=>⟨Aqh x⟩
 | .assign x=>⟨Aqh x⟩
 | .pick c x y=>⟨Azz c x y⟩
 | .alloc t=>⟨kNew (fK P t)⟩
 | .box _ x=>⟨kBox x⟩
 | .build t ps=>⟨Atn P t ps.toList⟩
 | .buildSlice t m ps=>⟨Aqi P t m ps.toList⟩
 | .load t x=>⟨A0a (R0 P t) x⟩
 | .store t x y=>⟨Ato (R0 P t) x y⟩
 | .nilCheck x=>⟨kNil x⟩
 | .binOp op t x y _=>⟨kBin P op t x y⟩
 | .unOp op _ x=>⟨kUn op x⟩
 | .convert a dst x=>⟨A0b P a dst x⟩
 | .makeFunc (.func f) xs ys=>⟨A0c f xs.toList ys.toList⟩
 | .makeMap _ none=>⟨kMap⟩
 | .range t x=>⟨Atp P t x⟩
 | .next x true=>⟨A0d x⟩
 | .makeSlice t x y=>⟨A0e P t x y⟩
 | .slice t x lo hi mx=>⟨Atq P t x lo hi mx⟩
 | .fieldAddr t x f=>⟨pO (Att P t f) x⟩
 | .field t x f=>⟨Atr (Atu P t f) x⟩
 | .indexAddr t x y=>⟨pP (Zc P t) x y⟩
 | .index t x y=>⟨Ats P t x y⟩
 | .lookup t x y d=>⟨Aqj P t x y d⟩
 | .mapUpdate t x y e=>⟨Aqk P t x y e⟩
 | .extract x i=>⟨Afl x i⟩
 | .call c=>match c.callee with
  | .value f=>⟨A0f f c.args.toList⟩
  | .builtin b=>⟨Afm P b c.args.toList c.argTypes.toList⟩
  | _=>⟨Aqg⟩
 | _=>⟨Aqg⟩
def Pp:Op->Bool
 | .call c=>match c.callee with | .value _=>true | _=>false
 | _=>false
section
variable {P:Program} {o:Oper} {a:Act} {μ:Mu} {w:World} {s:HS} {n:Nat} {ρ:En}
theorem J4{o:HO}(hf:D1 μ s.nx (FT s o).nx):μ s.nx=none:=hf s.nx (Ar _) (EQ _)
theorem     gA {call :      B0} (hc : ∀ f l s x s', call f l s = some (x, s') -> Qt s s') {op : Op} {x : HV} {s' : HS} (h : ( A2 P op).run call ρ s = some (x, s')) : Qt s s' := by
  cases op <;> simp only [ A2] at h <;> try (cases h; done)
  case move x => obtain ⟨v, _, h⟩ := bind_some h; cases h; exact Qt.refl _
  case assign x => obtain ⟨v, _, h⟩ := bind_some h; cases h; exact Qt.refl _
  case pick c x y => obtain ⟨v, _, h⟩ := bind_some h; obtain ⟨t, _, h⟩ :=       Ph h; obtain ⟨v, _, h⟩ := bind_some h; cases h; exact Qt.refl _
  case alloc t => obtain ⟨z, _, h⟩ := bind_some h; cases h; exact Qt.new _ _
  case box t x => obtain ⟨y, _, h⟩ := bind_some h; obtain ⟨z, _, h⟩ := bind_some h; cases h; exact Qt.new _ _
  case build t ps => obtain ⟨v, _, h⟩ := bind_some h; cases h; exact Qt.refl _
  case buildSlice t m ps => obtain ⟨v, _, h⟩ := bind_some h; cases h; exact Qt.new _ _
  case load t x => obtain ⟨v, _, h⟩ := bind_some h; obtain ⟨b, off, _, h⟩ :=       GD h; obtain ⟨cs, _, h⟩ :=       DH h; obtain ⟨q, _, h⟩ := bind_some h; obtain ⟨q, _, h⟩ := bind_some h; cases h; exact Qt.refl _
  case store t x y => obtain ⟨v, _, h⟩ := bind_some h; obtain ⟨b, off, _, h⟩ :=       GD h; obtain ⟨cs, hb, h⟩ :=       DH h; obtain ⟨q, _, h⟩ := bind_some h; obtain ⟨q, _, h⟩ := bind_some h; obtain ⟨q, _, h⟩ := bind_some h; obtain ⟨q, _, h⟩ := bind_some h; cases h; exact Qt.turn hb
  case nilCheck x => obtain ⟨v, _, h⟩ := bind_some h; obtain ⟨_, h⟩ :=         A9 h; cases h; exact Qt.refl _
  case binOp op t x y t' => obtain ⟨v, _, h⟩ := bind_some h; obtain ⟨v, _, h⟩ := bind_some h; obtain ⟨v, _, h⟩ := bind_some h; cases h; exact Qt.refl _
  case unOp op t x => obtain ⟨v, _, h⟩ := bind_some h; obtain ⟨v, _, h⟩ := bind_some h; cases h; exact Qt.refl _
  case convert src dst x => obtain ⟨v, _, h⟩ := bind_some h; obtain ⟨v, _, h⟩ := bind_some h; cases h; exact Qt.refl _
  case makeFunc f xs ys => cases f <;> simp only at h <;> try (cases h; done)
                           obtain ⟨v, _, h⟩ := bind_some h; obtain ⟨v, _, h⟩ := bind_some h; cases h; exact Qt.refl _
  case makeMap t r =>
    cases r with
    | none => cases h; exact Qt.new _ _
    | some r => cases h
  case range t x => obtain ⟨v, _, h⟩ := bind_some h; obtain ⟨v, _, h⟩ := bind_some h; cases h; exact Qt.new _ _
  case next x b =>
    cases b with
    | false => cases h
    | true =>
      obtain ⟨v, _, h⟩ := bind_some h; obtain ⟨b, off, _, h⟩ :=       GD h; obtain ⟨_, h⟩ :=         A9 h; obtain ⟨str, pos, hb, h⟩ :=        XR h
      unfold    fT at h
      cases hc :      Jd pos str.size <;> rw [hc] at h <;> cases h
      · exact Qt.refl _
      · exact Qt.turn hb
  case makeSlice t x y =>
    obtain ⟨v, _, h⟩ := bind_some h; obtain ⟨_, l, _, h⟩ :=       GE h; obtain ⟨v, _, h⟩ := bind_some h; obtain ⟨_, c, _, h⟩ :=       GE h
    obtain ⟨q, _, h⟩ := bind_some h; obtain ⟨_, h⟩ :=         A9 h; obtain ⟨z, _, h⟩ := bind_some h; obtain ⟨_, h⟩ :=         A9 h; cases h; exact Qt.new _ _
  case slice t x lo hi mx => obtain ⟨v, _, h⟩ := bind_some h; obtain ⟨v, _, h⟩ := bind_some h; cases h; exact Qt.refl _
  case fieldAddr t x f => obtain ⟨v, _, h⟩ := bind_some h; obtain ⟨b, off, _, h⟩ :=       GD h; obtain ⟨q, _, h⟩ := bind_some h; cases h; exact Qt.refl _
  case field t x f => obtain ⟨v, _, h⟩ := bind_some h; obtain ⟨cs, _, h⟩ :=       ZY h; obtain ⟨q, _, h⟩ := bind_some h; obtain ⟨q, _, h⟩ := bind_some h; cases h; exact Qt.refl _
  case indexAddr t x y => obtain ⟨v, _, h⟩ := bind_some h; obtain ⟨_, _, _, _, _, h⟩ :=       ZZ h; obtain ⟨q, _, h⟩ := bind_some h; obtain ⟨_, c, _, h⟩ :=       GE h; obtain ⟨q, _, h⟩ := bind_some h; obtain ⟨_, h⟩ :=         A9 h; cases h; exact Qt.refl _
  case index t x y => obtain ⟨q, _, h⟩ := bind_some h; obtain ⟨q, _, h⟩ := bind_some h; obtain ⟨_, c, _, h⟩ :=       GE h; obtain ⟨q, _, h⟩ := bind_some h; cases h; exact Qt.refl _
  case lookup t x y cm => obtain ⟨q, _, h⟩ := bind_some h; obtain ⟨q, _, h⟩ := bind_some h; obtain ⟨q, _, h⟩ := bind_some h; cases h; exact Qt.refl _
  case mapUpdate t x y y' =>
    obtain ⟨q, _, h⟩ := bind_some h; obtain ⟨q, _, h⟩ := bind_some h; obtain ⟨q, _, h⟩ := bind_some h
    obtain ⟨q, _, h⟩ := bind_some h; obtain ⟨_, h⟩ :=         A9 h
    split at h
    · obtain ⟨es, ha, h⟩ :=       Pi h
      obtain ⟨r, _, h⟩ := bind_some h
      split at h <;> cases h <;> exact Qt.turn ha
    · cases h
  case extract x i => obtain ⟨v, _, h⟩ := bind_some h; obtain ⟨t, _, h⟩ :=       ZX h; obtain ⟨v, _, h⟩ := bind_some h; cases h; exact Qt.refl _
  case call c =>
    split at h
    · obtain ⟨v, _, h⟩ := bind_some h; obtain ⟨v, _, h⟩ := bind_some h; exact hc _ _ _ _ _ h
    · obtain ⟨v, _, h⟩ := bind_some h; exact         pN h
    · cases h
theorem    Atv {call :      B0} (H : HR μ s.h w) (F : FR μ n ρ a.tmps) {x : HV} {s' : HS} (hf :   D1 μ s.nx s'.nx) (hnc :     Pp o.op = false) (h : ( A2 P o.op).run call ρ s = some (x, s')) :    DE P o a μ w s s' x := by
  cases hop : o.op <;> rw [hop] at h hnc <;> simp only [ A2] at h <;> try (cases h; done)
  case move x => obtain ⟨v, hv, h⟩ := bind_some h; cases h; exact         T5 H F (.inl hop) hv
  case assign x => obtain ⟨v, hv, h⟩ := bind_some h; cases h; exact         T5 H F (.inr hop) hv
  case pick c x y => obtain ⟨v, hv, h⟩ := bind_some h; obtain ⟨t, rfl, h⟩ :=       Ph h; obtain ⟨v, hz, h⟩ := bind_some h; cases h; exact         pE H F hop hv hz
  case alloc t => obtain ⟨z, hz, h⟩ := bind_some h; cases h; exact          fL H hop hz (      J4 hf)
  case box t x => obtain ⟨y, hy, h⟩ := bind_some h; obtain ⟨z, hz, h⟩ := bind_some h; cases h; exact        vS H F hop hy hz (      J4 hf)
  case build t ps => obtain ⟨v, hv, h⟩ := bind_some h; cases h; exact          fO H F hop hv
  case buildSlice t m ps => obtain ⟨v, hv, h⟩ := bind_some h; cases h; exact               R1 H F hop hv (      J4 hf)
  case load t x => obtain ⟨v, hv, h⟩ := bind_some h; obtain ⟨b, off, rfl, h⟩ :=       GD h; obtain ⟨cs, hb, h⟩ :=       DH h; obtain ⟨⟨k, one⟩, hq, h⟩ := bind_some h; obtain ⟨q, ht, h⟩ := bind_some h; rw [      Pg] at ht; cases h; exact         pG H F hop hv hq hb ht
  case store t x y => obtain ⟨v, hv, h⟩ := bind_some h; obtain ⟨b, off, rfl, h⟩ :=       GD h; obtain ⟨cs, hb, h⟩ :=       DH h; obtain ⟨⟨k, one⟩, hq, h⟩ := bind_some h; obtain ⟨z, hz, h⟩ := bind_some h; obtain ⟨ys, hys, h⟩ := bind_some h; obtain ⟨cs', hl, h⟩ := bind_some h; rw [     O2] at hl; cases h; exact          fP H F hop hv hz hq hb (       XT hys) hl
  case nilCheck x => obtain ⟨v, hv, h⟩ := bind_some h; obtain ⟨ho, h⟩ :=         A9 h; cases h; exact             TT H F hop hv ho
  case binOp op t x y t' => obtain ⟨p, hp, h⟩ := bind_some h; obtain ⟨q, hq, h⟩ := bind_some h; obtain ⟨v, hv, h⟩ := bind_some h; cases h; exact        vU H F hop hp hq hv
  case unOp op t x => obtain ⟨p, hp, h⟩ := bind_some h; obtain ⟨v, hv, h⟩ := bind_some h; cases h; exact      Afj H F hop hp hv
  case convert src dst x => obtain ⟨p, hp, h⟩ := bind_some h; obtain ⟨v, hv, h⟩ := bind_some h; cases h; exact             TV H F hop hp hv
  case makeFunc f xs ys => cases f <;> simp only at h <;> try (cases h; done)
                           obtain ⟨fs, h1, h⟩ := bind_some h; obtain ⟨cs, h2, h⟩ := bind_some h; cases h; exact             TU H F hop h1 h2
  case makeMap t r =>
    cases r with
    | none => cases h; exact            XY H hop (      J4 hf)
    | some r => cases h
  case range t x => obtain ⟨v, hv, h⟩ := bind_some h; obtain ⟨str, hs, h⟩ := bind_some h; cases h; exact          fS H F hop hv hs (      J4 hf)
  case next x b =>
    cases b with
    | false => cases h
    | true =>
      obtain ⟨v, hv, k1⟩ := bind_some h
      obtain ⟨b, off, e, k2⟩ :=       GD k1
      obtain ⟨h0, k3⟩ :=         A9 k2
      obtain ⟨str, pos, hb, k4⟩ :=        XR k3
      have :=                    Aj h0
      subst this
      subst e
      exact         pH H F hop hv hb k4
  case makeSlice t x y =>
    obtain ⟨v, hv, h⟩ := bind_some h; obtain ⟨_, l, rfl, h⟩ :=       GE h; obtain ⟨v, hv', h⟩ := bind_some h; obtain ⟨_, c, rfl, h⟩ :=       GE h
    have hμ : μ s.nx = none := by
      have h' := h
      obtain ⟨q, _, h'⟩ := bind_some h'; obtain ⟨_, h'⟩ :=         A9 h'; obtain ⟨z, _, h'⟩ := bind_some h'; obtain ⟨_, h'⟩ :=         A9 h'; cases h'
      exact       J4 hf
    exact         pK H hμ F hop hv hv' h
  case slice t x lo hi mx => obtain ⟨p, hp, h⟩ := bind_some h; obtain ⟨v, hv, h⟩ := bind_some h; cases h; exact          fW H F hop hp hv
  case fieldAddr t x f =>
    obtain ⟨v, hv, h⟩ := bind_some h; obtain ⟨b, off, rfl, h⟩ :=       GD h; obtain ⟨q, hq, h⟩ := bind_some h
    cases h
    obtain ⟨⟨fo, tf⟩, hf, hq⟩ := bind_some hq; obtain ⟨⟨k, one⟩, hz, hq⟩ := bind_some hq
    cases hk :      Au k 0
    · rw [hk] at hq; cases hq; exact              S9 H F hop hv hf hz hk
    · rw [hk] at hq; cases hq
  case field t x f =>
    obtain ⟨v, hv, h⟩ := bind_some h; obtain ⟨cs, rfl, h⟩ :=       ZY h; obtain ⟨q, hq, h⟩ := bind_some h; obtain ⟨y, hy, h⟩ := bind_some h
    cases h
    obtain ⟨⟨fo, tf⟩, hf, hq⟩ := bind_some hq; obtain ⟨⟨k, one⟩, hz, hq⟩ := bind_some hq
    cases hq
    rw [      Pg] at hy
    exact          fQ H F hop hv hf hz hy
  case indexAddr t x y =>
    obtain ⟨v, hv, h⟩ := bind_some h; obtain ⟨b, off, len, cap, rfl, h⟩ :=       ZZ h; obtain ⟨i, hi, h⟩ := bind_some h; obtain ⟨_, j, rfl, h⟩ :=       GE h; obtain ⟨⟨e, k, b⟩, he, h⟩ := bind_some h; obtain ⟨hj, h⟩ :=         A9 h; cases h; exact              SA H F hop hv hi he hj
  case index t x y => obtain ⟨p, hp, h⟩ := bind_some h; obtain ⟨i, hi, h⟩ := bind_some h; obtain ⟨_, j, rfl, h⟩ :=       GE h; obtain ⟨v, hv, h⟩ := bind_some h; cases h; exact          fY H F hop hp hi hv
  case lookup t x y cm => obtain ⟨p, hp, h⟩ := bind_some h; obtain ⟨k, hk, h⟩ := bind_some h; obtain ⟨v, hv, h⟩ := bind_some h; cases h; exact           Zd H F hop hp hk hv
  case mapUpdate t x y y' => obtain ⟨p, hp, h⟩ := bind_some h; obtain ⟨k, hk, h⟩ := bind_some h; obtain ⟨v, hv, h⟩ := bind_some h; exact           Ze H F hop hp hk hv h
  case extract x i => obtain ⟨v, hv, h⟩ := bind_some h; obtain ⟨cs, rfl, h⟩ :=       ZX h; obtain ⟨v, hi, h⟩ := bind_some h; rw [     XO] at hi; cases h; exact            XW H F hop hv hi
  case call c =>
    split at h
    · rename_i f hcal
      simp only [    Pp, hcal] at hnc
      cases hnc
    · rename_i b hcal
      obtain ⟨vs, hvs, h⟩ := bind_some h
      obtain ⟨e1, e2⟩ :=       Pj F hvs
      obtain ⟨m, hm, v, μ', w', hrun, g1, g2, g3⟩ :=         pM (ty := o.type) H hf e1 e2 h
      refine ⟨v, μ', w', .inl ?_, g1, g2, g3⟩
      simp only [execOp, hop, resolve, hcal,           Am,           Ap,                Aa, invoke, hm, hrun]
    · cases h
end
end
noncomputable section
def BN(n:Nat)(l:List Nat):Bool:=BG (motive:=fun _=>Bool) false (fun m _ a=>GI (motive:=fun _=>Bool) a true (Au m n)) l
def Qd(n:Nat)(d:Option Nat):Bool:=GQ (motive:=fun _=>Bool) true (fun d=>Jd d n) d
def K8(ρ:En)(d:Option Nat)(v:HV):En:=GQ (motive:=fun _=>En) ρ (fun d=>ρ.set d v) d
def Pq(ops:Array Oper)(g:Option (Nat × Bool)):Option (Nat × Bool) :=
 match g with
 | none=>none
 | some (j,b)=>match ops[j]? with
  | some o=>match o.dst with
   | some t=>some (t,b)
   | none=>none
  | none=>none
def O3(ρ:En)(ops:Array Oper)(g:Option (Nat × Bool)):Option Bool :=
 match g with
 | none=>some true
 | some _=>bO (Pq ops g) fun q=>match ρ.get q.1 with
  | some (.b x)=>some (x==q.2)
  | some .u=>some false
  | _=>none
structure MO where
 run:En->HS->Option (En × HS)
section
variable(k:KC)(call:B0)(d:Option Nat)
def gB(ρ:En)(s:HS):Option (En × HS):=bO (k.run call ρ s) fun r=>some (K8 ρ d r.1,r.2)
def A0g(ops:Array Oper)(g:Option (Nat × Bool))(ρ:En)(s:HS):Option (En × HS) :=
 bO (O3 ρ ops g) fun b=>Dh b (gB k call d ρ s) (some (K8 ρ d .u,s))
end
def Dz(P:Program)(call:B0)(n:Nat)(ops:Array Oper)(o:Oper):MO :=
 Dh (Qd n o.dst) (match o.guard with | none=>⟨gB (A2 P o.op) call o.dst⟩ | some q=>⟨A0g (A2 P o.op) call o.dst ops (some q)⟩) ⟨fun _ _=>none⟩
def Aql(a b:MO)(ρ:En)(s:HS):Option (En × HS):=bO (a.run ρ s) fun r=>b.run r.1 r.2
def Cx(P:Program)(call:B0)(n:Nat)(ops:Array Oper)(l:List Oper):MO :=
 BG (motive:=fun _=>MO) ⟨fun ρ s=>some (ρ,s)⟩ (fun o _ a=>⟨Aql (Dz P call n ops o) a⟩) l
structure Rec where
 d:Option Nat
 v:HV
 ks:List Nat
 h:Tr HO
 vis:Option (List Nat)
 tm:List Nat
def Uu(x:List Operand):List Nat :=
 match x with
 | []=>[]
 | .tmp t::l=>t::Uu l
 | _::l=>Uu l
def Mx(ops:Array Oper)(o:Oper):List Nat :=
 match Pq ops o.guard with
 | some q=>q.1::Uu o.op.operands.toList
 | none=>Uu o.op.operands.toList
def idOf(v:Option HV):List Nat :=
 match v with
 | some (.p a _)=>[a]
 | some (.s a _ _ _)=>[a]
 | some (.m a)=>[a]
 | _=>[]
def A0h(ρ:En)(l:List Operand):List Nat:=BG (motive:=fun _=>List Nat) [] (fun x _ a=>idOf (CU ρ x)++a) l
def R5(h:Tr HO)(r:Rec):Tr HO:=BG (motive:=fun _=>Tr HO->Tr HO) (fun h=>h) (fun a _ b h=>b (h.set a (r.h.get a))) r.ks h
def wE(h:Tr HO)(r:Rec):Tr HO:=BG (motive:=fun _=>Tr HO->Tr HO) (fun h=>h) (fun a _ b h=>b (h.set a none)) r.ks h
section
variable(anc:List Nat)(i:Nat)(b:List Rec)(h:Tr HO)
def Uv:Tr HO :=
 BG (motive:=fun _=>Nat->Tr HO->Tr HO) (fun _ h=>h) (fun r _ a i h=>a (Ki i) (Dh (BN i anc) (R5 h r) h)) b i h
def Uw:Tr HO :=
 BG (motive:=fun _=>Nat->Tr HO->Tr HO) (fun _ h=>h) (fun r _ a i h=>a (Ki i) (Dh (BN i anc) h (wE h r))) b i h
end
def Is(anc:List Nat)(h0:Tr HO)(a:List Rec):Tr HO:=Uw anc 0 a (Uv anc 0 a h0)
def Yd(h:Tr HO)(l:List Nat):Tr HO:=BG (motive:=fun _=>Tr HO) .e (fun a _ b=>b.set a (h.get a)) l
def gC(ρ:En)(l:List Nat):List (Nat × HV):=BG (motive:=fun _=>List (Nat × HV)) [] (fun t _ a=>GQ (motive:=fun _=>List (Nat × HV)) a (fun x=>(t,x)::a) (ρ.get t)) l
def SG(ρ:En)(l:List Nat):En:=⟨gC ρ l,.e,0⟩
def gD(d:Option Nat)(l:List Nat):Bool:=match d with | some t=>BN t l | none=>false
def pQ(d a:Option Nat):Bool:=match d,a with | some t,some t'=>Au t t' | _,_=>false
def Aaa(lg l:List Nat):Bool:=BG (motive:=fun _=>Bool) true (fun a _ b=>Dh (BN a l) false b) lg
def Pr(r r':Rec)(lg:List Nat):Bool :=
 !gD r.d r'.tm && !gD r'.d r.tm && !pQ r.d r'.d&&(match r.vis with | none=>lg.isEmpty | some l=>Aaa lg l)
def LC(anc:List Nat)(i:Nat)(a:List Rec)(r':Rec)(lg:List Nat):Bool :=
 BG (motive:=fun _=>Nat->Bool) (fun _=>true) (fun r _ b i=>Dh (BN i anc || Pr r r' lg) (b (Ki i)) false) a i
def It(ρ:En)(o:Oper):Option (List Nat):=Dh (Pp o.op) none (some (A0h ρ o.op.operands.toList))
def ML(h:Tr HO)(vis:Option (List Nat)):Tr HO:=match vis with | none=>h | some l=>Yd h l
def gE(P:Program)(call:B0)(ops:Array Oper)(ρ:En)(h0:Tr HO)(nx:Nat)(a:List Rec)(anc:List Nat)(o:Oper):Option (Rec × Nat × List Nat) :=
 bO (O3 ρ ops o.guard) fun b=>Dh b
  (bO ((A2 P o.op).run call (SG ρ (Mx ops o)) ⟨ML (Is anc h0 a) (It ρ o),nx,[]⟩) fun r =>
    some (⟨o.dst,r.1,r.2.lg++TH nx (r.2.nx-nx),r.2.h,It ρ o,Mx ops o⟩,r.2.nx,r.2.lg))
  (some (⟨o.dst,.u,[],.e,some [],Mx ops o⟩,nx,[]))
def Ps(a:List Rec)(h:Tr HO):Tr HO:=BG (motive:=fun _=>Tr HO->Tr HO) (fun h=>h) (fun r _ b h=>b (R5 h r)) a h
def evD(P:Program)(call:B0)(n:Nat)(ops:Array Oper)(h0:Tr HO)(b:List Nat):List Oper->List (List Nat)->En->Nat->List Nat->List Rec->Option (En × HS)
 | [],_,ρ,nx,lg,a=>some (ρ,⟨Ps a h0,nx,lg++b⟩)
 | o::l,anc::ancs,ρ,nx,lg,a=>bO (gE P call ops ρ h0 nx a anc o) fun r =>
   BV (Qd n o.dst&&LC anc 0 a r.1 r.2.2) <| evD P call n ops h0 b l ancs (K8 ρ o.dst r.1.v) r.2.1 (r.2.2++lg) (a++[r.1])
 | _::_,[],_,_,_,_=>none
section
variable(P:Program)(call:B0)(n:Nat)(ops:Array Oper)
def Ux(ρ:En)(s:HS):Option (En × HS) :=
 BV (OG ops.toList) (evD P call n ops s.h s.lg ops.toList (Gl ops.toList []) ρ s.nx [] [])
def evR(a:Bool):MO:=Dh a ⟨Ux P call n ops⟩ (Cx P call n ops ops.toList)
end
abbrev RC:=Option (Ex × En × HS)
structure MC where
 run:En->HS->RC
def SI(r:RC)(k:En->HS->RC):RC:=bO r fun q=>Ex.rec (motive:=fun _=>RC) (k q.2.1 q.2.2) (fun _=>some q) (some q) q.1
def Pt(id:Nat)(r:RC):RC:=bO r fun q=>Ex.rec (motive:=fun _=>RC) (some q) (fun i=>Dh (Au i id) (some (.norm,q.2)) (some q)) (some q) q.1
def asL{α:Type}(o:Option HO)(k:En->Nat->List Nat->Code->Code->LoopState->Option Code->Option α):Option α:=match o with | some (.l ρ n ps asx bd st j)=>k ρ n ps asx bd st j | _=>none
def Atw:Option Code->Option Ex
 | none=>some .norm
 | some .ret=>some .ret
 | some (.exit id)=>some (.exit id)
 | _=>none
def I8:Ex->Option Code
 | .norm=>none
 | .ret=>some .ret
 | .exit id=>some (.exit id)
def Aqm(m:MO)(ρ:En)(s:HS):RC:=bO (m.run ρ s) fun r=>some (.norm,r.1.flush,r.2)
def cSeq(a b:MC)(ρ:En)(s:HS):RC:=SI (a.run ρ s) b.run
def wF(x:Operand)(a b:MC)(ρ:En)(s:HS):RC:=bO (CU ρ x) fun v=>asB v fun t=>(Dh t a b).run ρ s
def Atx(id:Nat)(a:MC)(ρ:En)(s:HS):RC:=Pt id (a.run ρ s)
def Qe(f:Nat)(a:MC):En->HS->RC:=Nu (motive:=fun _=>En->HS->RC) (fun _ _=>none) (fun _ b ρ s=>SI (a.run ρ s) b) f
def Aqn:LoopState->Bool
 | .busy=>false
 | _=>true
def isFn(v:HV):Bool:=match v with | .f _ _ _=>true | _=>false
def gF(call:B0)(n:Nat)(f:Operand)(ps:List Nat)(asx bd:Code)(ρ:En)(s:HS):RC :=
 bO (CU ρ f) fun fv=>BV (isFn fv) <| bO (call fv [.y s.nx] (FT s (.l ρ n ps asx bd .ready none))) fun r =>
   asL (r.2.h.get s.nx) fun ρ1 a b c d st j=>BV (Aqn st) <| bO (Atw j) fun ex=>some (ex,ρ,H2 r.2 s.nx (.l ρ1 a b c d .exhausted j))
def B1(P:Program)(call:B0)(n:Nat)(rd:Bool)(d:Nat)(c:Code):MC :=
 Code.rec (motive:=fun _=>MC) ⟨fun ρ s=>some (.norm,ρ,s)⟩ (fun _ ops e=>⟨Aqm (evR P call n ops e)⟩) (fun _ _ a b=>⟨cSeq a b⟩) (fun x _ _ a b=>⟨wF x a b⟩) (fun id _ a=>⟨Atx id a⟩) (fun _ a=>⟨Qe d a⟩)
  (fun f ps asx bd _ _=>Dh rd ⟨fun _ _=>none⟩ ⟨gF call n f ps.toList asx bd⟩) (fun id=>⟨fun ρ s=>some (.exit id,ρ,s)⟩) (fun _ a=>a) (fun _=>⟨fun ρ s=>some (.norm,ρ,s)⟩) (fun _=>⟨fun _ _=>none⟩) ⟨fun ρ s=>some (.ret,ρ,s)⟩ (fun _=>⟨fun _ _=>none⟩) c
def SJ:List HV->Nat->List (Nat × HV)->List (Nat × HV)
 | [],_,l=>l
 | x::xs,i,l=>SJ xs (Ki i) ((i,x)::l)
def R6(P:Program)(ρ:En)(s:HS):List ResultVar->Option (List HV)
 | []=>some []
 | .tmp t::l=>bO (ρ.get t) fun v=>bO (R6 P ρ s l) fun vs=>some (v::vs)
 | .cell t a::l=>bO (ρ.get t) fun v=>vQ v fun b off=>XQ (s.h.get b) fun cs=>bO (R0 P a) fun q=>bO (S7 cs off q.1 q.2) fun v=>bO (R6 P ρ s l) fun vs=>some (v::vs)
def pR(l:List HV):HV:=match l with | [x]=>x | l => .t l
def Ye:List Nat->List HV->Nat->En->Option En
 | [],[],_,ρ=>some ρ
 | p::ps,x::xs,n,ρ=>BV (Jd p n) (Ye ps xs n (ρ.set p x))
 | _,_,_,_=>none
def O4(f:Func):Bool := !(f.name == "runtime.NumGoroutine")
def Aab(e:Ex):Bool:=Ex.rec (motive:=fun _=>Bool) true (fun _=>false) true e
def A0i(e:Ex):Bool:=Ex.rec (motive:=fun _=>Bool) true (fun _=>false) false e
def R7:LoopState->Option Code->Bool
 | .ready,none=>true
 | _,_=>false
structure MF where
 run:List HV->HS->RH
section
variable(P:Program)
def Axu(n ms:Nat)(res:List ResultVar)(c:MC)(l:List HV)(s:HS):RH :=
 BV (CM (pA l) n) <| bO (c.run (En.flush ⟨SJ l 0 [],.e,ms⟩) s) fun r=>BV (Aab r.1) <| bO (R6 P r.2.1 r.2.2 res) fun vs=>some (pR vs,r.2.2)
def aC(call:B0)(a:Nat)(mk:Nat->Nat)(fn:Nat):MF :=
 match P.funcs[fn]? with
 | some F=>match F.body with
  | some c=>Dh (O4 F) ⟨Axu P F.ntmps (mk fn) F.results.toList (B1 P call F.ntmps false a c)⟩ ⟨fun _ _=>none⟩
  | none=>⟨fun _ _=>none⟩
 | none=>⟨fun _ _=>none⟩
def R8(call:B0)(a b:Nat)(args:List HV)(s:HS):RH :=
 asL (s.h.get b) fun ρ n ps asx bd st j=>BV (R7 st j) <| bO (Ye ps args n ρ) fun ρ' =>
   bO ((B1 P call n true a asx).run ρ' s) fun r=>BV (A0i r.1) <|
    asL (r.2.2.h.get b) fun ρ1 g i k m Px o=>BV (R7 Px o) <|
     bO ((B1 P call n true a bd).run r.2.1 (H2 r.2.2 b (.l ρ1 g i k m .busy none))) fun q =>
      asL (q.2.2.h.get b) fun ρ2 p t u v _ _=>some (.b (I8 q.1).isNone,H2 q.2.2 b (.l ρ2 p t u v (match q.1 with | .norm => .ready | _ => .done) (I8 q.1)))
def SK(call:B0)(a:Nat)(mk:Nat->Nat)(fv:HV)(args:List HV)(s:HS):RH :=
 match fv with
 | .f fn fs cs=>(aC P call a mk fn).run (fs++args++cs) s
 | .y b=>R8 P call a b args s
 | _=>none
def Ia(a:Nat)(mk:Nat->Nat)(d:Nat):B0 :=
 Nu (motive:=fun _=>B0) (fun _ _ _=>none) (fun _ w fv args s=>SK P w a mk fv args s) d
end
end
noncomputable section
section
variable {P:Program} {call:B0} {n:Nat} {ops:Array Oper} {ρ ρ':En} {s s':HS}
def QC(call:B0):Prop:=∀ f l s x s',call f l s=some (x,s')->Qt s s'
theorem Afn(ρ:En)(d:Option Nat)(v:HV)(t:Nat):(K8 ρ d v).get t=if d=some t then some v else ρ.get t:=by
 cases d with
 | none=>rw[Ak (by simp)];rfl
 | some d =>
  show (ρ.set d v).get t=_;rw[oZ];by_cases h:t=d
  ·rw[Af h,Af (by rw[h])]
  ·rw[Ak h,Ak fun e=>h (AM e).symm]
theorem Yf{o:Oper}(h:(Dz P call n ops o).run ρ s=some (ρ',s')):Qd n o.dst=true/\∃ b,O3 ρ ops o.guard=some b /\
  ((b=true/\∃ x,(A2 P o.op).run call ρ s=some (x,s')/\ρ'=K8 ρ o.dst x)\/(b=false/\s'=s/\ρ'=K8 ρ o.dst .u)):=by
 unfold Dz at h;cases hd:Qd n o.dst
 ·rw[hd] at h;cases h
 ·rw[hd] at h;refine⟨rfl,?_⟩;simp only[cnd_true] at h;have plain:gB (A2 P o.op) call o.dst ρ s=some (ρ',s')->∃ x,(A2 P o.op).run call ρ s=some (x,s')/\ρ'=K8 ρ o.dst x:=by
   intro h;obtain⟨⟨x,c⟩,h1,h⟩:=BB h;cases h;exact⟨x,h1,rfl⟩
  cases a:o.guard with
  | none =>
   rw[a] at h;exact⟨true,rfl,.inl ⟨rfl,plain h⟩⟩
  | some q =>
   rw[a] at h;obtain⟨b,hb,h⟩:=BB h;refine⟨b,hb,?_⟩;cases b
   ·simp only[cnd_false] at h;cases h;exact .inr ⟨rfl,rfl,rfl⟩
   ·exact .inl ⟨rfl,plain h⟩
theorem pS(hc:QC call){o:Oper}(h:(Dz P call n ops o).run ρ s=some (ρ',s')):Qt s s':=by
 obtain⟨_,b,_,⟨_,x,h1,_⟩ | ⟨_,rfl,_⟩⟩:=Yf h
 ·exact gA hc h1
 ·exact Qt.refl _
theorem T7{o:Oper}{l:List Oper}(h:(Cx P call n ops (o::l)).run ρ s=some (ρ',s')):∃ ρ1 a,(Dz P call n ops o).run ρ s=some (ρ1,a)/\(Cx P call n ops l).run ρ1 a=some (ρ',s'):=by
 have h:Aql (Dz P call n ops o) (Cx P call n ops l) ρ s=some (ρ',s'):=h;obtain⟨⟨ρ1,a⟩,h1,h2⟩:=BB h;exact⟨ρ1,a,h1,h2⟩
theorem SL(hc:QC call):∀ {l:List Oper} {ρ:En} {s:HS},(Cx P call n ops l).run ρ s=some (ρ',s')->Qt s s'
 | [],ρ,s,h=>by cases h;exact Qt.refl _
 | o::l,ρ,s,h=>by
  obtain⟨ρ1,a,h1,h2⟩:=T7 h;exact (pS hc h1).trans (SL hc h2)
theorem Fv{a:Nat}:∀ {l:List Nat},BN a l=true↔a∈l
 | []=>⟨fun h=>(by cases h),fun h=>(by cases h)⟩
 | b::l=>by
  have e:BN a (b::l)=Dh (Au b a) true (BN a l):=rfl;rw[e,Aw];cases h:Au b a
  ·rw[cnd_false,Fv];constructor
   ·exact .inr
   ·rintro (rfl | c)
    ·rw[DM] at h;cases h
    ·exact c
  ·exact⟨fun _ => .inl (Aj h).symm,fun _=>rfl⟩
theorem T8(r:Rec)(a:Nat):∀ (h:Tr HO),(R5 h r).get a=if BN a r.ks then r.h.get a else h.get a:=by
 have f:∀ (l:List Nat) (h:Tr HO),(BG (motive:=fun _=>Tr HO->Tr HO) (fun h=>h) (fun a _ d h=>d (h.set a (r.h.get a))) l h:Tr HO).get a=if BN a l then r.h.get a else h.get a:=by
  intro l;induction l with
  | nil=>intro h;rfl
  | cons b l d =>
   intro h;have e:BN a (b::l)=Dh (Au b a) true (BN a l):=rfl;rw[e];refine (d (h.set b (r.h.get b))).trans ?_;rw[Cf];cases hb:Au b a
   ·rw[cnd_false];by_cases c:BN a l=true
    ·rw[Af c,Af c]
    ·rw[Ak c,Ak c,Ak fun e=>by rw[e,DM] at hb;cases hb]
   ·have:=Aj hb;subst this;rw[cnd_true,Af rfl,Af rfl,ite_self]
 exact fun h=>f r.ks h
theorem wG(r:Rec)(a:Nat):∀ (h:Tr HO),(wE h r).get a=if BN a r.ks then none else h.get a:=by
 have f:∀ (l:List Nat) (h:Tr HO),(BG (motive:=fun _=>Tr HO->Tr HO) (fun h=>h) (fun a _ d h=>d (h.set a none)) l h:Tr HO).get a=if BN a l then none else h.get a:=by
  intro l;induction l with
  | nil=>intro h;rfl
  | cons b l d =>
   intro h;have e:BN a (b::l)=Dh (Au b a) true (BN a l):=rfl;rw[e];refine (d (h.set b none)).trans ?_;rw[Cf];cases hb:Au b a
   ·rw[cnd_false];by_cases c:BN a l=true
    ·rw[Af c,Af c]
    ·rw[Ak c,Ak c,Ak fun e=>by rw[e,DM] at hb;cases hb]
   ·have:=Aj hb;subst this;rw[cnd_true,Af rfl,Af rfl,ite_self]
 exact fun h=>f r.ks h
def Dd(D:Nat->Bool)(a:Nat):List Rec->Nat->Option HO->Option HO
 | [],_,b=>b
 | r::rs,i,b=>Dd D a rs (i+1) (if D i&&BN a r.ks then r.h.get a else b)
def HZ(D:Nat->Bool)(t:Nat):List Rec->Nat->Option HV->Option HV
 | [],_,b=>b
 | r::rs,i,b=>HZ D t rs (i+1) (if D i&&r.d==some t then some r.v else b)
def aD(anc:List Nat)(a:Nat):List Rec->Nat->Bool
 | [],_=>false
 | r::rs,i=>(!BN i anc&&BN a r.ks) || aD anc a rs (i+1)
theorem T9(anc:List Nat)(a:Nat):∀ (rs:List Rec) (i:Nat) (h:Tr HO),(Uv anc i rs h).get a=Dd (fun j=>BN j anc) a rs i (h.get a)
 | [],i,h=>rfl
 | r::rs,i,h=>by
  have e:Uv anc i (r::rs) h=Uv anc (i+1) rs (Dh (BN i anc) (R5 h r) h):=rfl;rw[e,T9 anc a rs (i+1)];simp only[Dd];congr 1;rcases Ah (BN i anc) with b | b
  ·simp only[b,cnd_true,T8,Yt]
  ·simp[b]
theorem TA(anc:List Nat)(a:Nat):∀ (rs:List Rec) (i:Nat) (h:Tr HO),(Uw anc i rs h).get a=if aD anc a rs i then none else h.get a
 | [],i,h=>rfl
 | r::rs,i,h=>by
  have e:Uw anc i (r::rs) h=Uw anc (i+1) rs (Dh (BN i anc) h (wE h r)):=rfl;rw[e,TA anc a rs (i+1)];simp only[aD];rcases Ah (BN i anc) with b | b
  ·simp[b]
  ·simp only[b,cnd_false,wG,Bool.not_false,Yt];rcases Ah (BN a r.ks) with h1 | h1 <;> simp[h1]
theorem K9(a:Nat):∀ (rs:List Rec) (i:Nat) (h:Tr HO),(Ps rs h).get a=Dd (fun _=>true) a rs i (h.get a)
 | [],i,h=>rfl
 | r::rs,i,h=>by
  have e:Ps (r::rs) h=Ps rs (R5 h r):=rfl;rw[e,K9 a rs (i+1)];simp only[Dd];congr 1;rw[T8];simp
theorem A0j(anc:List Nat)(h0:Tr HO)(rs:List Rec)(a:Nat):(Is anc h0 rs).get a=if aD anc a rs 0 then none else Dd (fun j=>BN j anc) a rs 0 (h0.get a):=by
 unfold Is;rw[TA,T9]
theorem wH{anc:List Nat}{a:Nat}:∀ {rs:List Rec} {i:Nat},aD anc a rs i=false->∀ j r,rs[j]? = some r->BN a r.ks=true->BN (i+j) anc=true
 | [],i,_,j,r,hr,_=>by simp at hr
 | r0::rs,i,h,j,r,hr,b=>by
  simp only[aD,aK,Bool.and_eq_false_iff,Bool.not_eq_false'] at h;cases j with
  | zero =>
   simp only[Cb,Ab] at hr;subst hr;rcases h.1 with h1 | h1
   ·exact h1
   ·rw[b] at h1;cases h1
  | succ j =>
   have:=wH h.2 j r (by simpa using hr) b;rwa [show i+1+j=i+(j+1) by omega] at this
theorem Jw{D c:Nat->Bool}{a:Nat}:∀ {rs:List Rec} {i:Nat} {b:Option HO},(∀ j r,rs[j]? = some r->BN a r.ks=true->D (i+j)=c (i+j))->Dd D a rs i b=Dd c a rs i b
 | [],i,b,_=>rfl
 | r::rs,i,b,h=>by
  simp only[Dd];have e:(if (D i&&BN a r.ks)=true then r.h.get a else b)=if (c i&&BN a r.ks)=true then r.h.get a else b:=by
   cases d:BN a r.ks
   ·simp
   ·have:=h 0 r rfl d;simp only[Bn] at this;rw[this]
  rw[e];exact Jw fun j r' hr d=>by
   have:=h (j+1) r' (by simpa using hr) d;rwa [show i+(j+1)=i+1+j by omega] at this
theorem IP{D:Nat->Bool}{a:Nat}:∀ {rs:List Rec} {i:Nat} {b:Option HO},(∀ j r,rs[j]? = some r->BN a r.ks=true->D (i+j)=false)->Dd D a rs i b=b
 | [],i,b,_=>rfl
 | r::rs,i,b,h=>by
  simp only[Dd];have e:(if (D i&&BN a r.ks)=true then r.h.get a else b)=b:=by
   cases c:BN a r.ks
   ·simp
   ·have:=h 0 r rfl c;simp only[Bn] at this;rw[this];simp
  rw[e];exact IP fun j r' hr c=>by
   have:=h (j+1) r' (by simpa using hr) c;rwa [show i+(j+1)=i+1+j by omega] at this
theorem TB{D:Nat->Bool}{a:Nat}:∀ {rs:List Rec} {i k:Nat} {r:Rec} {b:Option HO},rs[k]? = some r->D (i+k)=true->BN a r.ks=true->(∀ j r',k<j->rs[j]? = some r'->BN a r'.ks=true->D (i+j)=false)->Dd D a rs i b=r.h.get a
 | [],i,k,r,b,hr,_,_,_=>by simp at hr
 | r0::rs,i,k,r,b,hr,c,e,h=>by
  simp only[Dd];cases k with
  | zero =>
   simp only[Cb,Ab] at hr;subst hr;simp only[Bn] at c;rw[c,e];exact IP fun j r' hr d=>by
    have:=h (j+1) r' (by omega) (by simpa using hr) d;rwa [show i+(j+1)=i+1+j by omega] at this
  | succ k =>
   refine TB (k:=k) (by simpa using hr) (by rwa [show i+(k+1)=i+1+k by omega] at c) e fun j r' g f d => ?_;have:=h (j+1) r' (by omega) (by simpa using f) d;rwa [show i+(j+1)=i+1+j by omega] at this
theorem gG{D:Nat->Bool}{a:Nat}:∀ {rs:List Rec} {i:Nat} {b:Option HO},Dd D a rs i b=b\/∃ (k:Nat) (r:Rec),rs[k]? = some r/\D (i+k)=true/\BN a r.ks=true/\Dd D a rs i b=r.h.get a
 | [],i,b => .inl rfl
 | r::rs,i,b=>by
  simp only[Dd];rcases gG (D:=D) (a:=a) (rs:=rs) (i:=i+1) (b:=if (D i&&BN a r.ks)=true then r.h.get a else b) with h | ⟨k,r',h1,h2,c,d⟩
  ·rw[h];split
   next hc=>rw[U] at hc;exact .inr ⟨0,r,rfl,by simpa using hc.1,hc.2,rfl⟩
   ·exact .inl rfl
  ·exact .inr ⟨k+1,r',by simpa using h1,by rwa [show i+(k+1)=i+1+k by omega],c,d⟩
theorem pT{D:Nat->Bool}{a:Nat}:∀ {rs:List Rec} {i k:Nat} {b:Option HO},(∀ j r,k<=j->rs[j]? = some r->BN a r.ks=true->D (i+j)=false)->Dd D a (rs.take k) i b=Dd D a rs i b
 | [],i,k,b,_=>by simp
 | r::rs,i,0,b,h=>by
  rw[M8,IP (rs:=r::rs) fun j r' hr c=>h j r' (Cj _) hr c];rfl
 | r::rs,i,k+1,b,h=>by
  simp only[MW,Dd];exact pT fun j r' d hr c=>by
   have:=h (j+1) r' (by omega) (by simpa using hr) c;rwa [show i+(j+1)=i+1+j by omega] at this
theorem O5{D c:Nat->Bool}{t:Nat}:∀ {rs:List Rec} {i:Nat} {b:Option HV},(∀ j r,rs[j]? = some r->r.d=some t->D (i+j)=c (i+j))->HZ D t rs i b=HZ c t rs i b
 | [],i,b,_=>rfl
 | r::rs,i,b,h=>by
  simp only[HZ];have e:(if (D i&&r.d==some t)=true then some r.v else b)=if (c i&&r.d==some t)=true then some r.v else b:=by
   by_cases a:r.d=some t
   ·have:=h 0 r rfl a;simp only[Bn] at this;rw[this]
   ·have:(r.d==some t)=false:=by simpa using a
    rw[this];simp
  rw[e];exact O5 fun j r' hr a=>by
   have:=h (j+1) r' (by simpa using hr) a;rwa [show i+(j+1)=i+1+j by omega] at this
theorem My{D:Nat->Bool}{t:Nat}:∀ {rs:List Rec} {i:Nat} {b:Option HV},(∀ j r,rs[j]? = some r->r.d=some t->D (i+j)=false)->HZ D t rs i b=b
 | [],i,b,_=>rfl
 | r::rs,i,b,h=>by
  simp only[HZ];have e:(if (D i&&r.d==some t)=true then some r.v else b)=b:=by
   by_cases a:r.d=some t
   ·have:=h 0 r rfl a;simp only[Bn] at this;rw[this];simp
   ·have:(r.d==some t)=false:=by simpa using a
    rw[this];simp
  rw[e];exact My fun j r' hr a=>by
   have:=h (j+1) r' (by simpa using hr) a;rwa [show i+(j+1)=i+1+j by omega] at this
theorem Yg{D:Nat->Bool}{t:Nat}:∀ {rs:List Rec} {i k:Nat} {r:Rec} {b:Option HV},rs[k]? = some r->D (i+k)=true->r.d=some t->(∀ j r',k<j->rs[j]? = some r'->r'.d=some t->D (i+j)=false)->HZ D t rs i b=some r.v
 | [],i,k,r,b,hr,_,_,_=>by simp at hr
 | r0::rs,i,k,r,b,hr,a,e,h=>by
  simp only[HZ];cases k with
  | zero =>
   simp only[Cb,Ab] at hr;subst hr;simp only[Bn] at a;rw[a,e];simp only[BEq.rfl,DN,if_true];exact My fun j r' hr c=>by
    have:=h (j+1) r' (by omega) (by simpa using hr) c;rwa [show i+(j+1)=i+1+j by omega] at this
  | succ k =>
   refine Yg (k:=k) (by simpa using hr) (by rwa [show i+(k+1)=i+1+k by omega] at a) e fun j r' g f c => ?_;have:=h (j+1) r' (by omega) (by simpa using f) c;rwa [show i+(j+1)=i+1+j by omega] at this
theorem wI{D:Nat->Bool}{t:Nat}:∀ {rs:List Rec} {i k:Nat} {b:Option HV},(∀ j r,k<=j->rs[j]? = some r->r.d=some t->D (i+j)=false)->HZ D t (rs.take k) i b=HZ D t rs i b
 | [],i,k,b,_=>by simp
 | r::rs,i,0,b,h=>by
  rw[M8,My (rs:=r::rs) fun j r' hr a=>h j r' (Cj _) hr a];rfl
 | r::rs,i,k+1,b,h=>by
  simp only[MW,HZ];exact wI fun j r' c hr a=>by
   have:=h (j+1) r' (by omega) (by simpa using hr) a;rwa [show i+(j+1)=i+1+j by omega] at this
theorem gH{D:Nat->Bool}{t:Nat}(r:Rec):∀ {rs:List Rec} {i:Nat} {b:Option HV},HZ D t (rs++[r]) i b=if D (i+C rs)&&r.d==some t then some r.v else HZ D t rs i b
 | [],i,b=>by simp only[C',HZ,Ev,Bn]
 | r0::rs,i,b=>by
  simp only[LH,HZ,BF];rw[gH r,show i+1+C rs=i+(C rs+1) by omega]
end
end
noncomputable section
variable {P:Program} {call:B0} {n:Nat} {ops:Array Oper} {h0:Tr HO} {ancs:List (List Nat)} {ρ0:En}
structure DR (P:Program) (call:B0) (n:Nat) (ops:Array Oper) (h0:Tr HO) (ancs:List (List Nat)) (rs:List Rec) (ρs:Nat->En) (nxs:Nat->Nat) (lgs:Nat->List Nat) (k:Nat):Prop where
 len:rs.length=k
 op:∀ i,i<k->∃ o r,ops[i]? = some o/\rs[i]? = some r/\gE P call ops (ρs i) h0 (nxs i) (rs.take i) (ancs.getD i []) o=some (r,nxs (i+1),lgs i)/\Qd n o.dst=true /\
  LC (ancs.getD i []) 0 (rs.take i) r (lgs i)=true/\ρs (i+1)=K8 (ρs i) o.dst r.v
theorem Yh{B:List Nat}{ρ':En}{s':HS}:∀ (l:List Oper) (e:List (List Nat)) (k:Nat) (ρ:En) (nx:Nat) (lg:List Nat) (rs:List Rec) (ρs:Nat->En) (nxs:Nat->Nat) (lgs:Nat->List Nat),
  (∀ j,l[j]? = ops[k+j]?)->(∀ j,e[j]? = ancs[k+j]?)->DR P call n ops h0 ancs rs ρs nxs lgs k->ρs k=ρ->nxs k=nx->(∀ a,a∈lg↔∃ i,i<k/\a∈lgs i)->evD P call n ops h0 B l e ρ nx lg rs=some (ρ',s') ->
  ∃ D ρs' b c,DR P call n ops h0 ancs D ρs' b c (k+C l)/\ρs' 0=ρs 0/\b 0=nxs 0/\ρs' (k+C l)=ρ'/\s'.h=Ps D h0/\s'.nx=b (k+C l)/\(∀ a,a∈s'.lg↔(∃ i,i<k+C l/\a∈c i)\/a∈B)
 | [],e,k,ρ,nx,lg,rs,ρs,nxs,lgs,_,_,hd,h1,h2,t,h=>by
  simp only[evD,Ab,BP] at h;obtain⟨rfl,rfl⟩:=h;exact⟨rs,ρs,nxs,lgs,hd,rfl,rfl,h1,rfl,h2.symm,fun a=>by rw[AF,t];rfl⟩
 | o::l,[],k,ρ,nx,lg,rs,ρs,nxs,lgs,_,_,_,_,_,_,h=>by simp[evD] at h
 | o::l,anc::e,k,ρ,nx,lg,rs,ρs,nxs,lgs,hl,E,hd,h1,h2,t,h=>by
  simp only[evD] at h;obtain⟨⟨r,u,w⟩,hr,h⟩:=BB h;obtain⟨hc,h⟩:=A9 h;rw[U] at hc;have F:ancs.getD k []=anc:=by
   have:=E 0;simp only[Cb,Bn] at this;rw[Z,<- this];rfl
  have K:ops[k]? = some o:=by have:=hl 0;simpa using this.symm
  have G:=hd.len;let ρs':Nat->En:=fun i=>if i=k+1 then K8 ρ o.dst r.v else ρs i
  let b:Nat->Nat:=fun i=>if i=k+1 then u else nxs i
  let c:Nat->List Nat:=fun i=>if i=k then w else lgs i
  have d:∀ i,i<=k->ρs' i=ρs i:=fun i hi=>Ak (by omega);have f:∀ i,i<=k->b i=nxs i:=fun i hi=>Ak (by omega);have g:∀ i,i<k->c i=lgs i:=fun i hi=>Ak (by omega);have H:ρs' (k+1)=K8 ρ o.dst r.v:=Af rfl;have I:b (k+1)=u:=Af rfl;have m:c k=w:=Af rfl;have L:DR P call n ops h0 ancs (rs++[r]) ρs' b c (k+1):=by
   refine⟨by simp[G],fun i hi => ?_⟩;by_cases x:i=k
   ·subst x;refine⟨o,r,K,by rw[AO (by omega),G,Tg];rfl,?_,hc.1,?_,?_⟩
    ·rw[d i (Ar _),f i (Ar _),I,m,h1,h2,F,EC (by omega),Ej (by omega)];exact hr
    ·rw[F,m,EC (by omega),Ej (by omega)];exact hc.2
    ·rw[H,d i (Ar _),h1]
   ·obtain⟨o',r',p,y,z,q,A,s⟩:=hd.op i (by omega);refine⟨o',r',p,by rw[AA (by omega)];exact y,?_,q,?_,?_⟩
    ·rw[d i (by omega),f i (by omega),f (i+1) (by omega),g i (by omega),EC (by omega)];exact z
    ·rw[g i (by omega),EC (by omega)];exact A
    ·rw[d (i+1) (by omega),d i (by omega)];exact s
  obtain⟨M,ρs2,N,O,p,y,z,q,A,s,J⟩:=Yh l e (k+1) (K8 ρ o.dst r.v) u (w++lg) (rs++[r]) ρs' b c
   (fun j=>by have:=hl (j+1);rw[Du] at this;rw[this];congr 1;omega) (fun j=>by have:=E (j+1);rw[Du] at this;rw[this];congr 1;omega) L H I (fun a=>by
    rw[AF,t];constructor
    ·rintro (h | ⟨i,hi,h⟩)
     ·exact⟨k,EQ k,by rw[m];exact h⟩
     ·exact⟨i,by omega,by rw[g i hi];exact h⟩
    ·rintro⟨i,hi,h⟩;by_cases x:i=k
     ·subst x;rw[m] at h;exact .inl h
     ·exact .inr ⟨i,by omega,by rw[g i (by omega)] at h;exact h⟩) h
  have Q:k+1+C l=k+C (o::l):=by simp;omega
  rw[Q] at p q s J;exact⟨M,ρs2,N,O,p,by rw[y,d 0 (Cj _)],by rw[z,f 0 (Cj _)],q,A,s,J⟩
theorem O6{anc:List Nat}{r':Rec}{lg:List Nat}:∀ {rs:List Rec} {i:Nat},LC anc i rs r' lg=true->∀ j r,rs[j]? = some r->BN (i+j) anc=false->Pr r r' lg=true
 | [],i,_,j,r,hr,_=>by simp at hr
 | r0::rs,i,h,j,r,hr,a=>by
  have e:LC anc i (r0::rs) r' lg=Dh (BN i anc || Pr r0 r' lg) (LC anc (i+1) rs r' lg) false:=rfl;rw[e] at h;cases hc:(BN i anc || Pr r0 r' lg)
  ·rw[hc] at h;cases h
  ·rw[hc,cnd_true] at h;cases j with
   | zero =>
    simp only[Cb,Ab] at hr;subst hr;simp only[Bn] at a;rw[a,Bool.false_or] at hc;exact hc
   | succ j=>exact O6 h j r (by simpa using hr) (by rwa [show i+1+j=i+(j+1) by omega])
theorem Yi{l:List Nat}{a:Nat}:∀ {lg:List Nat},Aaa lg l=true->a∈lg->¬ a∈l
 | [],_,h=>by cases h
 | b::lg,h,d=>by
  have e:Aaa (b::lg) l=Dh (BN b l) false (Aaa lg l):=rfl;rw[e] at h;cases c:BN b l
  ·rw[c,cnd_false] at h;rcases Aw.1 d with rfl | d
   ·intro f;rw[Fv.2 f] at c;cases c
   ·exact Yi h d
  ·rw[c] at h;cases h
structure Apart (r r':Rec) (lg:List Nat):Prop where
 a:∀ t,r.d=some t->¬ t∈r'.tm
 b:∀ t,r'.d=some t->¬ t∈r.tm
 c:∀ t,r.d=some t->r'.d=some t->False
 d:∀ x,x∈lg->∃ l,r.vis=some l/\¬ x∈l
theorem gI{r r':Rec}{lg:List Nat}(h:Pr r r' lg=true):Apart r r' lg:=by
 simp only[Pr,U,BJ] at h;obtain⟨⟨⟨h1,h2⟩,e⟩,b⟩:=h;refine⟨fun t a c => ?_,fun t a c => ?_,fun t a g => ?_,fun x d => ?_⟩
 ·rw[a] at h1;rw[show gD (some t) r'.tm=BN t r'.tm from rfl,Fv.2 c] at h1;cases h1
 ·rw[a] at h2;rw[show gD (some t) r.tm=BN t r.tm from rfl,Fv.2 c] at h2;cases h2
 ·rw[a,g,show pQ (some t) (some t)=Au t t from rfl,DM] at e;cases e
 ·cases f:r.vis with
  | none =>
   rw[f] at b;have:lg=[]:=by simpa using b
   rw[this] at d;cases d
  | some l =>
   rw[f] at b;exact⟨l,rfl,Yi b d⟩
structure RecF (P:Program) (call:B0) (ops:Array Oper) (ρ:En) (h0:Tr HO) (nx nx':Nat) (lg:List Nat) (rs:List Rec) (anc:List Nat) (o:Oper) (r:Rec):Prop where
 d:r.d=o.dst
 tm:r.tm=Mx ops o
 ks:∀ a,BN a r.ks=true↔a∈lg\/(nx<=a/\a<nx')
 run:(O3 ρ ops o.guard=some true/\r.vis=It ρ o/\(A2 P o.op).run call (SG ρ (Mx ops o)) ⟨ML (Is anc h0 rs) (It ρ o),nx,[]⟩=some (r.v,⟨r.h,nx',lg⟩)) \/
  (O3 ρ ops o.guard=some false/\r.vis=some []/\r.v = .u/\nx'=nx/\lg=[])
theorem pU{ρ:En}{nx nx':Nat}{lg:List Nat}{rs:List Rec}{anc:List Nat}{o:Oper}{r:Rec}(hc:QC call)(h:gE P call ops ρ h0 nx rs anc o=some (r,nx',lg)):RecF P call ops ρ h0 nx nx' lg rs anc o r:=by
 unfold gE at h;obtain⟨b,hb,h⟩:=BB h;cases b
 ·rw[cnd_false] at h;cases h;exact⟨rfl,rfl,fun a=>⟨fun h=>(by cases h),fun h=>(by rcases h with h | h;cases h;omega)⟩,.inr ⟨hb,rfl,rfl,rfl,rfl⟩⟩
 ·rw[cnd_true] at h;obtain⟨⟨v,c⟩,hr,h⟩:=BB h;cases h;have q:=(gA hc hr).nx;simp only at q;refine⟨rfl,rfl,fun a => ?_,.inl ⟨hb,rfl,hr⟩⟩;rw[Fv,AF,A1e];constructor
  ·rintro (h | h)
   ·exact .inl h
   ·exact .inr ⟨h.1,by omega⟩
  ·rintro (h | h)
   ·exact .inl h
   ·exact .inr ⟨h.1,by omega⟩
theorem Yj(h:Tr HO)(a:Nat):∀ (l:List Nat),(Yd h l).get a=if BN a l then h.get a else none
 | []=>rfl
 | b::l=>by
  have e:Yd h (b::l)=(Yd h l).set b (h.get b):=rfl;have c:BN a (b::l)=Dh (Au b a) true (BN a l):=rfl;rw[e,c,Cf,Yj h a l];cases hb:Au b a
  ·rw[Ak fun e=>by rw[e,DM] at hb;cases hb];rfl
  ·have:=Aj hb;subst this;rw[Af rfl];rfl
theorem A0k{h:Tr HO}{vis:Option (List Nat)}{a:Nat}{o:HO}(hs:(ML h vis).get a=some o):h.get a=some o/\∀ l,vis=some l->a∈l:=by
 cases vis with
 | none=>exact⟨hs,fun l e=>by cases e⟩
 | some l =>
  have hs:(Yd h l).get a=some o:=hs;rw[Yj] at hs;split at hs
  next b=>exact⟨hs,fun c e=>by cases e;exact Fv.1 b⟩
  ·cases hs
theorem Qf{ρ:En}{t:Nat}{x:HV}:∀ {l:List Nat},(SG ρ l).get t=some x->t∈l/\ρ.get t=some x
 | [],h=>by
  have h:Dh (Rt 0 t) ((Tr.e:Tr HV).get t) none=some x:=h;cases hb:Rt 0 t <;> rw[hb] at h <;> cases h
 | u::l,h=>by
  have e:gC ρ (u::l)=GQ (motive:=fun _=>List (Nat × HV)) (gC ρ l) (fun x=>(u,x)::gC ρ l) (ρ.get u):=rfl;unfold SG at h;rw[e] at h;cases hu:ρ.get u with
  | none =>
   rw[hu] at h;obtain⟨h1,h2⟩:=Qf (l:=l) h;exact⟨AI _ h1,h2⟩
  | some y =>
   rw[hu] at h;have a:Dh (Au u t) (some y) ((SG ρ l).get t)=some x:=h;cases hb:Au u t
   ·rw[hb,cnd_false] at a;obtain⟨h1,h2⟩:=Qf (l:=l) a;exact⟨AI _ h1,h2⟩
   ·rw[hb,cnd_true] at a;have:=Aj hb;subst this;exact⟨A1,by rw[hu];exact a⟩
end
end Go.Hp
