/- Texts of the proof of RootDyadics: part 6 of 13. -/
import Derived.Laws.BitsAllLaws
import Derived.KernelRfl
import Derived.Test.YtajompaehjkgkaaGreatRdx5
namespace Go.Ai
open Go.RowKit
open BitVec renaming ofInt->T,toNat_and->MU,toNat_ofNat->I3,toNat_or->gN
open Bool renaming and_eq_true->Ac,false_eq_true->BX
open Decidable renaming decide->B
open Go.IntKind renaming bits->Aj,signed->iR,wrap->D
open Int renaming emod->bK,fdiv->d,natCast_pow->Cr,ofNat->IW,ofNat_eq_natCast->IP,sub->A3g,tdiv->o,tmod->f
open List renaming ext_getElem->Yx,getD_eq_getElem?_getD->Z,getElem?_append_left->AJ,getElem?_append_right->AN,getElem?_eq_getElem->Ae,getElem?_replicate->Kw,rec->ZI,replicate->Aq
open Nat renaming beq->CQ,ble->qH,ble_eq_true_of_le->gR,blt->Fc,div->Ie,eq_of_beq_eq_true->CI,le_of_ble_eq_true->gS,le_refl->Am,mod->OT,mod_eq_of_lt->Fj,rec->MK,sub_zero->Ls,succ->ML,zero_le->Bf
open Option renaming getD_some->Gx,map_some->A6
def T4:Int->Int->Bool
 | .ofNat m,.ofNat n=>Fc m n
 | .ofNat _,.negSucc _=>false
 | .negSucc _,.ofNat _=>true
 | .negSucc m,.negSucc n=>Fc n m
def leI(a b:Int):Bool := !(T4 b a)
def W7:Int->Int->Bool
 | .ofNat m,.ofNat n=>CQ m n
 | .negSucc m,.negSucc n=>CQ m n
 | _,_=>false
theorem IN(m n:Nat):Fc m n=decide (m<n):=by
 cases h:Fc m n
 ·symm;rw[decide_eq_false_iff_not];intro hlt;have:qH (m+1) n=true:=gR hlt;rw[Fc] at h;rw[this] at h;cases h
 ·symm;rw[decide_eq_true_iff];exact gS h
theorem TE(a b:Int):T4 a b=decide (a<b):=by
 cases a with
 | ofNat m=>cases b with
  | ofNat n=>simp only[T4,IN];rw[decide_eq_decide];simp only[IP];omega
  | negSucc n=>simp only[T4];symm;rw[decide_eq_false_iff_not];simp only[IP];omega
 | negSucc m=>cases b with
  | ofNat n=>simp only[T4];symm;rw[decide_eq_true_iff];simp only[IP];omega
  | negSucc n=>simp only[T4,IN];rw[decide_eq_decide];omega
theorem Avf(a b:Int):leI a b=decide (a<=b):=by
 simp only[leI,TE];by_cases h:b<a
 ·rw[decide_eq_true h,decide_eq_false (by omega)];rfl
 ·rw[decide_eq_false h,decide_eq_true (by omega)];rfl
theorem qI(a b:Int):W7 a b=decide (a=b):=by
 cases a with
 | ofNat m=>cases b with
  | ofNat n =>
   simp only[W7];by_cases h:m=n
   ·subst h;simp
   ·have h2:CQ m n=false:=by cases hh:CQ m n with | false=>rfl | true=>exact absurd (CI hh) h
    rw[h2];symm;rw[decide_eq_false_iff_not];intro e;exact h (Int.ofNat.inj e)
  | negSucc n=>simp only[W7];symm;rw[decide_eq_false_iff_not];intro e;cases e
 | negSucc m=>cases b with
  | ofNat n=>simp only[W7];symm;rw[decide_eq_false_iff_not];intro e;cases e
  | negSucc n =>
   simp only[W7];by_cases h:m=n
   ·subst h;simp
   ·have h2:CQ m n=false:=by cases hh:CQ m n with | false=>rfl | true=>exact absurd (CI hh) h
    rw[h2];symm;rw[decide_eq_false_iff_not];intro e;exact h (Int.negSucc.inj e)
def bJ(n:Int)(m:Nat):Int:=bK n (IW m)
def Xu(n:Int)(h m:Nat):Int:=cond (T4 (bK n (IW m)) (IW h)) (bK n (IW m)) (A3g (bK n (IW m)) (IW m))
def Ld(k:IntKind)(n:Int):Int :=
 match k with
 | .u8=>bJ n 256
 | .u16=>bJ n 65536
 | .u32=>bJ n 4294967296
 | .u64=>bJ n 18446744073709551616
 | .i8=>Xu n 128 256
 | .i16=>Xu n 32768 65536
 | .i32=>Xu n 2147483648 4294967296
 | .i64=>Xu n 9223372036854775808 18446744073709551616
theorem Aiy(n:Int)(h m:Nat):Xu n h m=if n % (m:Int)>=h then n % (m:Int)-m else n % (m:Int):=by
 unfold Xu;rw[TE];show (cond (B (n % (m:Int)<(h:Int))) (n % (m:Int)) (n % (m:Int)-(m:Int)))=_;by_cases hh:n % (m:Int)<h
 ·rw[decide_eq_true hh,if_neg (by omega)];rfl
 ·rw[decide_eq_false hh,if_pos (by omega)];rfl
theorem JD(k:IntKind)(n:Int):Ld k n=k.wrap n:=by
 cases k <;> simp[Ld,bJ,Aiy,D,Aj,iR] <;> rfl
section
variable {α:Type}
noncomputable def DV (n:Nat) (k:Nat->α):α:=MK (motive:=fun _=>α) (k 0) (fun m _=>k (ML m)) n
noncomputable def RO (i:Int) (k:Int->α):α:=Int.rec (motive:=fun _=>α) (fun n=>DV n fun n=>k (.ofNat n)) (fun n=>DV n fun n=>k (.negSucc n)) i
noncomputable def Im (b:Bool) (k:Bool->α):α:=Bool.rec (motive:=fun _=>α) (k false) (k true) b
noncomputable def Gy (l:List AV):(List AV->α)->α:=ZI (motive:=fun _=>(List AV->α)->α) (fun k=>k []) (fun x _ ih k=>ih fun xs=>k (x::xs)) l
theorem Gb(n:Nat)(k:Nat->α):DV n k=k n:=by cases n <;> rfl
theorem YP(i:Int)(k:Int->α):RO i k=k i:=by cases i <;> simp only [RO,Gb]
theorem Lf(b:Bool)(k:Bool->α):Im b k=k b:=by cases b <;> rfl
theorem Mk(l:List AV):∀ k:List AV->α,Gy l k=k l:=by
 induction l with
 | nil=>intro k;rfl
 | cons x l ih=>intro k;exact ih _
noncomputable def IQ (x:AV) (k:AV->α):α :=
 match x with
 | .int kd n=>RO n fun n=>k (.int kd n)
 | .bool b=>Im b fun b=>k (.bool b)
 | .agg cs=>Gy cs fun cs=>k (.agg cs)
 | .sl n cs=>DV n fun n=>Gy cs fun cs=>k (.sl n cs)
 | .fresh m n cs=>DV n fun n=>Gy cs fun cs=>k (.fresh m n cs)
 | .frs (.st b) m n cs=>Im b fun b=>DV n fun n=>Gy cs fun cs=>k (.frs (.st b) m n cs)
 | .frs (.tp b) m n cs=>Im b fun b=>DV n fun n=>Gy cs fun cs=>k (.frs (.tp b) m n cs)
 | .pt cs=>Gy cs fun cs=>k (.pt cs)
 | .fnc f cs=>Gy cs fun cs=>k (.fnc f cs)
 | .tup cs=>Gy cs fun cs=>k (.tup cs)
 | x=>k x
theorem N1(x:AV)(k:AV->α):IQ x k=k x:=by
 cases x
 case frs b m n cs=>cases b <;> simp only[IQ,Lf,Mk,Gb]
 all_goals simp only[IQ,YP,Lf,Mk,Gb]
noncomputable def Ow (r:Reg) (k:Reg->α):α :=
 match r with
 | .val x=>IQ x fun x=>k (.val x)
 | .box cs=>Gy cs fun cs=>k (.box cs)
 | .ptr d off=>DV off fun off=>k (.ptr d off)
 | .mem cs=>Gy cs fun cs=>k (.mem cs)
 | .own m n cs=>DV n fun n=>Gy cs fun cs=>k (.own m n cs)
 | .agn (.st b) m n cs=>Im b fun b=>DV n fun n=>Gy cs fun cs=>k (.agn (.st b) m n cs)
 | .agn (.tp b) m n cs=>Im b fun b=>DV n fun n=>Gy cs fun cs=>k (.agn (.tp b) m n cs)
 | r=>k r
theorem YQ(r:Reg)(k:Reg->α):Ow r k=k r:=by
 cases r
 case agn b m n cs=>cases b <;> simp only[Ow,Lf,Mk,Gb]
 all_goals simp only[Ow,N1,Mk,Gb]
end
def HF(g:Nat->Reg)(o:Opd):Option AV :=
 match o with
 | .t n=>(match g n with | .val x=>some x | _=>none)
 | .c x=>some x
def Aiz(g:Nat->Reg):Opd->Reg
 | .t n=>g n
 | .c x => .val x
theorem Q8(s:Ak)(o:Opd):HF (A2 s) o=o.av s:=by cases o <;> rfl
theorem Aja(s:Ak)(o:Opd):Aiz (A2 s) o=o.reg s:=by cases o <;> rfl
def SI(g:Nat->Reg):List Opd->Option (List AV)
 | []=>some []
 | o::l=>match HF g o with
  | none=>none
  | some x=>match SI g l with
   | none=>none
   | some xs=>some (x::xs)
theorem bL(s:Ak):∀ l,SI (A2 s) l=avs s l
 | []=>rfl
 | o::l=>by simp only[SI,avs,Q8,bL s l];rfl
def RP(g:Nat->Reg):List AV->List (Nat × Nat × Opd)->Option (List AV)
 | cs,[]=>some cs
 | cs,(off,n,o)::ps =>
  match HF g o with
  | none=>none
  | some x=>match FZ x n with
   | none=>none
   | some ys=>match Cv cs off ys with
    | none=>none
    | some cs'=>RP g cs' ps
theorem Xv(s:Ak):∀ (ps:List (Nat × Nat × Opd)) (cs:List AV),RP (A2 s) cs ps=FG s cs ps
 | [],cs=>rfl
 | (off,n,o)::ps,cs=>by simp only[RP,FG,Q8,Xv s ps];rfl
def SJ(g:Nat->Reg)(d:Nat):Option Opd->Option Nat
 | none=>some d
 | some o=>match HF g o with
  | some (.int _ i)=>cond (T4 i (.ofNat 0)) none (some i.toNat)
  | _=>none
theorem Ajb(s:Ak)(d:Nat)(o:Option Opd):SJ (A2 s) d o=G2 s d o:=by
 cases o with
 | none=>rfl
 | some o =>
  simp only[SJ,G2,Q8];generalize o.av s=x;cases x with
  | none=>rfl
  | some v =>
   cases v <;> first | rfl | skip
   rename_i k i;dsimp only;rw[TE];show cond (B (i<0)) _ _=_;by_cases h:i<0
   ·rw[decide_eq_true h,if_neg (by omega)];rfl
   ·rw[decide_eq_false h,if_pos (by omega)];rfl
def isK:IntKind->IntKind->Bool
 | .i8,.i8=>true
 | .i16,.i16=>true
 | .i32,.i32=>true
 | .i64,.i64=>true
 | .u8,.u8=>true
 | .u16,.u16=>true
 | .u32,.u32=>true
 | .u64,.u64=>true
 | _,_=>false
theorem qJ(k k':IntKind):isK k k'=decide (k=k'):=by cases k <;> cases k' <;> rfl
def Q9:IntKind->Nat
 | .i8=>256 | .u8=>256 | .i16=>65536 | .u16=>65536 | .i32=>4294967296 | .u32=>4294967296 | .i64=>18446744073709551616 | .u64=>18446744073709551616
theorem Vg(k:IntKind):Q9 k=2^k.bits:=by cases k <;> rfl
def Ml(f:Nat->Nat->Nat)(op:BinOp)(k:IntKind)(x y:Int):Option AV :=
 match x,y with
 | .ofNat m,.ofNat n=>cond (Fc m (Q9 k)&&Fc n (Q9 k)) (some (.int k (Ld k (.ofNat (f m n))))) ((KZ op k x y).map (.int k))
 | _,_=>(KZ op k x y).map (.int k)
theorem EB(w m:Nat)(h:m<2^w):(T w (IW m)).toNat=m:=by
 have:T w (IW m)=BitVec.ofNat w m:=by
  apply BitVec.eq_of_toNat_eq;simp
 rw[this,I3,Fj h]
theorem iS(k:IntKind)(x y:Int):Ml Nat.land .and k x y=(KZ .and k x y).map (.int k):=by
 unfold Ml;split
 ·rename_i m n;cases h:(Fc m (Q9 k)&&Fc n (Q9 k))
  ·rfl
  ·simp only[IN,Ac,decide_eq_true_eq,Vg] at h;simp only[cond_true,KZ,A6,JD,MU,EB _ _ h.1,EB _ _ h.2];rfl
 ·rfl
theorem vA(k:IntKind)(x y:Int):Ml Nat.lor .or k x y=(KZ .or k x y).map (.int k):=by
 unfold Ml;split
 ·rename_i m n;cases h:(Fc m (Q9 k)&&Fc n (Q9 k))
  ·rfl
  ·simp only[IN,Ac,decide_eq_true_eq,Vg] at h;simp only[cond_true,KZ,A6,JD,gN,EB _ _ h.1,EB _ _ h.2];rfl
 ·rfl
theorem iT(k:IntKind)(x y:Int):Ml Nat.xor .xor k x y=(KZ .xor k x y).map (.int k):=by
 unfold Ml;split
 ·rename_i m n;cases h:(Fc m (Q9 k)&&Fc n (Q9 k))
  ·rfl
  ·simp only[IN,Ac,decide_eq_true_eq,Vg] at h;simp only[cond_true,KZ,A6,JD,BitVec.toNat_xor,EB _ _ h.1,EB _ _ h.2];rfl
 ·rfl
def qK(y:Int)(k:IntKind):Int := .ofNat (Nat.pow 2 (cond (qH y.toNat k.bits) y.toNat k.bits))
theorem Ajc(y:Int)(k:IntKind):qK y k=2^(min y.toNat k.bits):=by
 unfold qK;have:cond (qH y.toNat k.bits) y.toNat k.bits=min y.toNat k.bits:=by
  cases h:qH y.toNat k.bits
  ·have:¬ y.toNat<=k.bits:=by intro hh;rw[gR hh] at h;cases h
   simp only[cond_false];omega
  ·have:=gS h;simp only[cond_true];omega
 rw[this];exact Cr 2 _
def iU(x y:Int):Int :=
 match x,y with
 | .ofNat m,.ofNat n => .ofNat (Ie m n)
 | x,y=>d x y
theorem vB(x y:Int):iU x y=d x y:=by
 unfold iU;split
 ·rename_i m n;exact (Int.ofNat_fdiv m n)
 ·rfl
def Ajd(op:BinOp)(x y:AV):Option AV :=
 match x,y with
 | .int k a,.int k' b=>(match op with
  | .shl=>cond (T4 b (.ofNat 0)) none (some (.int k (Ld k (Int.mul a (qK b k)))))
  | .shr=>cond (T4 b (.ofNat 0)) none (some (.int k (iU a (qK b k))))
  | op=>cond (isK k k') (match op with
   | .add=>some (.int k (Ld k (Int.add a b)))
   | .sub=>some (.int k (Ld k (A3g a b)))
   | .mul=>some (.int k (Ld k (Int.mul a b)))
   | .quo=>cond (W7 b (.ofNat 0)) none (some (.int k (Ld k (o a b))))
   | .rem=>cond (W7 b (.ofNat 0)) none (some (.int k (f a b)))
   | .and=>Ml Nat.land .and k a b
   | .or=>Ml Nat.lor .or k a b
   | .xor=>Ml Nat.xor .xor k a b
   | .eql=>some (.bool (W7 a b))
   | .neq=>some (.bool (!(W7 a b)))
   | .lss=>some (.bool (T4 a b))
   | .leq=>some (.bool (leI a b))
   | .gtr=>some (.bool (T4 b a))
   | .geq=>some (.bool (leI b a))
   | _=>none) none)
 | _,_=>none
theorem Xw{α:Type}(p:Prop)[Decidable p](a b:α):cond (decide p) a b=if p then a else b:=by
 by_cases h:p <;> simp[h]
theorem Aje(a b:Int):(a==b)=decide (a=b):=by
 by_cases h:a=b <;> simp[h]
theorem Ajf(op:BinOp)(x y:AV):Ajd op x y=Lu op x y:=by
 cases x <;> cases y <;> first | rfl | skip
 rename_i k a k' b;cases op <;> simp only[Ajd,Lu,IK,BX,if_false,if_true,qJ,Xw,ZJ,Adk,A6,JD,TE,Avf,qI,iS,vA,iT,Qi,Ajc,vB,gt_iff_lt,ge_iff_le,Aje,bne];all_goals rfl
def unF(op:UnOp)(x:AV):Option AV :=
 match op,x with
 | .neg,.int k n=>some (.int k (Ld k (A3g (.ofNat 0) n)))
 | .not,.bool b=>some (.bool (!b))
 | _,_=>none
theorem Avg(op:UnOp)(x:AV):unF op x=unA op x:=by
 cases op <;> cases x <;> simp only[unF,unA,JD];rfl
def iV(i:Int)(n:Nat):Bool:=match i with | .ofNat m=>Fc m n | .negSucc _=>false
theorem Avh(i:Int)(n:Nat):iV i n=decide (0<=i/\i<(n:Int)):=by
 cases i with
 | ofNat m=>simp only[iV,IN];rw[decide_eq_decide];simp only[IP];omega
 | negSucc m=>simp only[iV];symm;rw[decide_eq_false_iff_not];omega
def Ajg(F:B6)(g:Nat->Reg):K->Option (Reg × List (Nat × Reg))
 | .mov x=>match HF g x with
  | some v=>some (.val v,[])
  | none=>none
 | .pick c a b =>
  match HF g c with
  | some (.bool true)=>(HF g a).map fun v=>(.val v,[])
  | some (.bool false)=>(HF g b).map fun v=>(.val v,[])
  | _=>none
 | .bin op x y =>
  match HF g x,HF g y with
  | some a,some b=>(Ajd op a b).map fun v=>(.val v,[])
  | _,_=>none
 | .eqb neg x y =>
  match HF g x,HF g y with
  | some (.bool a),some (.bool b)=>some (.val (.bool (if neg then !(a==b) else a==b)),[])
  | _,_=>none
 | .un op x=>match HF g x with
  | some a=>(unF op a).map fun v=>(.val v,[])
  | none=>none
 | .cv k x=>match HF g x with
  | some (.int _ n)=>some (.val (.int k (Ld k n)),[])
  | _=>none
 | .new z kills=>some (.box z,kills.map fun t=>(t,.dead))
 | .box x kills=>match HF g x with
  | some (.agg cs)=>some (.box cs,kills.map fun t=>(t,.dead))
  | some x=>if K0 x then some (.box [x],kills.map fun t=>(t,.dead)) else none
  | none=>none
 | .bld z ps=>(RP g z ps).map fun cs=>(.val (.agg cs),[])
 | .bls n z ps=>(RP g z ps).map fun cs=>(.val (.sl n cs),[])
 | .adr x d off=>match g x with
  | .box _=>if x=d then some (.ptr d off,[]) else none
  | .ptr d' o=>if d'=d then some (.ptr d (o+off),[]) else none
  | .mem cs=>some (.mem (cs.drop off),[])
  | _=>none
 | .ld x d n one=>match g x with
  | .box cs=>if x=d then (Bl cs 0 n one).map fun v=>(.val v,[]) else none
  | .ptr d' off=>if d'=d then (match g d with
   | .box cs=>(Bl cs off n one).map fun v=>(.val v,[])
   | .own _ _ cs=>(Bl cs off n one).map fun v=>(.val v,[])
   | _=>none) else none
  | .mem cs=>(Bl cs 0 n one).map fun v=>(.val v,[])
  | _=>none
 | .st x d n v=>match HF g v with
  | none=>none
  | some a=>match FZ a n with
   | none=>none
   | some ys=>match g x with
    | .box cs=>if x=d then (Cv cs 0 ys).map fun cs'=>(.dead,[(d,.box cs')]) else none
    | .ptr d' off=>if d'=d then (match g d with
     | .box cs=>(Cv cs off ys).map fun cs'=>(.dead,[(d,.box cs')])
     | .own k m cs=>(Cv cs off ys).map fun cs'=>(.dead,[(d,.own k m cs')])
     | _=>none) else none
    | _=>none
 | .fld x off n one=>match HF g x with
  | some (.agg cs)=>(Bl cs off n one).map fun v=>(.val v,[])
  | _=>none
 | .ixa x i k=>match HF g i with
  | some (.int _ i)=>(match g x with
   | .val (.sl n cs)=>cond (iV i n) (some (.mem (cs.drop (i.toNat*k)),[])) none
   | _=>none)
  | _=>none
 | .six x i=>match HF g x,HF g i with
  | some (.str b),some (.int _ i)=>(if 0<=i then b[i.toNat]? else none).map fun c=>(.val (.int .u8 c.toNat),[])
  | _,_=>none
 | .ext x i=>match HF g x with
  | some (.tup vs)=>(vs[i]?).map fun v=>(.val v,[])
  | _=>none
 | .len x=>match HF g x with
  | some .nil=>some (.val (.int .i64 0),[])
  | some (.sl n _)=>some (.val (.int .i64 n),[])
  | _=>none
 | .mx xs=>match SI g xs with
  | some (.int k n::l)=>(WZ k n l).map fun m=>(.val (.int k m),[])
  | _=>none
 | .mn xs=>match SI g xs with
  | some (.int k n::l)=>(W_ k n l).map fun m=>(.val (.int k m),[])
  | _=>none
 | .call f xs=>match SI g xs with
  | some vs=>(F f vs).map fun v=>(.val (JR v),[])
  | none=>none
 | .clo f xs=>match SI g xs with
  | some vs=>(F f vs).map fun v=>(K1 v,[])
  | none=>none
 | .brw f x d=>match g x with
  | .dup d'=>if d'=d then (match g d with
   | .own _ n cs=>if cs.all (fun c => !isI c) then (match F f [.sl n cs] with
    | some y=>if Gp (JR y) then some (.val (JR y),[]) else none
    | none=>none) else none
   | _=>none) else none
  | _=>none
 | .cpy x=>match g x with
  | .val v=>some (.val v,[])
  | .own _ _ _=>some (.dup x,[])
  | _=>none
 | .tra x=>match g x with
  | .val v=>some (.val v,[])
  | .own k n cs=>some (.own k n cs,[(x,.dead)])
  | .agn b k n cs=>some (.agn b k n cs,[(x,.dead)])
  | _=>none
 | .frz x=>match g x with
  | .val v=>some (.val v,[])
  | .own _ n cs=>some (.val (.sl n cs),[(x,.val (.sl n cs))])
  | _=>none
 | .mks z n=>match HF g n with
  | some (.int _ m)=>cond (iV m 1048577) (some (.own z.length m.toNat (Co z m.toNat),[])) none
  | _=>none
 | .blo k n z ps=>(RP g z ps).map fun cs=>(.own k n cs,[])
 | .apd ow x y k B=>match HF g y with
  | some .nil=>(match Aiz g x with
   | .val .nil=>some (.val .nil,[])
   | .own k' n cs=>if k'=k then some (if ow then .own k n cs else .val (.sl n cs),Pj x) else none
   | _=>none)
  | some (.sl m ys)=>if ys.length=m*k then (match Aiz g x with
   | .val .nil=>if m<=B then some (if ow then .own k m ys else .val (.sl m ys),[]) else none
   | .own k' n cs=>if k'=k/\n+m<=B then some (if ow then .own k (n+m) (cs++ys) else .val (.sl (n+m) (cs++ys)),Pj x) else none
   | _=>none) else none
  | _=>none
 | .sli x lo hi mx k=>match HF g x with
  | some .nil=>(match SJ g 0 mx,SJ g 0 hi,SJ g 0 lo with
   | some 0,some 0,some 0=>if mx.isSome->hi.isSome then some (.val .nil,[]) else none
   | _,_,_=>none)
  | some (.sl n cs)=>(match SJ g n mx,SJ g n hi,SJ g 0 lo with
   | some m,some h,some l=>if l<=h/\h<=m/\m<=n/\(mx.isSome->hi.isSome) then some (.val (.sl (h-l) ((cs.drop (l*k)).take ((h-l)*k))),[]) else none
   | _,_,_=>none)
  | _=>none
 | .ixo x d i k=>match HF g i with
  | some (.int _ i)=>(match g x with
   | .val (.sl n cs)=>cond (iV i n) (some (.mem (cs.drop (i.toNat*k)),[])) none
   | .dup d'=>if d'=d then (match g d with
    | .own k' n _=>if k'=k then cond (iV i n) (some (.ptr d (i.toNat*k),[])) none else none
    | _=>none) else none
   | _=>none)
  | _=>none
 | .lno x d=>match g x with
  | .val .nil=>some (.val (.int .i64 0),[])
  | .val (.sl n _)=>some (.val (.int .i64 n),[])
  | .dup d'=>if d'=d then (match g d with
   | .own _ n _=>some (.val (.int .i64 n),[])
   | _=>none) else none
  | _=>none
 | .nlo k=>some (.own k 0 [],[])
 | .bdo a x l=>match HF g a with
  | some (.bool b)=>(match g x with
   | .own k n cs=>if l.all (fun t=>FY (g t)) then some (.agn (.st b) k n cs,[(x,.dead)]) else none
   | _=>none)
  | _=>none
 | .cln f xs l=>match SI g xs with
  | some vs=>if l.all (fun t=>FY (g t)) then (F f vs).map fun v=>(K1 v,[]) else none
  | none=>none
 | .stl x v=>match g x with
  | .box cs=>(match g v with
   | .agn (.st _) _ _ _=>if cs.length=2 then some (.dead,[(x,.bxl v)]) else none
   | _=>none)
  | _=>none
 | .fdo x=>match g x with
  | .agn (.st _) k n cs=>some (.own k n cs,[(x,.dead)])
  | _=>none
 | .exo x=>match g x with
  | .agn (.tp b) k n cs=>some (.own k n cs,[(x,.val (.tup [.sl n [],.bool b]))])
  | _=>none
 | .slo x hi k=>match HF g hi with
  | some (.int _ h)=>(match g x with
   | .own k' n cs=>if k'=k/\0<=h/\h<=n then some (.own k h.toNat (cs.take (h.toNat*k)),[(x,.dead)]) else none
   | _=>none)
  | _=>none
 | .bad=>none
theorem Ajh(F:B6)(s:Ak)(k:K):Ajg F (A2 s) k=B5 F s k:=by
 cases k <;> simp only[Ajg,B5,Q8,bL,Xv,Aja,Ajb,Ajf,Avg,JD,Avh,Xw]
 case mov x=>cases x.av s <;> rfl
 case mks z n =>
  generalize n.av s=x;cases x with
  | none=>rfl
  | some v =>
   cases v <;> first | rfl | skip
   rename_i k m;have:(0<=m/\m<((1048577:Nat):Int))↔(0<=m/\m<=1048576):=by omega
   simp only[this]
 case ixo x d i k =>
  generalize i.av s=y;cases y with
  | none=>rfl
  | some v =>
   cases v <;> first | rfl | skip
   rename_i kk m;generalize A2 s x=r;cases r <;> first | rfl | skip
   ·rename_i v;cases v <;> rfl
   ·rename_i d';dsimp only;by_cases hd:d'=d
    ·rw[if_pos hd,if_pos hd];generalize A2 s d=r2;cases r2 <;> first | rfl | skip
     rename_i k' n cs;by_cases hk:k'=k <;> simp[hk]
    ·rw[if_neg hd,if_neg hd]
 all_goals rfl
inductive Tr where
 | e
 | n (l:Tr) (v:Reg) (r:Tr)
noncomputable def Tr.get (t:Tr):Nat->Reg :=
 Tr.rec (motive:=fun _=>Nat->Reg) (fun _ => .dead) (fun _ v _ gl gr i=>MK (motive:=fun _=>Reg) v (fun j _=>cond (CQ (OT j 2) 0) (gl (Ie j 2)) (gr (Ie j 2))) i) t
theorem vC(i:Nat):Tr.e.get i = .dead:=rfl
theorem YR(l:Tr)(v:Reg)(r:Tr):(Tr.n l v r).get 0=v:=rfl
theorem HN(l:Tr)(v:Reg)(r:Tr)(j:Nat):(Tr.n l v r).get (j+1)=cond (CQ (j % 2) 0) (l.get (j / 2)) (r.get (j / 2)):=rfl
section
variable {α:Type}
noncomputable def QA (f:Nat):Tr->Nat->Reg->(Tr->Option α)->Option α :=
 MK (motive:=fun _=>Tr->Nat->Reg->(Tr->Option α)->Option α) (fun _ _ _ _=>none)
  (fun _ ih t i x k=>Tr.rec (motive:=fun _=>Option α)
   (MK (motive:=fun _=>Option α) (k (.n .e x .e)) (fun j _=>cond (CQ (OT j 2) 0) (DV (Ie j 2) fun j=>ih .e j x fun l'=>k (.n l' .dead .e)) (DV (Ie j 2) fun j=>ih .e j x fun r'=>k (.n .e .dead r'))) i)
   (fun l v r _ _=>MK (motive:=fun _=>Option α) (k (.n l x r)) (fun j _=>cond (CQ (OT j 2) 0) (DV (Ie j 2) fun j=>ih l j x fun l'=>k (.n l' v r)) (DV (Ie j 2) fun j=>ih r j x fun r'=>k (.n l v r'))) i) t) f
theorem Xx{i j:Nat}(h1:i % 2=j % 2)(h2:i / 2=j / 2):i=j:=by omega
theorem bO:∀ (f:Nat) (t:Tr) (i:Nat) (x:Reg) (k:Tr->Option α) (y:α),QA f t i x k=some y->∃ t',k t'=some y/\∀ u,t'.get u=if u=i then x else t.get u:=by
 intro f;induction f with
 | zero=>intro t i x k y h;cases h
 | succ f ih =>
  intro t i x k y h;have key:∀ (l r:Tr) (v:Reg),(∀ u,(Tr.n l v r).get u=t.get u) ->
    (match i with
     | 0=>k (.n l x r)
     | j+1=>cond (CQ (OT j 2) 0) (DV (Ie j 2) fun j=>QA f l j x fun l'=>k (.n l' v r)) (DV (Ie j 2) fun j=>QA f r j x fun r'=>k (.n l v r')))=some y ->
    ∃ t',k t'=some y/\∀ u,t'.get u=if u=i then x else t.get u:=by
   intro l r v ht h;cases i with
   | zero =>
    refine⟨_,h,fun u => ?_⟩;cases u with
    | zero=>simp[YR]
    | succ u=>rw[if_neg (by omega),<- ht];rfl
   | succ j =>
    dsimp only at h;cases hj:CQ (OT j 2) 0
    ·rw[hj] at h;simp only[cond_false,Gb] at h;obtain⟨r',h1,h2⟩:=ih r _ x _ y h;have hj':j % 2=1:=by
      have:¬ j % 2=0:=fun e=>by
       have:CQ (OT j 2) 0=true:=by show CQ (j % 2) 0=true;rw[e];rfl
       rw[this] at hj;cases hj
      omega
     refine⟨_,h1,fun u => ?_⟩;cases u with
     | zero=>rw[if_neg (by omega),<- ht];rfl
     | succ u =>
      rw[<- ht,HN,HN,h2];cases hu:CQ (u % 2) 0
      ·have hu':u % 2=1:=by
        have:¬ u % 2=0:=fun e=>by rw[e] at hu;cases hu
        omega
       simp only[cond_false];show (if u / 2=j / 2 then _ else _)=_;by_cases hh:u / 2=j / 2
       ·have:u=j:=Xx (by omega) hh;rw[if_pos hh,if_pos (by omega)]
       ·rw[if_neg hh,if_neg (by omega)]
      ·have hu':u % 2=0:=CI hu;simp only[cond_true];rw[if_neg (by omega)]
    ·rw[hj] at h;simp only[cond_true,Gb] at h;obtain⟨l',h1,h2⟩:=ih l _ x _ y h;have hj':j % 2=0:=CI hj;refine⟨_,h1,fun u => ?_⟩;cases u with
     | zero=>rw[if_neg (by omega),<- ht];rfl
     | succ u =>
      rw[<- ht,HN,HN,h2];cases hu:CQ (u % 2) 0
      ·have hu':u % 2=1:=by
        have:¬ u % 2=0:=fun e=>by rw[e] at hu;cases hu
        omega
       simp only[cond_false];rw[if_neg (by omega)]
      ·have hu':u % 2=0:=CI hu;simp only[cond_true];show (if u / 2=j / 2 then _ else _)=_;by_cases hh:u / 2=j / 2
       ·have:u=j:=Xx (by omega) hh;rw[if_pos hh,if_pos (by omega)]
       ·rw[if_neg hh,if_neg (by omega)]
  cases t with
  | e =>
   refine key .e .e .dead (fun u => ?_) (by cases i <;> exact h);cases u with
   | zero=>rfl
   | succ u=>rw[HN];cases CQ (u % 2) 0 <;> rfl
  | n l v r=>exact key l r v (fun _=>rfl) (by cases i <;> exact h)
def KB(t:Tr)(s:Ak):Prop:=∀ u,t.get u=A2 s u
noncomputable def Vh (m:Nat) (t:Tr) (d:Nat) (r:Reg) (k:Tr->Option α):Option α:=cond (Fc d m) (Ow r fun r=>QA 12 t d r k) none
theorem Vi{m:Nat}{t:Tr}{s:Ak}{d:Nat}{r:Reg}{k:Tr->Option α}{y:α}(hs:s.length=m)(ht:KB t s)(h:Vh m t d r k=some y):∃ t',k t'=some y/\KB t' (s.set d r):=by
 unfold Vh at h;cases hd:Fc d m
 ·rw[hd] at h;cases h
 ·rw[hd] at h;simp only[cond_true,YQ] at h;obtain⟨t',h1,h2⟩:=bO 12 t d r k y h;refine⟨t',h1,fun u => ?_⟩;simp only[IN,decide_eq_true_eq] at hd;rw[h2,Dl];by_cases hu:u=d
  ·subst hu;rw[if_pos rfl,if_pos ⟨rfl,by omega⟩]
  ·rw[if_neg hu,if_neg (fun e=>hu e.1.symm)];exact ht u
noncomputable def YS (m:Nat) (l:List (Nat × Reg)):Tr->(Tr->Option α)->Option α :=
 ZI (motive:=fun _=>Tr->(Tr->Option α)->Option α) (fun t k=>k t) (fun p _ ih t k=>Vh m t p.1 p.2 fun t=>ih t k) l
theorem RQ{m:Nat}:∀ {l:List (Nat × Reg)} {t:Tr} {s:Ak} {k:Tr->Option α} {y:α},s.length=m->KB t s->YS m l t k=some y->∃ t',k t'=some y/\KB t' (BM s l)
 | [],t,s,k,y,_,ht,h=>⟨t,h,ht⟩
 | (d,r)::l,t,s,k,y,hs,ht,h=>by
  obtain⟨t',h1,h2⟩:=Vi hs ht h;exact RQ (l:=l) (by simp[hs]) h2 (show YS m l t' k=some y from h1)
noncomputable def Aji (m:Nat) (t:Tr) (d:Option Nat) (r:Reg) (k:Tr->Option α):Option α :=
 match d with
 | none=>k t
 | some d=>Vh m t d r k
theorem bP{m:Nat}{t:Tr}{s:Ak}{d:Option Nat}{r:Reg}{k:Tr->Option α}{y:α}(hs:s.length=m)(ht:KB t s)(h:Aji m t d r k=some y):∃ t',k t'=some y/\KB t' (DP s d r):=by
 cases d with
 | none=>exact⟨t,h,ht⟩
 | some d=>exact Vi hs ht h
def Ajj(g:Nat->Reg):Option (Nat × Bool)->Option Bool
 | none=>some true
 | some (t,b)=>match g t with
  | .val (.bool c)=>some (c==b)
  | .val .undef=>some false
  | _=>none
theorem vD(s:Ak)(g:Option (Nat × Bool)):Ajj (A2 s) g=G3 s g:=by cases g <;> rfl
noncomputable def fOp (F:B6) (m:Nat) (o:IOp) (t:Tr) (k:Tr->Option α):Option α :=
 YS m (o.ks.map fun u=>(u,Reg.dead)) t fun t =>
  match Ajj t.get o.g with
  | none=>none
  | some false=>Aji m t o.dst (.val .undef) k
  | some true=>match Ajg F t.get o.k with
   | none=>none
   | some (r,l)=>YS m l t fun t=>Aji m t o.dst r k
theorem Avi{F:B6}{m:Nat}{o:IOp}{t:Tr}{s:Ak}{k:Tr->Option α}{y:α}(hs:s.length=m)(ht:KB t s)(h:fOp F m o t k=some y):∃ s' t',FH F o s=some s'/\s'.length=m/\KB t' s'/\k t'=some y:=by
 unfold fOp at h;obtain⟨t1,h1,h2⟩:=RQ hs ht h;have hs1:(kill s o.ks).length=m:=by rw[kill,F3];exact hs
 have e1:t1.get=A2 (kill s o.ks):=funext h2;rw[e1,vD] at h1;simp only[FH,HI];have hl:∀ (s:Ak) (d:Option Nat) (r:Reg),(DP s d r).length=s.length:=by intro s d r;cases d <;> simp[DP]
 split at h1
 ·cases h1
 ·rename_i hw;rw[hw];obtain⟨t2,h3,h4⟩:=bP hs1 h2 h1;exact⟨_,t2,rfl,by rw[hl];exact hs1,h4,h3⟩
 ·rename_i hw;rw[hw];rw[Ajh] at h1;split at h1
  ·cases h1
  ·rename_i r l hk;obtain⟨t2,h3,h4⟩:=RQ hs1 h2 h1;obtain⟨t3,h5,h6⟩:=bP (by rw[F3];exact hs1) h4 h3;refine⟨_,t3,by simp only[hk],by rw[hl,F3];exact hs1,h6,h5⟩
noncomputable def A3h (F:B6) (m:Nat) (l:List IOp):Tr->(Tr->Option α)->Option α :=
 ZI (motive:=fun _=>Tr->(Tr->Option α)->Option α) (fun t k=>k t) (fun o _ ih t k=>fOp F m o t fun t=>ih t k) l
theorem bQ{F:B6}{m:Nat}:∀ {l:List IOp} {t:Tr} {s:Ak} {k:Tr->Option α} {y:α},s.length=m->KB t s->A3h F m l t k=some y->∃ s' t',DZ F l s=some s'/\s'.length=m/\KB t' s'/\k t'=some y
 | [],t,s,k,y,hs,ht,h=>⟨s,t,rfl,hs,ht,h⟩
 | o::l,t,s,k,y,hs,ht,h=>by
  obtain⟨s1,t1,h1,h2,h3,h4⟩:=Avi hs ht h;obtain⟨s2,t2,h5,h6,h7,h8⟩:=bQ h2 h3 h4;exact⟨s2,t2,by simp only[DZ,h1];exact h5,h6,h7,h8⟩
noncomputable def fC (F:B6) (m:Nat) (n:Nat):ICode->Tr->(Ex->Tr->Option α)->Option α :=
 MK (motive:=fun _=>ICode->Tr->(Ex->Tr->Option α)->Option α) (fun _ _ _=>none) (fun _ ih c t k =>
  match c with
  | .skip=>k .norm t
  | .region _ ops=>A3h F m ops t fun t=>k .norm t
  | .seq a b=>ih a t fun ex t=>(match ex with | .norm=>ih b t k | .exit i=>k (.exit i) t | .ret=>k .ret t)
  | .cond c a b=>(match HF t.get c with | some (.bool true)=>ih a t k | some (.bool false)=>ih b t k | _=>none)
  | .block id c=>ih c t fun ex t=>(match ex with | .norm=>k .norm t | .exit i=>cond (CQ i id) (k .norm t) (k (.exit i) t) | .ret=>k .ret t)
  | .loop c=>ih c t fun ex t=>(match ex with | .norm=>ih (.loop c) t k | .exit i=>k (.exit i) t | .ret=>k .ret t)
  | .scope c=>ih c t k
  | .exit id=>k (.exit id) t
  | .ret=>k .ret t) n
theorem A4e{F:B6}{m:Nat}:∀ (n:Nat) {c:ICode} {t:Tr} {s:Ak} {k:Ex->Tr->Option α} {y:α},s.length=m->KB t s->fC F m n c t k=some y->∃ ex s' t',Ch F n c s=some (ex,s')/\s'.length=m/\KB t' s'/\k ex t'=some y:=by
 intro n;induction n with
 | zero=>intro c t s k y _ _ h;cases h
 | succ n ih =>
  intro c t s k y hs ht h;cases c with
  | skip=>exact⟨.norm,s,t,rfl,hs,ht,h⟩
  | region d ops =>
   obtain⟨s',t',h1,h2,h3,h4⟩:=bQ hs ht h;exact⟨.norm,s',t',by simp only[Ch,h1,A6],h2,h3,h4⟩
  | seq a b =>
   obtain⟨ex,s1,t1,h1,h2,h3,h4⟩:=ih (c:=a) hs ht h;cases ex with
   | norm =>
    obtain⟨ex,s2,t2,h5,h6,h7,h8⟩:=ih (c:=b) h2 h3 h4;exact⟨ex,s2,t2,by simp only[Ch,h1];exact h5,h6,h7,h8⟩
   | exit i=>exact⟨.exit i,s1,t1,by simp only[Ch,h1],h2,h3,h4⟩
   | ret=>exact⟨.ret,s1,t1,by simp only[Ch,h1],h2,h3,h4⟩
  | cond o a b =>
   have e1:t.get=A2 s:=funext ht;have h':(match HF t.get o with | some (.bool true)=>fC F m n a t k | some (.bool false)=>fC F m n b t k | _=>none)=some y:=h
   rw[e1,Q8] at h';split at h'
   ·rename_i hc;obtain⟨ex,s1,t1,h1,h2,h3,h4⟩:=ih (c:=a) hs ht h';exact⟨ex,s1,t1,by simp only[Ch,IY,hc];exact h1,h2,h3,h4⟩
   ·rename_i hc;obtain⟨ex,s1,t1,h1,h2,h3,h4⟩:=ih (c:=b) hs ht h';exact⟨ex,s1,t1,by simp only[Ch,IY,hc];exact h1,h2,h3,h4⟩
   ·cases h'
  | block id c =>
   obtain⟨ex,s1,t1,h1,h2,h3,h4⟩:=ih (c:=c) hs ht h;cases ex with
   | norm=>exact⟨.norm,s1,t1,by simp only[Ch,h1],h2,h3,h4⟩
   | ret=>exact⟨.ret,s1,t1,by simp only[Ch,h1],h2,h3,h4⟩
   | exit i =>
    by_cases hi:i=id
    ·subst hi;have:CQ i i=true:=Nat.beq_refl i;simp only[this,cond_true] at h4;exact⟨.norm,s1,t1,by simp only[Ch,h1,if_true],h2,h3,h4⟩
    ·have:CQ i id=false:=by cases hh:CQ i id with | false=>rfl | true=>exact absurd (CI hh) hi
     simp only[this,cond_false] at h4;exact⟨.exit i,s1,t1,by simp only[Ch,h1,if_neg hi],h2,h3,h4⟩
  | loop c =>
   obtain⟨ex,s1,t1,h1,h2,h3,h4⟩:=ih (c:=c) hs ht h;cases ex with
   | norm =>
    obtain⟨ex,s2,t2,h5,h6,h7,h8⟩:=ih (c := .loop c) h2 h3 h4;exact⟨ex,s2,t2,by simp only[Ch,h1];exact h5,h6,h7,h8⟩
   | exit i=>exact⟨.exit i,s1,t1,by simp only[Ch,h1],h2,h3,h4⟩
   | ret=>exact⟨.ret,s1,t1,by simp only[Ch,h1],h2,h3,h4⟩
  | scope c =>
   obtain⟨ex,s1,t1,h1,h2,h3,h4⟩:=ih (c:=c) hs ht h;exact⟨ex,s1,t1,by simp only[Ch];exact h1,h2,h3,h4⟩
  | exit id=>exact⟨.exit id,s,t,rfl,hs,ht,h⟩
  | ret=>exact⟨.ret,s,t,rfl,hs,ht,h⟩
end
def A3i(g:Nat->Reg):IRes->Option AV
 | .tmp t=>match g t with
  | .val x=>some x
  | .own _ n cs=>some (.sl n cs)
  | _=>none
 | .cell t n one=>match g t with
  | .box cs=>Bl cs 0 n one
  | _=>none
def YT(g:Nat->Reg):List IRes->Option (List AV)
 | []=>some []
 | r::l=>match A3i g r with
  | none=>none
  | some x=>match YT g l with
   | none=>none
   | some xs=>some (x::xs)
def qL(g:Nat->Reg):List IRes->Option AV
 | [.tmp t]=>match g t with
  | .own k n cs=>some (.fresh k n cs)
  | .agn b k n cs=>some (.frs b k n cs)
  | _=>none
 | [.tmp t,.tmp u]=>match g t with
  | .own k n cs=>(match g u with
   | .val (.bool b)=>some (.frs (.tp b) k n cs)
   | _=>none)
  | _=>none
 | [.cell t n one]=>match g t with
  | .bxl d=>(match g d with
   | .agn (.st b) k m cs=>if n=2/\one=false then some (.frs (.st b) k m cs) else none
   | _=>none)
  | _=>none
 | _=>none
def L4(g:Nat->Reg)(l:List IRes):Option AV :=
 match qL g l with
 | some x=>some x
 | none=>match YT g l with
  | some [x]=>some x
  | some xs=>some (.tup xs)
  | none=>none
theorem Ajk(s:Ak)(r:IRes):A3i (A2 s) r=EG s r:=by cases r <;> rfl
theorem Xy(s:Ak):∀ l,YT (A2 s) l=DG s l
 | []=>rfl
 | r::l=>by simp only[YT,DG,Ajk,Xy s l];rfl
theorem iW(s:Ak)(l:List IRes):qL (A2 s) l=Hp s l:=by
 cases l with
 | nil=>rfl
 | cons r l=>cases r <;> cases l <;> rfl
theorem SK(s:Ak)(l:List IRes):L4 (A2 s) l=Hi s l:=by simp only [L4,Hi,iW,Xy];rfl
inductive Pr where
 | e
 | n (l:Pr) (v:Option IFunc) (r:Pr)
noncomputable def Pr.get (t:Pr):Nat->Option IFunc :=
 Pr.rec (motive:=fun _=>Nat->Option IFunc) (fun _=>none) (fun _ v _ gl gr i=>MK (motive:=fun _=>Option IFunc) v (fun j _=>cond (CQ (OT j 2) 0) (gl (Ie j 2)) (gr (Ie j 2))) i) t
noncomputable def YU {α:Type} (m:Nat) (l:List AV):Nat->Tr->(Tr->Option α)->Option α :=
 ZI (motive:=fun _=>Nat->Tr->(Tr->Option α)->Option α) (fun _ t k=>k t) (fun x _ ih i t k=>Vh m t i (K2 x) fun t=>ih (ML i) t k) l
theorem Xz{α:Type}{m:Nat}:∀ {l:List AV} {i:Nat} {t:Tr} {s:Ak} {k:Tr->Option α} {y:α},s.length=m->KB t s->YU m l i t k=some y->∃ t' s',k t'=some y/\KB t' s'/\s'.length=m/\(l=[]\/i+l.length<=m)/\∀ u,A2 s' u=if h:i<=u/\u-i<l.length then K2 (l[u-i]'h.2) else A2 s u
 | [],i,t,s,k,y,hs,ht,h=>⟨t,s,h,ht,hs,.inl rfl,fun u=>by rw[dif_neg (by simp)]⟩
 | x::l,i,t,s,k,y,hs,ht,h=>by
  have hlt:i<m:=by
   have h':Vh m t i (K2 x) (fun t=>YU m l (ML i) t k)=some y:=h;unfold Vh at h';cases hd:Fc i m
   ·rw[hd] at h';cases h'
   ·simpa [IN] using hd
  obtain⟨t1,h1,h2⟩:=Vi hs ht h;obtain⟨t2,s2,h3,h4,h5,h7,h6⟩:=Xz (l:=l) (i:=ML i) (by simp[hs]) h2 h1;refine⟨t2,s2,h3,h4,h5,.inr ?_,fun u => ?_⟩
  ·rcases h7 with rfl | h7
   ·simp;omega
   ·simp;omega
  rw[h6];by_cases hu:u=i
  ·subst hu;rw[dif_neg (by omega),dif_pos ⟨Am _,by simp⟩,Dl,if_pos ⟨rfl,by omega⟩];simp
  ·rw[Dl,if_neg (fun e=>hu e.1.symm)];by_cases hc:ML i<=u/\u-ML i<l.length
   ·rw[dif_pos hc,dif_pos ⟨by omega,by simp;omega⟩];have:u-i=(u-ML i)+1:=by omega
    simp[this]
   ·rw[dif_neg hc,dif_neg (by simp;omega)]
theorem iX{s s':Ak}(hl:s.length=s'.length)(h:∀ u,A2 s u=A2 s' u):s=s':=by
 apply Yx hl;intro i h1 h2;have:=h i;simp only[A2,Z,Ae h1,Ae h2,Gx] at this;exact this
noncomputable def fF (T:Pr) (M:B6) (n:Nat):B6 :=
 MK (motive:=fun _=>B6) (fun _ _=>none) (fun n ih f args =>
  match M f args with
  | some r=>some r
  | none=>match T.get f with
   | none=>none
   | some fn=>cond (CQ args.length fn.params) (YU fn.slots args 0 .e fun t=>fC ih fn.slots n fn.body t fun ex t=>(match ex with
    | .exit _=>none
    | .norm=>(L4 t.get fn.res).bind fun x=>IQ x some
    | .ret=>(L4 t.get fn.res).bind fun x=>IQ x some)) none) n
theorem k{prog:Nat->Option IFunc}{T:Pr}{M:B6}(hT:∀ f fn,T.get f=some fn->prog f=some fn)(hM:Nq prog M):∀ n,Nq prog (fF T M n):=by
 intro n;induction n with
 | zero=>intro f args r h;cases h
 | succ n ih =>
  intro f args r h;have h':(match M f args with
   | some r=>some r
   | none=>match T.get f with
    | none=>none
    | some fn=>cond (CQ args.length fn.params) (YU fn.slots args 0 .e fun t=>fC (fF T M n) fn.slots n fn.body t fun ex t=>(match ex with
     | .exit _=>none
     | .norm=>(L4 t.get fn.res).bind fun x=>IQ x some
     | .ret=>(L4 t.get fn.res).bind fun x=>IQ x some)) none)=some r:=h
  split at h'
  ·rename_i r' hr;cases h';exact hM f args r hr
  ·split at h'
   ·cases h'
   ·rename_i fn hfn;cases hp:CQ args.length fn.params
    ·rw[hp] at h';cases h'
    ·rw[hp] at h';simp only[cond_true] at h';have hpar:args.length=fn.params:=CI hp;obtain⟨t1,s1,h1,h2,h3,h9,h4⟩:=Xz (s:=Aq fn.slots .dead) (by simp) (fun u=>by
      simp only[vC,A2,Z,Kw];split <;> rfl) h'
     obtain⟨ex,s2,t2,h5,h6,h7,h8⟩:=A4e n h3 h2 h1;have hle:args.length<=fn.slots:=by
      rcases h9 with rfl | h9
      ·simp
      ·omega
     have hinit:s1=Hu fn args:=by
      refine iX (by rw[h3];simp[Hu];omega) (fun u => ?_);rw[h4];simp only[Bf,true_and,Ls];simp only[A2,Hu,Z];by_cases hu:u<args.length
      ·rw[dif_pos hu,AJ (by simpa using hu)];simp[hu]
      ·rw[dif_neg hu,AN (by simpa using hu)];simp only[Kw];split <;> split <;> rfl
     subst hinit;have e2:t2.get=A2 s2:=funext h7;have hbody:=Uc ih n h5;cases ex with
     | exit i=>cases h8
     | norm =>
      dsimp only at h8;rw[e2,SK] at h8;simp only[N1] at h8;exact Hk (hT f fn hfn) hpar hbody (fun i e=>by cases e) (by simpa using h8)
     | ret =>
      dsimp only at h8;rw[e2,SK] at h8;simp only[N1] at h8;exact Hk (hT f fn hfn) hpar hbody (fun i e=>by cases e) (by simpa using h8)
def TF(p:Nat->IFunc->Prop):Pr->(Nat->Nat)->Prop
 | .e,_=>True
 | .n l v r,φ=>(∀ fn,v=some fn->p (φ 0) fn)/\TF p l (fun j=>φ (2*j+1))/\TF p r (fun j=>φ (2*j+2))
theorem N2{p:Nat->IFunc->Prop}:∀ {t:Pr} {φ:Nat->Nat} {f:Nat} {fn:IFunc},TF p t φ->t.get f=some fn->p (φ f) fn
 | .e,φ,f,fn,_,h=>by cases h
 | .n l v r,φ,f,fn,ha,h=>by
  cases f with
  | zero=>exact ha.1 fn h
  | succ j =>
   have h':(cond (CQ (j % 2) 0) (l.get (j / 2)) (r.get (j / 2)))=some fn:=h;cases hj:CQ (j % 2) 0
   ·rw[hj] at h';have hj':j % 2=1:=by
     have:¬ j % 2=0:=fun e=>by rw[e] at hj;cases hj
     omega
    have:=N2 ha.2.2 h';have e:2*(j / 2)+2=j+1:=by omega
    simp only[e] at this;exact this
   ·rw[hj] at h';have hj':j % 2=0:=CI hj;have:=N2 ha.2.1 h';have e:2*(j / 2)+1=j+1:=by omega
    simp only[e] at this;exact this
def SL(f:AV->AV->Bool):List AV->List AV->Bool
 | [],[]=>true
 | x::xs,y::ys=>f x y&&SL f xs ys
 | _,_=>false
def P5:Nat->AV->AV->Bool
 | 0,_,_=>false
 | n+1,x,y=>match x,y with
  | .int k a,.int k' b=>isK k k'&&W7 a b
  | .bool a,.bool b=>a==b
  | .nil,.nil=>true
  | .undef,.undef=>true
  | .agg xs,.agg ys=>SL (P5 n) xs ys
  | .tup xs,.tup ys=>SL (P5 n) xs ys
  | .sl a xs,.sl b ys=>CQ a b&&SL (P5 n) xs ys
  | _,_=>false
theorem N3{f:AV->AV->Bool}(h:∀ x y,f x y=true->x=y):∀ {xs ys:List AV},SL f xs ys=true->xs=ys
 | [],[],_=>rfl
 | x::xs,y::ys,hh=>by
  simp only[SL,Ac] at hh;rw[h x y hh.1,N3 h hh.2]
 | [],_::_,hh=>by cases hh
 | _::_,[],hh=>by cases hh
theorem vE:∀ (n:Nat) (x y:AV),P5 n x y=true->x=y:=by
 intro n;induction n with
 | zero=>intro x y h;cases h
 | succ n ih =>
  intro x y h;cases x <;> cases y <;> simp only[P5,Ac,BX,qJ,qI,decide_eq_true_eq,beq_iff_eq] at h
  ·rw[h.1,h.2]
  ·rw[h]
  ·rw[N3 ih h]
  ·rfl
  ·rw[CI h.1,N3 ih h.2]
  ·rw[N3 ih h]
  ·rfl
def A3j(f:Nat)(args:List AV)(r:AV)(M:B6):B6:=fun f' args'=>cond (CQ f' f&&SL (P5 9) args' args) (some r) (M f' args')
theorem b{prog:Nat->Option IFunc}{f:Nat}{args:List AV}{r:AV}{M:B6}(h:H prog f args r)(hM:Nq prog M):Nq prog (A3j f args r M):=by
 intro f' args' r' h';unfold A3j at h';cases hc:(CQ f' f&&SL (P5 9) args' args)
 ·rw[hc] at h';exact hM f' args' r' h'
 ·rw[hc] at h';cases h';rw[Ac] at hc;rw[CI hc.1,N3 (vE 9) hc.2];exact h
def Avj:B6:=fun _ _=>none
theorem j(prog:Nat->Option IFunc):Nq prog Avj:=fun _ _ _ h=>by cases h
end Go.Ai
namespace Go.Proofs.YtajompaehjkgkaaGreat
open Go.Ai
set_option maxRecDepth 100000
open Go.Proofs.Tryz renaming func5->Aud,prog->c
open List renaming forall_mem_cons->J,mem_cons_of_mem->A_,mem_cons_self->Bs
theorem Avk:c.follows .mixedOrders=true:=by kernel_rfl
def Ajl:List (Nat × IFunc):=[(5,YC),(12,qA),(13,Ui),(14,SB),(15,Xi),(17,Nt),(18,Nu),(20,aB),(21,aC),(22,aD),(23,qB),(24,aE),(25,Xj),(26,Xk),(27,OR),(28,aG),(29,aH),(33,aI),(46,aJ),(47,qC),(49,qD),(50,aK),(51,Xl),(52,aM),(53,aN),(54,Ul),(55,aO),(56,Xn),(57,aP),(58,Um),(61,Un),(62,aQ),(63,aR),(64,Uo),(65,aT),(66,aV),(67,SC),(68,aW),(70,Xp),(73,OS),(74,qE),(75,Xq),(76,MJ),(77,aX),(78,aY),(79,Up),(80,bA),(81,bB),(82,Uq),(83,SE),(84,bD),(86,Xs),(95,Ur),(96,bF),(97,bG),(98,qF),(99,bH),(100,Rx),(101,YD),(102,Ry),(103,Nv),(104,Rz),(105,Pu),(106,Ut),(107,Uu),(108,R0),(110,Uw),(111,YE),(112,Uy),(113,YF),(114,HL),(115,R2),(116,U0),(117,U2),(118,U3),(119,U4),(120,Px),(122,U6),(123,U8),(124,YG),(125,U9),(126,R4),(127,YH),(128,Jc),(129,UA),(130,R6),(131,YI),(132,YJ),(133,UB),(134,R7),(135,R8),(136,YK),(137,UD),(138,UE),(143,R9),(144,UF),(145,UG),(146,UH),(147,RA),(148,UI),(149,UJ),(150,YL),(151,RI),(152,RJ),(153,UL),(154,YM),(155,P2),(156,UN),(157,UO),(158,UP),(159,RL),(160,UQ),(161,UR),(163,JV),(164,US),(165,P3),(177,UT),(178,RM),(179,UU),(180,P4),(181,UV),(182,UX),(183,UZ),(184,U'),(187,Va),(188,Vb),(189,Ve)]
def I(f:Nat):Option IFunc:=Ajl.lookup f
theorem Ajm:∀ p∈Ajl,∃ fn roots,c.funcs[p.1]?=some fn/\AR c roots fn p.2=true:=by
 unfold Ajl;refine J.2 ⟨⟨_,Yr5,Aud,Ave⟩,?_⟩;refine J.2 ⟨⟨_,A1c,Tryz.func12,Aeb⟩,?_⟩;refine J.2 ⟨⟨_,A1d,Tryz.func13,Aec⟩,?_⟩;refine J.2 ⟨⟨_,A1e,Tryz.func14,Aed⟩,?_⟩;refine J.2 ⟨⟨_,A1f,Tryz.func15,Aee⟩,?_⟩;refine J.2 ⟨⟨_,A1g,Tryz.func17,Aef⟩,?_⟩;refine J.2 ⟨⟨_,A1h,Tryz.func18,Aeg⟩,?_⟩;refine J.2 ⟨⟨_,A1i,Tryz.func20,Aeh⟩,?_⟩;refine J.2 ⟨⟨_,A1j,Tryz.func21,Aei⟩,?_⟩;refine J.2 ⟨⟨_,A1k,Tryz.func22,Aej⟩,?_⟩;refine J.2 ⟨⟨_,A1l,Tryz.func23,Aek⟩,?_⟩;refine J.2 ⟨⟨_,A1m,Tryz.func24,Ael⟩,?_⟩;refine J.2 ⟨⟨_,A1n,Tryz.func25,Aem⟩,?_⟩;refine J.2 ⟨⟨_,A1o,Tryz.func26,Aen⟩,?_⟩;refine J.2 ⟨⟨_,A1p,Tryz.func27,Aeo⟩,?_⟩;refine J.2 ⟨⟨_,A1q,Tryz.func28,Aep⟩,?_⟩;refine J.2 ⟨⟨_,A1r,Tryz.func29,Aeq⟩,?_⟩;refine J.2 ⟨⟨_,A1s,Tryz.func33,Aer⟩,?_⟩;refine J.2 ⟨⟨_,A1t,Tryz.func46,Aes⟩,?_⟩;refine J.2 ⟨⟨_,A1u,Tryz.func47,Aet⟩,?_⟩;refine J.2 ⟨⟨_,A1v,Tryz.func49,Aeu⟩,?_⟩;refine J.2 ⟨⟨_,A1w,Tryz.func50,Aev⟩,?_⟩;refine J.2 ⟨⟨_,A1x,Tryz.func51,Aew⟩,?_⟩;refine J.2 ⟨⟨_,A1y,Tryz.func52,Aex⟩,?_⟩;refine J.2 ⟨⟨_,A1z,Tryz.func53,Aey⟩,?_⟩;refine J.2 ⟨⟨_,A2a,Tryz.func54,Aez⟩,?_⟩;refine J.2 ⟨⟨_,A2b,Tryz.func55,Afa⟩,?_⟩;refine J.2 ⟨⟨_,A2c,Tryz.func56,Afb⟩,?_⟩;refine J.2 ⟨⟨_,A2d,Tryz.func57,Afc⟩,?_⟩;refine J.2 ⟨⟨_,A2e,Tryz.func58,Afd⟩,?_⟩;refine J.2 ⟨⟨_,A2f,Tryz.func61,Afe⟩,?_⟩;refine J.2 ⟨⟨_,A2g,Tryz.func62,Aff⟩,?_⟩;refine J.2 ⟨⟨_,A2h,Tryz.func63,Afg⟩,?_⟩;refine J.2 ⟨⟨_,A2i,Tryz.func64,Afh⟩,?_⟩;refine J.2 ⟨⟨_,A2j,Tryz.func65,Afi⟩,?_⟩;refine J.2 ⟨⟨_,A2k,Tryz.func66,Afj⟩,?_⟩;refine J.2 ⟨⟨_,A2l,Tryz.func67,Afk⟩,?_⟩;refine J.2 ⟨⟨_,A2m,Tryz.func68,Afl⟩,?_⟩;refine J.2 ⟨⟨_,A2n,Tryz.func70,Afm⟩,?_⟩;refine J.2 ⟨⟨_,A2o,Tryz.func73,Afn⟩,?_⟩;refine J.2 ⟨⟨_,A2p,Tryz.func74,Afo⟩,?_⟩;refine J.2 ⟨⟨_,A2q,Tryz.func75,Afp⟩,?_⟩;refine J.2 ⟨⟨_,A2r,Tryz.func76,Afq⟩,?_⟩;refine J.2 ⟨⟨_,A2s,Tryz.func77,Afr⟩,?_⟩;refine J.2 ⟨⟨_,A2t,Tryz.func78,Afs⟩,?_⟩;refine J.2 ⟨⟨_,A2u,Tryz.func79,Aft⟩,?_⟩;refine J.2 ⟨⟨_,A2v,Tryz.func80,Afu⟩,?_⟩;refine J.2 ⟨⟨_,A2w,Tryz.func81,Afv⟩,?_⟩;refine J.2 ⟨⟨_,A2x,Tryz.func82,Afw⟩,?_⟩;refine J.2 ⟨⟨_,A2y,Tryz.func83,Afx⟩,?_⟩;refine J.2 ⟨⟨_,A2z,Tryz.func84,Afy⟩,?_⟩;refine J.2 ⟨⟨_,A3a,Tryz.func86,Afz⟩,?_⟩;refine J.2 ⟨⟨_,A3b,Tryz.func95,Aga⟩,?_⟩;refine J.2 ⟨⟨_,A3c,Tryz.func96,Agb⟩,?_⟩;refine J.2 ⟨⟨_,A3d,Tryz.func97,Agc⟩,?_⟩;refine J.2 ⟨⟨_,A3e,Tryz.func98,Agd⟩,?_⟩;refine J.2 ⟨⟨_,A3f,Tryz.func99,Age⟩,?_⟩;refine J.2 ⟨⟨_,Agf,Tryz.func100,sD⟩,?_⟩;refine J.2 ⟨⟨_,Agg,Tryz.func101,sE⟩,?_⟩;refine J.2 ⟨⟨_,Agh,Tryz.func102,sF⟩,?_⟩;refine J.2 ⟨⟨_,Agi,Tryz.func103,sG⟩,?_⟩;refine J.2 ⟨⟨_,Agj,Tryz.func104,sH⟩,?_⟩;refine J.2 ⟨⟨_,Agk,Tryz.func105,sI⟩,?_⟩;refine J.2 ⟨⟨_,Agl,Tryz.func106,sJ⟩,?_⟩;refine J.2 ⟨⟨_,Agm,Tryz.func107,sK⟩,?_⟩;refine J.2 ⟨⟨_,Agn,Tryz.func108,sM⟩,?_⟩;refine J.2 ⟨⟨_,Ago,Tryz.func110,sN⟩,?_⟩;refine J.2 ⟨⟨_,Agp,Tryz.func111,sO⟩,?_⟩;refine J.2 ⟨⟨_,Agq,Tryz.func112,sP⟩,?_⟩;refine J.2 ⟨⟨_,Agr,Tryz.func113,sQ⟩,?_⟩;refine J.2 ⟨⟨_,Ags,Tryz.func114,sR⟩,?_⟩;refine J.2 ⟨⟨_,Agt,Tryz.func115,sS⟩,?_⟩;refine J.2 ⟨⟨_,Agu,Tryz.func116,sT⟩,?_⟩;refine J.2 ⟨⟨_,Agv,Tryz.func117,sU⟩,?_⟩;refine J.2 ⟨⟨_,Agw,Tryz.func118,sV⟩,?_⟩;refine J.2 ⟨⟨_,Agx,Tryz.func119,sW⟩,?_⟩;refine J.2 ⟨⟨_,Agy,Tryz.func120,sX⟩,?_⟩;refine J.2 ⟨⟨_,Agz,Tryz.func122,sY⟩,?_⟩;refine J.2 ⟨⟨_,Aha,Tryz.func123,sZ⟩,?_⟩;refine J.2 ⟨⟨_,Ahb,Tryz.func124,tA⟩,?_⟩;refine J.2 ⟨⟨_,Ahc,Tryz.func125,tB⟩,?_⟩;refine J.2 ⟨⟨_,Ahd,Tryz.func126,tC⟩,?_⟩;refine J.2 ⟨⟨_,Ahe,Tryz.func127,tD⟩,?_⟩;refine J.2 ⟨⟨_,Ahf,Tryz.func128,tE⟩,?_⟩;refine J.2 ⟨⟨_,Ahg,Tryz.func129,tF⟩,?_⟩;refine J.2 ⟨⟨_,Ahh,Tryz.func130,tH⟩,?_⟩;refine J.2 ⟨⟨_,Ahi,Tryz.func131,tI⟩,?_⟩;refine J.2 ⟨⟨_,Ahj,Tryz.func132,tJ⟩,?_⟩;refine J.2 ⟨⟨_,Ahk,Tryz.func133,tK⟩,?_⟩;refine J.2 ⟨⟨_,Ahl,Tryz.func134,tL⟩,?_⟩;refine J.2 ⟨⟨_,Ahm,Tryz.func135,tM⟩,?_⟩;refine J.2 ⟨⟨_,Ahn,Tryz.func136,tN⟩,?_⟩;refine J.2 ⟨⟨_,Aho,Tryz.func137,tP⟩,?_⟩;refine J.2 ⟨⟨_,Ahp,Tryz.func138,tQ⟩,?_⟩;refine J.2 ⟨⟨_,Ahq,Tryz.func143,tR⟩,?_⟩;refine J.2 ⟨⟨_,Ahr,Tryz.func144,tS⟩,?_⟩;refine J.2 ⟨⟨_,Ahs,Tryz.func145,tT⟩,?_⟩;refine J.2 ⟨⟨_,Aht,Tryz.func146,tU⟩,?_⟩;refine J.2 ⟨⟨_,Ahu,Tryz.func147,tV⟩,?_⟩;refine J.2 ⟨⟨_,Ahv,Tryz.func148,tW⟩,?_⟩;refine J.2 ⟨⟨_,Ahw,Tryz.func149,tX⟩,?_⟩;refine J.2 ⟨⟨_,Ahx,Tryz.func150,tY⟩,?_⟩;refine J.2 ⟨⟨_,Ahy,Tryz.func151,tZ⟩,?_⟩;refine J.2 ⟨⟨_,Ahz,Tryz.func152,uA⟩,?_⟩;refine J.2 ⟨⟨_,Aia,Tryz.func153,uB⟩,?_⟩;refine J.2 ⟨⟨_,Aib,Tryz.func154,uC⟩,?_⟩;refine J.2 ⟨⟨_,Aic,Tryz.func155,uD⟩,?_⟩;refine J.2 ⟨⟨_,Aid,Tryz.func156,uE⟩,?_⟩;refine J.2 ⟨⟨_,Aie,Tryz.func157,uF⟩,?_⟩;refine J.2 ⟨⟨_,Aif,Tryz.func158,uG⟩,?_⟩;refine J.2 ⟨⟨_,Aig,Tryz.func159,uH⟩,?_⟩;refine J.2 ⟨⟨_,Aih,Tryz.func160,uI⟩,?_⟩;refine J.2 ⟨⟨_,Aii,Tryz.func161,uJ⟩,?_⟩;refine J.2 ⟨⟨_,Aij,Tryz.func163,uK⟩,?_⟩;refine J.2 ⟨⟨_,Aik,Tryz.func164,uL⟩,?_⟩;refine J.2 ⟨⟨_,Ail,Tryz.func165,uM⟩,?_⟩;refine J.2 ⟨⟨_,Aim,Tryz.func177,uN⟩,?_⟩;refine J.2 ⟨⟨_,Ain,Tryz.func178,uO⟩,?_⟩;refine J.2 ⟨⟨_,Aio,Tryz.func179,uP⟩,?_⟩;refine J.2 ⟨⟨_,Aip,Tryz.func180,uQ⟩,?_⟩;refine J.2 ⟨⟨_,Aiq,Tryz.func181,uR⟩,?_⟩;refine J.2 ⟨⟨_,Air,Tryz.func182,uS⟩,?_⟩;refine J.2 ⟨⟨_,Ais,Tryz.func183,uT⟩,?_⟩;refine J.2 ⟨⟨_,Ait,Tryz.func184,uU⟩,?_⟩;refine J.2 ⟨⟨_,Aiu,Tryz.func187,uV⟩,?_⟩;refine J.2 ⟨⟨_,Aiv,Tryz.func188,uW⟩,?_⟩;refine J.2 ⟨⟨_,Aiw,Tryz.func189,uX⟩,?_⟩;intro p hp;cases hp
theorem SM{α:Type}{f:Nat}{x:α}:∀ {l:List (Nat × α)},l.lookup f=some x->(f,x)∈l
 | [],h=>by cases h
 | (g,y)::l,h=>by
  simp only[List.lookup] at h;by_cases hg:f=g
  ·subst hg;simp at h;subst h;exact Bs
  ·have:(f==g)=false:=by simpa using hg
   rw[this] at h;exact A_ _ (SM h)
theorem Avl:∀ f ifn,I f=some ifn->∃ fn roots,c.funcs[f]?=some fn/\AR c roots fn ifn=true:=fun _ _ h=>Ajm _ (SM h)
theorem A4f:I 5=some YC:=by kernel_rfl
theorem Avm:I 12=some qA:=by kernel_rfl
theorem Avn:I 13=some Ui:=by kernel_rfl
theorem Avo:I 14=some SB:=by kernel_rfl
theorem Avp:I 15=some Xi:=by kernel_rfl
theorem Avq:I 17=some Nt:=by kernel_rfl
theorem Avr:I 18=some Nu:=by kernel_rfl
theorem Avs:I 20=some aB:=by kernel_rfl
theorem Avt:I 21=some aC:=by kernel_rfl
theorem Avu:I 22=some aD:=by kernel_rfl
theorem Avv:I 23=some qB:=by kernel_rfl
theorem Avw:I 24=some aE:=by kernel_rfl
theorem Avx:I 25=some Xj:=by kernel_rfl
theorem Avy:I 26=some Xk:=by kernel_rfl
theorem Avz:I 27=some OR:=by kernel_rfl
theorem Awa:I 28=some aG:=by kernel_rfl
theorem Awb:I 29=some aH:=by kernel_rfl
theorem Awc:I 33=some aI:=by kernel_rfl
theorem Awd:I 46=some aJ:=by kernel_rfl
theorem Awe:I 47=some qC:=by kernel_rfl
theorem Awf:I 49=some qD:=by kernel_rfl
theorem Awg:I 50=some aK:=by kernel_rfl
theorem Awh:I 51=some Xl:=by kernel_rfl
theorem Awi:I 52=some aM:=by kernel_rfl
theorem Awj:I 53=some aN:=by kernel_rfl
theorem Awk:I 54=some Ul:=by kernel_rfl
theorem Awl:I 55=some aO:=by kernel_rfl
theorem Awm:I 56=some Xn:=by kernel_rfl
theorem Awn:I 57=some aP:=by kernel_rfl
theorem Awo:I 58=some Um:=by kernel_rfl
theorem Awp:I 61=some Un:=by kernel_rfl
theorem Awq:I 62=some aQ:=by kernel_rfl
theorem Awr:I 63=some aR:=by kernel_rfl
theorem Aws:I 64=some Uo:=by kernel_rfl
theorem Awt:I 65=some aT:=by kernel_rfl
theorem Awu:I 66=some aV:=by kernel_rfl
theorem Awv:I 67=some SC:=by kernel_rfl
theorem Aww:I 68=some aW:=by kernel_rfl
theorem Awx:I 70=some Xp:=by kernel_rfl
theorem Awy:I 73=some OS:=by kernel_rfl
theorem Awz:I 74=some qE:=by kernel_rfl
theorem Axa:I 75=some Xq:=by kernel_rfl
theorem Axb:I 76=some MJ:=by kernel_rfl
theorem Axc:I 77=some aX:=by kernel_rfl
theorem Axd:I 78=some aY:=by kernel_rfl
theorem Axe:I 79=some Up:=by kernel_rfl
theorem Axf:I 80=some bA:=by kernel_rfl
theorem Axg:I 81=some bB:=by kernel_rfl
theorem Axh:I 82=some Uq:=by kernel_rfl
theorem Axi:I 83=some SE:=by kernel_rfl
theorem Axj:I 84=some bD:=by kernel_rfl
theorem Axk:I 86=some Xs:=by kernel_rfl
theorem Axl:I 95=some Ur:=by kernel_rfl
theorem Axm:I 96=some bF:=by kernel_rfl
theorem Axn:I 97=some bG:=by kernel_rfl
theorem Axo:I 98=some qF:=by kernel_rfl
theorem Axp:I 99=some bH:=by kernel_rfl
theorem Ajn:I 100=some Rx:=by kernel_rfl
theorem Ajo:I 101=some YD:=by kernel_rfl
theorem Ajp:I 102=some Ry:=by kernel_rfl
theorem Ajq:I 103=some Nv:=by kernel_rfl
theorem Ajr:I 104=some Rz:=by kernel_rfl
theorem Ajs:I 105=some Pu:=by kernel_rfl
theorem Ajt:I 106=some Ut:=by kernel_rfl
theorem Aju:I 107=some Uu:=by kernel_rfl
theorem Ajv:I 108=some R0:=by kernel_rfl
theorem Ajw:I 110=some Uw:=by kernel_rfl
theorem Ajx:I 111=some YE:=by kernel_rfl
theorem Ajy:I 112=some Uy:=by kernel_rfl
theorem Ajz:I 113=some YF:=by kernel_rfl
theorem Aka:I 114=some HL:=by kernel_rfl
theorem Akb:I 115=some R2:=by kernel_rfl
theorem Akc:I 116=some U0:=by kernel_rfl
theorem Akd:I 117=some U2:=by kernel_rfl
theorem Ake:I 118=some U3:=by kernel_rfl
theorem Akf:I 119=some U4:=by kernel_rfl
theorem Akg:I 120=some Px:=by kernel_rfl
theorem Akh:I 122=some U6:=by kernel_rfl
theorem Aki:I 123=some U8:=by kernel_rfl
theorem Akj:I 124=some YG:=by kernel_rfl
theorem Akk:I 125=some U9:=by kernel_rfl
theorem Akl:I 126=some R4:=by kernel_rfl
theorem Akm:I 127=some YH:=by kernel_rfl
theorem Akn:I 128=some Jc:=by kernel_rfl
theorem Ako:I 129=some UA:=by kernel_rfl
theorem Akp:I 130=some R6:=by kernel_rfl
theorem Akq:I 131=some YI:=by kernel_rfl
theorem Akr:I 132=some YJ:=by kernel_rfl
theorem Aks:I 133=some UB:=by kernel_rfl
theorem Akt:I 134=some R7:=by kernel_rfl
theorem Aku:I 135=some R8:=by kernel_rfl
theorem Akv:I 136=some YK:=by kernel_rfl
theorem Akw:I 137=some UD:=by kernel_rfl
theorem Akx:I 138=some UE:=by kernel_rfl
theorem Aky:I 143=some R9:=by kernel_rfl
theorem Akz:I 144=some UF:=by kernel_rfl
theorem Ala:I 145=some UG:=by kernel_rfl
theorem Alb:I 146=some UH:=by kernel_rfl
theorem Alc:I 147=some RA:=by kernel_rfl
theorem Ald:I 148=some UI:=by kernel_rfl
theorem Ale:I 149=some UJ:=by kernel_rfl
theorem Alf:I 150=some YL:=by kernel_rfl
theorem Alg:I 151=some RI:=by kernel_rfl
theorem Alh:I 152=some RJ:=by kernel_rfl
theorem Ali:I 153=some UL:=by kernel_rfl
theorem Alj:I 154=some YM:=by kernel_rfl
theorem Alk:I 155=some P2:=by kernel_rfl
theorem Alm:I 156=some UN:=by kernel_rfl
theorem Aln:I 157=some UO:=by kernel_rfl
theorem Alo:I 158=some UP:=by kernel_rfl
theorem Alp:I 159=some RL:=by kernel_rfl
theorem Alq:I 160=some UQ:=by kernel_rfl
theorem Alr:I 161=some UR:=by kernel_rfl
theorem Als:I 163=some JV:=by kernel_rfl
theorem Alt:I 164=some US:=by kernel_rfl
theorem Alu:I 165=some P3:=by kernel_rfl
theorem Alv:I 177=some UT:=by kernel_rfl
theorem Alw:I 178=some RM:=by kernel_rfl
theorem Alx:I 179=some UU:=by kernel_rfl
theorem Aly:I 180=some P4:=by kernel_rfl
theorem Alz:I 181=some UV:=by kernel_rfl
theorem Ama:I 182=some UX:=by kernel_rfl
theorem Amb:I 183=some UZ:=by kernel_rfl
theorem Amc:I 184=some U':=by kernel_rfl
theorem Amd:I 187=some Va:=by kernel_rfl
theorem Ame:I 188=some Vb:=by kernel_rfl
theorem Amf:I 189=some Ve:=by kernel_rfl
def Ypr:Pr := .n (.n (.n (.n (.n (.n (.n (.n .e (some YH) .e) (some aR) .e) none (.n (.n .e (some RL) .e) (some Ur) .e)) (some Xi) (.n (.n (.n .e (some R9) .e) (some Up) .e) (some qC) (.n (.n .e none .e) (some YE) .e))) none (.n (.n (.n (.n .e (some R8) .e) none .e) none (.n (.n .e none .e) (some Nv) .e)) (some qB) (.n (.n (.n .e (some RI) .e) none .e) (some aO) (.n (.n .e (some UZ) .e) (some U4) .e)))) none (.n (.n (.n (.n (.n .e (some YI) .e) (some SC) .e) none (.n (.n .e (some JV) .e) (some bH) .e)) none (.n (.n (.n .e (some RA) .e) (some SE) .e) (some Xl) (.n (.n .e (some UU) .e) (some R2) .e))) none (.n (.n (.n (.n .e none .e) (some Xq) .e) none (.n (.n .e none .e) (some Uu) .e)) (some OR) (.n (.n (.n .e (some P2) .e) none .e) none (.n (.n .e (some Va) .e) (some U8) .e))))) none (.n (.n (.n (.n (.n (.n .e (some UA) .e) (some aT) .e) (some aI) (.n (.n .e (some UR) .e) (some bG) .e)) (some Nt) (.n (.n (.n .e (some UG) .e) (some bB) .e) (some qD) (.n (.n .e (some UT) .e) (some YF) .e))) none (.n (.n (.n (.n .e (some UD) .e) (some OS) .e) none (.n (.n .e none .e) (some Pu) .e)) (some Xj) (.n (.n (.n .e (some UL) .e) none .e) (some aP) (.n (.n .e none .e) none .e)))) (some YC) (.n (.n (.n (.n (.n .e (some UB) .e) none .e) none (.n (.n .e (some P3) .e) (some YD) .e)) (some aC) (.n (.n (.n .e (some UJ) .e) none .e) (some aN) (.n (.n .e (some UV) .e) (some U2) .e))) (some Ui) (.n (.n (.n (.n .e none .e) (some aX) .e) none (.n (.n .e none .e) none .e)) (some aH) (.n (.n (.n .e (some UO) .e) none .e) (some Un) (.n (.n .e (some Ve) .e) (some U9) .e)))))) none (.n (.n (.n (.n (.n (.n (.n .e (some Jc) .e) (some Uo) .e) none (.n (.n .e (some UQ) .e) (some bF) .e)) none (.n (.n (.n .e (some UF) .e) (some bA) .e) none (.n (.n .e none .e) (some Uy) .e))) none (.n (.n (.n (.n .e (some YK) .e) none .e) none (.n (.n .e none .e) (some Rz) .e)) (some aE) (.n (.n (.n .e (some RJ) .e) none .e) (some Xn) (.n (.n .e (some U') .e) (some Px) .e)))) none (.n (.n (.n (.n (.n .e (some YJ) .e) (some aW) .e) none (.n (.n .e (some US) .e) (some Rx) .e)) (some aB) (.n (.n (.n .e (some UI) .e) (some bD) .e) (some aM) (.n (.n .e (some P4) .e) (some U0) .e))) (some qA) (.n (.n (.n (.n .e none .e) (some MJ) .e) none (.n (.n .e none .e) (some R0) .e)) (some aG) (.n (.n (.n .e (some UN) .e) none .e) none (.n (.n .e (some Vb) .e) (some YG) .e))))) none (.n (.n (.n (.n (.n (.n .e (some R6) .e) (some aV) .e) none (.n (.n .e none .e) (some qF) .e)) (some Nu) (.n (.n (.n .e (some UH) .e) (some Uq) .e) (some aK) (.n (.n .e (some RM) .e) (some HL) .e))) none (.n (.n (.n (.n .e (some UE) .e) (some qE) .e) none (.n (.n .e none .e) (some Ut) .e)) (some Xk) (.n (.n (.n .e (some YM) .e) none .e) (some Um) (.n (.n .e none .e) (some U6) .e)))) none (.n (.n (.n (.n (.n .e (some R7) .e) (some Xp) .e) none (.n (.n .e none .e) (some Ry) .e)) (some aD) (.n (.n (.n .e (some YL) .e) (some Xs) .e) (some Ul) (.n (.n .e (some UX) .e) (some U3) .e))) (some SB) (.n (.n (.n (.n .e none .e) (some aY) .e) (some aJ) (.n (.n .e none .e) (some Uw) .e)) none (.n (.n (.n .e (some UP) .e) none .e) (some aQ) (.n .e (some R4) .e))))))
theorem Amg:TF (fun f fn=>I f=some fn) Ypr id:=⟨(fun _ h=>nomatch h),⟨(fun _ h=>nomatch h),⟨(fun _ h=>nomatch h),⟨(fun _ h=>nomatch h),⟨(fun _ h=>Avp.trans h),⟨(fun _ h=>nomatch h),⟨(fun _ h=>Awr.trans h),⟨(fun _ h=>Akm.trans h),trivial,trivial⟩,trivial⟩,⟨(fun _ h=>Axl.trans h),⟨(fun _ h=>Alp.trans h),trivial,trivial⟩,trivial⟩⟩,⟨(fun _ h=>Awe.trans h),⟨(fun _ h=>Axe.trans h),⟨(fun _ h=>Aky.trans h),trivial,trivial⟩,trivial⟩,⟨(fun _ h=>Ajx.trans h),⟨(fun _ h=>nomatch h),trivial,trivial⟩,trivial⟩⟩⟩,⟨(fun _ h=>Avv.trans h),⟨(fun _ h=>nomatch h),⟨(fun _ h=>nomatch h),⟨(fun _ h=>Aku.trans h),trivial,trivial⟩,trivial⟩,⟨(fun _ h=>Ajq.trans h),⟨(fun _ h=>nomatch h),trivial,trivial⟩,trivial⟩⟩,⟨(fun _ h=>Awl.trans h),⟨(fun _ h=>nomatch h),⟨(fun _ h=>Alg.trans h),trivial,trivial⟩,trivial⟩,⟨(fun _ h=>Akf.trans h),⟨(fun _ h=>Amb.trans h),trivial,trivial⟩,trivial⟩⟩⟩⟩,⟨(fun _ h=>nomatch h),⟨(fun _ h=>nomatch h),⟨(fun _ h=>nomatch h),⟨(fun _ h=>Awv.trans h),⟨(fun _ h=>Akq.trans h),trivial,trivial⟩,trivial⟩,⟨(fun _ h=>Axp.trans h),⟨(fun _ h=>Als.trans h),trivial,trivial⟩,trivial⟩⟩,⟨(fun _ h=>Awh.trans h),⟨(fun _ h=>Axi.trans h),⟨(fun _ h=>Alc.trans h),trivial,trivial⟩,trivial⟩,⟨(fun _ h=>Akb.trans h),⟨(fun _ h=>Alx.trans h),trivial,trivial⟩,trivial⟩⟩⟩,⟨(fun _ h=>Avz.trans h),⟨(fun _ h=>nomatch h),⟨(fun _ h=>Axa.trans h),⟨(fun _ h=>nomatch h),trivial,trivial⟩,trivial⟩,⟨(fun _ h=>Aju.trans h),⟨(fun _ h=>nomatch h),trivial,trivial⟩,trivial⟩⟩,⟨(fun _ h=>nomatch h),⟨(fun _ h=>nomatch h),⟨(fun _ h=>Alk.trans h),trivial,trivial⟩,trivial⟩,⟨(fun _ h=>Aki.trans h),⟨(fun _ h=>Amd.trans h),trivial,trivial⟩,trivial⟩⟩⟩⟩⟩,⟨(fun _ h=>A4f.trans h),⟨(fun _ h=>nomatch h),⟨(fun _ h=>Avq.trans h),⟨(fun _ h=>Awc.trans h),⟨(fun _ h=>Awt.trans h),⟨(fun _ h=>Ako.trans h),trivial,trivial⟩,trivial⟩,⟨(fun _ h=>Axn.trans h),⟨(fun _ h=>Alr.trans h),trivial,trivial⟩,trivial⟩⟩,⟨(fun _ h=>Awf.trans h),⟨(fun _ h=>Axg.trans h),⟨(fun _ h=>Ala.trans h),trivial,trivial⟩,trivial⟩,⟨(fun _ h=>Ajz.trans h),⟨(fun _ h=>Alv.trans h),trivial,trivial⟩,trivial⟩⟩⟩,⟨(fun _ h=>Avx.trans h),⟨(fun _ h=>nomatch h),⟨(fun _ h=>Awy.trans h),⟨(fun _ h=>Akw.trans h),trivial,trivial⟩,trivial⟩,⟨(fun _ h=>Ajs.trans h),⟨(fun _ h=>nomatch h),trivial,trivial⟩,trivial⟩⟩,⟨(fun _ h=>Awn.trans h),⟨(fun _ h=>nomatch h),⟨(fun _ h=>Ali.trans h),trivial,trivial⟩,trivial⟩,⟨(fun _ h=>nomatch h),⟨(fun _ h=>nomatch h),trivial,trivial⟩,trivial⟩⟩⟩⟩,⟨(fun _ h=>Avn.trans h),⟨(fun _ h=>Avt.trans h),⟨(fun _ h=>nomatch h),⟨(fun _ h=>nomatch h),⟨(fun _ h=>Aks.trans h),trivial,trivial⟩,trivial⟩,⟨(fun _ h=>Ajo.trans h),⟨(fun _ h=>Alu.trans h),trivial,trivial⟩,trivial⟩⟩,⟨(fun _ h=>Awj.trans h),⟨(fun _ h=>nomatch h),⟨(fun _ h=>Ale.trans h),trivial,trivial⟩,trivial⟩,⟨(fun _ h=>Akd.trans h),⟨(fun _ h=>Alz.trans h),trivial,trivial⟩,trivial⟩⟩⟩,⟨(fun _ h=>Awb.trans h),⟨(fun _ h=>nomatch h),⟨(fun _ h=>Axc.trans h),⟨(fun _ h=>nomatch h),trivial,trivial⟩,trivial⟩,⟨(fun _ h=>nomatch h),⟨(fun _ h=>nomatch h),trivial,trivial⟩,trivial⟩⟩,⟨(fun _ h=>Awp.trans h),⟨(fun _ h=>nomatch h),⟨(fun _ h=>Aln.trans h),trivial,trivial⟩,trivial⟩,⟨(fun _ h=>Akk.trans h),⟨(fun _ h=>Amf.trans h),trivial,trivial⟩,trivial⟩⟩⟩⟩⟩⟩,⟨(fun _ h=>nomatch h),⟨(fun _ h=>nomatch h),⟨(fun _ h=>nomatch h),⟨(fun _ h=>nomatch h),⟨(fun _ h=>nomatch h),⟨(fun _ h=>Aws.trans h),⟨(fun _ h=>Akn.trans h),trivial,trivial⟩,trivial⟩,⟨(fun _ h=>Axm.trans h),⟨(fun _ h=>Alq.trans h),trivial,trivial⟩,trivial⟩⟩,⟨(fun _ h=>nomatch h),⟨(fun _ h=>Axf.trans h),⟨(fun _ h=>Akz.trans h),trivial,trivial⟩,trivial⟩,⟨(fun _ h=>Ajy.trans h),⟨(fun _ h=>nomatch h),trivial,trivial⟩,trivial⟩⟩⟩,⟨(fun _ h=>Avw.trans h),⟨(fun _ h=>nomatch h),⟨(fun _ h=>nomatch h),⟨(fun _ h=>Akv.trans h),trivial,trivial⟩,trivial⟩,⟨(fun _ h=>Ajr.trans h),⟨(fun _ h=>nomatch h),trivial,trivial⟩,trivial⟩⟩,⟨(fun _ h=>Awm.trans h),⟨(fun _ h=>nomatch h),⟨(fun _ h=>Alh.trans h),trivial,trivial⟩,trivial⟩,⟨(fun _ h=>Akg.trans h),⟨(fun _ h=>Amc.trans h),trivial,trivial⟩,trivial⟩⟩⟩⟩,⟨(fun _ h=>Avm.trans h),⟨(fun _ h=>Avs.trans h),⟨(fun _ h=>nomatch h),⟨(fun _ h=>Aww.trans h),⟨(fun _ h=>Akr.trans h),trivial,trivial⟩,trivial⟩,⟨(fun _ h=>Ajn.trans h),⟨(fun _ h=>Alt.trans h),trivial,trivial⟩,trivial⟩⟩,⟨(fun _ h=>Awi.trans h),⟨(fun _ h=>Axj.trans h),⟨(fun _ h=>Ald.trans h),trivial,trivial⟩,trivial⟩,⟨(fun _ h=>Akc.trans h),⟨(fun _ h=>Aly.trans h),trivial,trivial⟩,trivial⟩⟩⟩,⟨(fun _ h=>Awa.trans h),⟨(fun _ h=>nomatch h),⟨(fun _ h=>Axb.trans h),⟨(fun _ h=>nomatch h),trivial,trivial⟩,trivial⟩,⟨(fun _ h=>Ajv.trans h),⟨(fun _ h=>nomatch h),trivial,trivial⟩,trivial⟩⟩,⟨(fun _ h=>nomatch h),⟨(fun _ h=>nomatch h),⟨(fun _ h=>Alm.trans h),trivial,trivial⟩,trivial⟩,⟨(fun _ h=>Akj.trans h),⟨(fun _ h=>Ame.trans h),trivial,trivial⟩,trivial⟩⟩⟩⟩⟩,⟨(fun _ h=>nomatch h),⟨(fun _ h=>nomatch h),⟨(fun _ h=>Avr.trans h),⟨(fun _ h=>nomatch h),⟨(fun _ h=>Awu.trans h),⟨(fun _ h=>Akp.trans h),trivial,trivial⟩,trivial⟩,⟨(fun _ h=>Axo.trans h),⟨(fun _ h=>nomatch h),trivial,trivial⟩,trivial⟩⟩,⟨(fun _ h=>Awg.trans h),⟨(fun _ h=>Axh.trans h),⟨(fun _ h=>Alb.trans h),trivial,trivial⟩,trivial⟩,⟨(fun _ h=>Aka.trans h),⟨(fun _ h=>Alw.trans h),trivial,trivial⟩,trivial⟩⟩⟩,⟨(fun _ h=>Avy.trans h),⟨(fun _ h=>nomatch h),⟨(fun _ h=>Awz.trans h),⟨(fun _ h=>Akx.trans h),trivial,trivial⟩,trivial⟩,⟨(fun _ h=>Ajt.trans h),⟨(fun _ h=>nomatch h),trivial,trivial⟩,trivial⟩⟩,⟨(fun _ h=>Awo.trans h),⟨(fun _ h=>nomatch h),⟨(fun _ h=>Alj.trans h),trivial,trivial⟩,trivial⟩,⟨(fun _ h=>Akh.trans h),⟨(fun _ h=>nomatch h),trivial,trivial⟩,trivial⟩⟩⟩⟩,⟨(fun _ h=>Avo.trans h),⟨(fun _ h=>Avu.trans h),⟨(fun _ h=>nomatch h),⟨(fun _ h=>Awx.trans h),⟨(fun _ h=>Akt.trans h),trivial,trivial⟩,trivial⟩,⟨(fun _ h=>Ajp.trans h),⟨(fun _ h=>nomatch h),trivial,trivial⟩,trivial⟩⟩,⟨(fun _ h=>Awk.trans h),⟨(fun _ h=>Axk.trans h),⟨(fun _ h=>Alf.trans h),trivial,trivial⟩,trivial⟩,⟨(fun _ h=>Ake.trans h),⟨(fun _ h=>Ama.trans h),trivial,trivial⟩,trivial⟩⟩⟩,⟨(fun _ h=>nomatch h),⟨(fun _ h=>Awd.trans h),⟨(fun _ h=>Axd.trans h),⟨(fun _ h=>nomatch h),trivial,trivial⟩,trivial⟩,⟨(fun _ h=>Ajw.trans h),⟨(fun _ h=>nomatch h),trivial,trivial⟩,trivial⟩⟩,⟨(fun _ h=>Awq.trans h),⟨(fun _ h=>nomatch h),⟨(fun _ h=>Alo.trans h),trivial,trivial⟩,trivial⟩,⟨(fun _ h=>Akl.trans h),trivial,trivial⟩⟩⟩⟩⟩⟩⟩
theorem BG:∀ f fn,Ypr.get f=some fn->I f=some fn:=fun _ _ h=>N2 Amg h
end Go.Proofs.YtajompaehjkgkaaGreat
namespace Go.Ai
open Bool renaming true_and->Og
open Decidable renaming decide->B
open Int renaming add_zero->B2,le_refl->DL,mul_add->C1,mul_assoc->AB,mul_comm->AD,mul_zero->AG,natAbs_mul->BA,natAbs_neg->Aue,natCast_pow->Cr,pow_pos->EX,pow_succ->Ay,pow_zero->Da
open List renaming cons_append->H5,drop->g,getD_cons_succ->J1,getD_cons_zero->I4,getD_eq_getElem?_getD->Z,getElem?_drop->AX,getElem?_eq_getElem->Ae,getElem?_map->CA,getElem?_take_of_lt->Bw,length_cons->Bo,length_eq_zero_iff->TR,length_singleton->MW,map_cons->Cz,map_set->Aup,mem_cons->CH,mem_cons_of_mem->A_,mem_cons_self->Bs,mem_of_getElem?->Sz,mem_of_mem_take->Cg,replicate->Aq,replicate_succ->FU,set_cons_succ->A5e,set_cons_zero->A5d,set_eq_take_append_cons_drop->pH,take_append_drop->WX
open Nat renaming add_sub_cancel->Ib,add_zero->FB,le_refl->Am,lt_of_lt_of_le->F5,lt_or_ge->Ck,mod_lt->G5,mul_one->Ia,pow_add->C_,pow_le_pow_right->Bm,pow_succ->F8,sub_self->Lt
def lm(xs:List Int):List AV:=xs.map (AV.int .u32)
def AI(xs:List Int):Prop:=∀ x∈xs,0<=x/\x<4294967296
def Aa:List Int->Int
 | []=>0
 | x::xs=>x+4294967296*Aa xs
theorem N4(xs:List Int):(lm xs).length=xs.length:=by simp [lm]
theorem bS{xs:List Int}{i:Nat}(h:i<xs.length):(lm xs)[i]?=some (.int .u32 (xs.getD i 0)):=by
 simp[lm,CA,Ae h,Z]
theorem DW{xs:List Int}{i:Nat}(h:i<xs.length):Bl (g (i*1) (lm xs)) 0 1 true=some (.int .u32 (xs.getD i 0)):=by
 simp only[Bl,if_true,Ia,AX,FB];exact bS h
theorem Vj{xs:List Int}{i:Nat}(h:i<xs.length):Bl (lm xs) (i*1) 1 true=some (.int .u32 (xs.getD i 0)):=by
 simp only[Bl,if_true,Ia];exact bS h
theorem HO{xs:List Int}{i:Nat}{v:Int}(h:i<xs.length):Cv (lm xs) (i*1) [.int .u32 v]=some (lm (xs.set i v)):=by
 unfold Cv;rw[if_pos (by simp[N4];omega)];congr 1;simp only[lm,Aup,Ia,MW];rw[pH,if_pos (by simpa using h)];simp
theorem EO(n:Nat):Co [.int .u32 0] n=lm (Aq n 0):=by
 induction n with
 | zero=>rfl
 | succ n ih=>simp only[Co,ih,lm,FU,Cz];rfl
theorem AA{xs:List Int}(h:AI xs)(i:Nat):0<=xs.getD i 0/\xs.getD i 0<4294967296:=by
 rw[Z];cases hx:xs[i]? with
 | none=>simp
 | some x=>exact h x (Sz hx)
theorem AK{xs:List Int}(h:AI xs):0<=Aa xs:=by
 induction xs with
 | nil=>exact DL _
 | cons x xs ih =>
  have h1:=h x Bs;have h2:=ih fun y hy=>h y (A_ _ hy);simp only[Aa];omega
theorem Gc(xs ys:List Int):Aa (xs++ys)=Aa xs+4294967296^xs.length*Aa ys:=by
 induction xs with
 | nil=>simp[Aa]
 | cons x xs ih =>
  simp only[H5,Aa,ih,Bo,Ay];rw[C1,<- Int.add_assoc];congr 1;rw[<- AB,AD 4294967296 (4294967296^xs.length)]
theorem Ez(n:Nat):Aa (Aq n 0)=0:=by
 induction n with
 | zero=>rfl
 | succ n ih=>simp[FU,Aa,ih]
theorem D4{xs:List Int}(h:AI xs):Aa xs<4294967296^xs.length:=by
 induction xs with
 | nil=>simp[Aa]
 | cons x xs ih =>
  have h1:=h x Bs;have h2:=ih fun y hy=>h y (A_ _ hy);simp only[Aa,Bo,Ay];omega
theorem DA(xs:List Int)(i:Nat)(v:Int)(h:i<xs.length):Aa (xs.set i v)=Aa xs+4294967296^i*(v-xs.getD i 0):=by
 induction xs generalizing i with
 | nil=>simp at h
 | cons x xs ih =>
  cases i with
  | zero=>simp only[A5d,Aa,Da,I4];omega
  | succ i =>
   simp only[A5e,Aa,J1];rw[ih i (by simpa using h),Ay,C1,<- AB,AD 4294967296 (4294967296^i)];omega
theorem Cq{xs:List Int}(h:AI xs){i:Nat}{v:Int}(hv:0<=v/\v<4294967296):AI (xs.set i v):=by
 intro x hx;rcases List.mem_or_eq_of_mem_set hx with h1 | h1
 ·exact h x h1
 ·rw[h1];exact hv
def l(xs:List Int):Nat->Nat
 | 0=>0
 | n+1=>if xs.getD n 0=0 then l xs n else n+1
def Y(xs:List Int):List Int:=xs.take (l xs xs.length)
theorem Gn(xs:List Int)(n:Nat):l xs n<=n:=by
 induction n with
 | zero=>exact Am _
 | succ n ih=>simp only[l];split <;> omega
theorem X1(xs:List Int)(n:Nat):l xs n=0\/xs.getD (l xs n-1) 0 ≠ 0:=by
 induction n with
 | zero=>exact .inl rfl
 | succ n ih =>
  simp only[l];split
  ·exact ih
  ·exact .inr (by simpa)
theorem Mm(xs:List Int)(n:Nat):∀ i,l xs n<=i->i<n->xs.getD i 0=0:=by
 induction n with
 | zero=>intro i _ h;omega
 | succ n ih =>
  intro i h1 h2;simp only[l] at h1;split at h1
  ·rename_i h0;by_cases hi:i=n
   ·subst hi;exact h0
   ·exact ih i h1 (by omega)
  ·omega
def Fg(xs:List Int):Prop:=AI xs/\(xs=[]\/xs.getD (xs.length-1) 0 ≠ 0)
theorem Fp{xs:List Int}(h:AI xs):Fg (Y xs):=by
 have hl:=Gn xs xs.length;have hlen:(Y xs).length=l xs xs.length:=by simp[Y];omega
 refine⟨fun x hx=>h x (Cg hx),?_⟩;by_cases hz:l xs xs.length=0
 ·left;simp[Y,hz]
 ·right;have h0:=(X1 xs xs.length).resolve_left hz;rw[hlen,Z,Y,Bw (by omega),<- Z];exact h0
theorem T5{xs:List Int}(h:∀ i,i<xs.length->xs.getD i 0=0):Aa xs=0:=by
 induction xs with
 | nil=>rfl
 | cons x xs ih =>
  have h0:=h 0 (by simp);simp only[I4] at h0;subst h0;simp only[Aa];rw[ih fun i hi=>by simpa using h (i+1) (by simpa using hi)];rfl
theorem DS(xs:List Int):Aa (Y xs)=Aa xs:=by
 have e:Aa xs=Aa (xs.take (l xs xs.length)++xs.drop (l xs xs.length)):=by rw[WX]
 rw[e,Gc];have:Aa (xs.drop (l xs xs.length))=0:=by
  apply T5;intro i hi;have hi':l xs xs.length+i<xs.length:=by simp at hi;omega
  have:=Mm xs xs.length (l xs xs.length+i) (by omega) hi';rw[Z,AX,<- Z];exact this
 rw[this,AG,B2];rfl
theorem KC{x:Int}{xs:List Int}(h:Fg (x::xs)):Fg xs:=by
 refine⟨fun y hy=>h.1 y (A_ _ hy),?_⟩;cases xs with
 | nil=>exact .inl rfl
 | cons y ys =>
  right;rcases h.2 with h0 | h0
  ·cases h0
  ·simpa using h0
theorem In:∀ {xs:List Int},Fg xs->xs ≠ []->0<Aa xs
 | [],_,h=>absurd rfl h
 | [x],h,_=>by
  have h1:=h.1 x Bs;rcases h.2 with h0 | h0
  ·cases h0
  ·simp only[MW,Lt,I4] at h0;simp only[Aa];omega
 | x::y::ys,h,_=>by
  have h1:=h.1 x Bs;have h2:=In (KC h) (by simp);simp only[Aa] at h2 |-;omega
theorem RR:∀ {xs ys:List Int},Fg xs->Fg ys->Aa xs=Aa ys->xs=ys
 | [],[],_,_,_=>rfl
 | [],y::ys,_,h2,h=>by
  have:=In h2 (by simp);rw[<- h] at this;simp[Aa] at this
 | x::xs,[],h1,_,h=>by
  have:=In h1 (by simp);rw[h] at this;simp[Aa] at this
 | x::xs,y::ys,h1,h2,h=>by
  have a1:=h1.1 x Bs;have a2:=h2.1 y Bs;simp only[Aa] at h;have e1:x=y:=by omega
  have e2:Aa xs=Aa ys:=by omega
  rw[e1,RR (KC h1) (KC h2) e2]
def Mn:Nat->Nat->List Int
 | 0,_=>[]
 | f+1,n=>if n=0 then [] else ((n % 4294967296:Nat):Int)::Mn f (n / 4294967296)
def G(n:Nat):List Int:=Mn (n+1) n
theorem P6:∀ (f n:Nat),n<f->Fg (Mn f n)/\Aa (Mn f n)=n/\(Mn f n=[]↔n=0):=by
 intro f;induction f with
 | zero=>intro n h;omega
 | succ f ih =>
  intro n h;simp only[Mn];by_cases h0:n=0
  ·subst h0;simp[Aa,Fg,AI]
  ·rw[if_neg h0];obtain⟨c1,c2,c3⟩:=ih (n / 4294967296) (by omega);have hm:=G5 n (show 0<4294967296 by omega);refine⟨⟨?_,?_⟩,?_,by simp[h0]⟩
   ·intro x hx;rcases CH.1 hx with rfl | hx
    ·omega
    ·exact c1.1 x hx
   ·right;cases hl:Mn f (n / 4294967296) with
    | nil =>
     have:=c3.1 hl;simp;omega
    | cons y ys =>
     rcases c1.2 with h1 | h1
     ·rw[hl] at h1;cases h1
     ·rw[hl] at h1;simpa using h1
   ·simp only[Aa,c2];omega
theorem Cj(n:Nat):Fg (G n):=(P6 _ n (by omega)).1
theorem Cs(n:Nat):Aa (G n)=n:=(P6 _ n (by omega)).2.1
theorem Io(n:Nat):G n=[]↔n=0:=(P6 _ n (by omega)).2.2
theorem Ip{xs:List Int}(h:AI xs):Y xs=G (Aa xs).toNat:=by
 apply RR (Fp h) (Cj _);rw[DS,Cs];have:=AK h;omega
def Ab(n:Int):AV := .agg [.bool (B (n<0)),.sl (G n.natAbs).length (lm (G n.natAbs))]
def C8(n:Int):AV := .frs (.st (B (n<0))) 1 (G n.natAbs).length (lm (G n.natAbs))
theorem Cc(n:Nat):(0:Int)<4294967296^n:=EX (by decide)
theorem Ox:∀ {xs:List Int},Fg xs->xs ≠ []->(4294967296:Int)^(xs.length-1)<=Aa xs
 | [],_,h=>absurd rfl h
 | [x],h,_=>by
  have:=In h (by simp);simp only[MW,Lt,Da];omega
 | x::y::ys,h,_=>by
  have h1:=h.1 x Bs;have h2:=Ox (KC h) (by simp);simp only[Bo,Ib] at h2 |-;rw[Ay];show _<=x+4294967296*Aa (y::ys);omega
theorem         Fq {a b : Nat} (h : a <= b) : (4294967296 : Int) ^ a <= 4294967296 ^ b := by
  induction b with
  | zero => have : a = 0 := by omega
            subst this; exact          DL _
  | succ b ih =>
    by_cases hh : a = b + 1
    · subst hh; exact          DL _
    · have := ih (by omega)
      have hp :=        Cc b
      rw [          Ay]; omega
theorem JW{xs:List Int}(h:Fg xs){k:Nat}(hv:Aa xs<4294967296^k):xs.length<=k:=by
 by_cases hn:xs=[]
 ·subst hn;simp
 ·have h1:=Ox h hn;rcases Ck k xs.length with h2 | h2
  ·have:=Fq (show k<=xs.length-1 by omega);omega
  ·exact h2
theorem P7{n k:Nat}(h:(n:Int)<4294967296^k):(G n).length<=k:=JW (Cj n) (by rw [Cs];exact h)
def AY(k:Nat)(n:Int):Prop:=n.natAbs<4294967296^k
theorem AY.len{k:Nat}{n:Int}(h:AY k n):(G n.natAbs).length<=k:=by
 apply P7;have h1:(n.natAbs:Int)<((4294967296^k:Nat):Int):=Int.ofNat_lt.mpr h;rwa [Cr] at h1
theorem AY.mono{j k:Nat}{n:Int}(h:AY j n)(hk:j<=k):AY k n:=F5 h (Bm (by decide) hk)
theorem AY.mul{j k:Nat}{a b:Int}(ha:AY j a)(hb:AY k b):AY (j+k) (a*b):=by
 unfold AY at *
 rw[BA,C_];exact Nat.mul_lt_mul'' ha hb
theorem AY.add{j:Nat}{a b:Int}(ha:AY j a)(hb:AY j b):AY (j+1) (a+b):=by
 unfold AY at *
 rw[F8];have:=Int.natAbs_add_le a b;omega
theorem AY.neg{j:Nat}{a:Int}(ha:AY j a):AY j (-a):=by
 unfold AY at *
 rwa [Aue]
theorem Oy{n:Int}(h : -9223372036854775808<=n/\n<=9223372036854775807):AY 2 n:=by
 unfold AY;have:(4294967296:Nat)^2=18446744073709551616:=by decide
 omega
def rv(neg:Bool)(xs:List Int):Int:=if neg then -Aa xs else Aa xs
theorem YV{neg:Bool}{xs:List Int}(hu:AI xs):(rv neg xs).natAbs=(Aa xs).toNat:=by
 have:=AK hu;unfold rv;cases neg <;> simp <;> omega
theorem L5{neg:Bool}{xs:List Int}(hu:AI xs):Y xs=G (rv neg xs).natAbs:=by
 rw[YV hu,Ip hu]
theorem Fr(n:Int):rv (B (n<0)) (G n.natAbs)=n:=by
 unfold rv;rw[Cs];by_cases h:n<0 <;> simp[h] <;> omega
theorem DO(n:Nat):(G n).length=0↔n=0:=by rw [TR,Io]
theorem qM{neg:Bool}{xs:List Int}(hu:AI xs):(neg&&decide (0<(G (rv neg xs).natAbs).length))=decide (rv neg xs<0):=by
 have h1:=DO (rv neg xs).natAbs;have h2:=AK hu;have h3:=YV (neg:=neg) hu;unfold rv at *
 cases neg
 ·simp;omega
 ·simp only[Og,if_true] at *
  rw[decide_eq_decide];omega
theorem Bn(xs:List Int):(Y xs).length<=xs.length:=by simp [Y];omega
theorem Es{neg:Bool}{xs:List Int}(hu:AI xs):(G (rv neg xs).natAbs).length<=xs.length:=by rw [<- L5 hu];exact Bn xs
theorem Vk{neg:Bool}{xs:List Int}(hu:AI xs):AY xs.length (rv neg xs):=by
 unfold AY;rw[YV hu];have h1:=AK hu;have h2:=D4 hu;have h3:((4294967296^xs.length:Nat):Int)=(4294967296:Int)^xs.length:=by rw[Cr];rfl
 omega
theorem BC(n:Nat):AI (G n):=(Cj n).1
def vl(xs : List Int) : Reg := .val (.sl xs.length (lm xs))
def vi(n : Int) : Reg := .val (.int .i64 n)
end Go.Ai
namespace Go.Proofs.YtajompaehjkgkaaGreat
open Go.Ai
set_option maxRecDepth 100000
open Bool renaming false_and->JX,false_eq_true->BX
open Decidable renaming decide->B
open Go.IntKind renaming bits->Aj,i64->R,signed->iR,u32->A4,u64->U,wrap->D
open Int renaming fdiv->d,fdiv_eq_ediv_of_nonneg->t,mul_add->C1,mul_le_mul->Ei,mul_le_mul_of_nonneg_left->Ah,mul_nonneg->A1,mul_one->Dp,natAbs->E,natCast_nonneg->Hd,pow_succ->Ay,sub_zero->EI,toNat->A,toNat_natCast->F,zero_add->Db
open List renaming drop->g,drop_eq_getElem_cons->CU,drop_zero->EP,eq_of_mem_replicate->Auo,getD_eq_getElem?_getD->Z,getElem?_eq_getElem->Ae,getElem?_replicate->Kw,getElem?_set_ne->FA,length->Bj,length_eq_zero_iff->TR,map_take->Rr,mem_cons->CH,mem_of_mem_take->Cg,not_mem_nil->M',replicate->Aq,take->Br,take_length->Ee
open Nat renaming add_assoc->CO,add_zero->FB,le_refl->Am,le_trans->Bq,sub_zero->Ls
theorem H.to{prog:Nat->Option IFunc}{f:Nat}{args:List AV}{r r':AV}(h:H prog f args r)(e:r=r'):H prog f args r':=e ▸ h
theorem AW{n:Int}(h1 : -9223372036854775808<=n)(h2:n<=9223372036854775807):D R n=n:=by
 simp only[D,Aj,iR];simp;omega
theorem B1(n:Int):D U n=n % 18446744073709551616:=by
 simp only[D,Aj,iR,JX,BX,if_false];omega
theorem Ds(n:Int):D A4 n=n % 4294967296:=by
 simp only[D,Aj,iR,JX,BX,if_false];omega
def TB0:Cp:=[]
theorem EV:B_ I TB0:=B_.nil _
def SN(N:Nat)(cs:List AV)(n:Int):Ak:=(.val (.sl N cs)::(Q 1 (.own 1 0 []::(.val (.int .i64 n)::(Q 18 [])))))
theorem Axq(N:Nat)(cs:List AV)(n x:Int)(c1:B (n>0)=true)(c2:(x==0)=true)(n1:0<=(D R (n-1))/\(D R (n-1))<(N:Int))(n2:Bl (g (A (D R (n-1))*1) cs) 0 1 true=some (.int .u32 x)):W I bI (SN N cs n) .norm (SN N cs (D R (n-1))):=C EV 300 [.b true,.v (.int .u32 x),.b true] [0,2,3] (L c1 (L n1 (L n2 (L c2 a0)))) (by kernel_rfl)
theorem Axr(N:Nat)(cs:List AV)(n x:Int)(c1:B (n>0)=true)(c2:(x==0)=false)(n1:0<=(D R (n-1))/\(D R (n-1))<(N:Int))(n2:Bl (g (A (D R (n-1))*1) cs) 0 1 true=some (.int .u32 x)):W I bI (SN N cs n) (.exit 0) (SN N cs n):=C EV 300 [.b true,.v (.int .u32 x),.b false] [0,2,3] (L c1 (L n1 (L n2 (L c2 a0)))) (by kernel_rfl)
theorem Axs(N:Nat)(cs:List AV)(n:Int)(c1:B (n>0)=false):W I bI (SN N cs n) (.exit 0) (SN N cs n):=C EV 300 [.b false,.b false] [0,2,3] (L c1 (L Ff a0)) (by kernel_rfl)
theorem Amh(xs:List Int)(hN:xs.length<=35184372088832):∀ m,m<=xs.length->W I (.loop bI) (SN xs.length (lm xs) (m:Int)) (.exit 0) (SN xs.length (lm xs) ((l xs m:Nat):Int)):=by
 intro m;induction m with
 | zero =>
  intro _;exact Al (Axs xs.length (lm xs) ((0:Nat):Int) (by simp)) (by nofun)
 | succ m ih =>
  intro hm;have e1:D R (((m+1:Nat):Int)-1)=(m:Int):=by rw[AW (by omega) (by omega)];omega
  have hx:=DW (xs:=xs) (i:=m) (by omega);simp only[l];by_cases h0:xs.getD m 0=0
  ·rw[if_pos h0];have h1:=Axq xs.length (lm xs) ((m+1:Nat):Int) (xs.getD m 0) (by simp) (by rw[h0];rfl) (by rw[e1];omega) (by rw[e1,F];exact hx);rw[e1] at h1;exact W.loop h1 (ih (by omega))
  ·rw[if_neg h0];exact Al (Axr xs.length (lm xs) ((m+1:Nat):Int) (xs.getD m 0) (by simp) (by simpa using h0) (by rw[e1];omega) (by rw[e1,F];exact hx)) (by nofun)
theorem DI{xs:List Int}(hN:xs.length<=35184372088832):H I 99 [sL lm xs] (.fresh 1 (Y xs).length (lm (Y xs))):=by
 have hle:=Gn xs xs.length;have hlen:(Y xs).length=l xs xs.length:=by simp[Y];omega
 have hl:=Amh xs hN xs.length (Am _);have hsc:0<=(A ((l xs xs.length:Nat):Int))/\(A ((l xs xs.length:Nat):Int))<=xs.length/\xs.length<=xs.length/\(false=true->true=true):=by rw[F];exact⟨by omega,hle,Am _,fun h=>by cases h⟩
 have htk:Br ((A ((l xs xs.length:Nat):Int)-0)*1) (g (0*1) (lm xs))=lm (Y xs):=by
  rw[F];simp[lm,Y,Rr]
 have hal:Bj (Br ((A ((l xs xs.length:Nat):Int)-0)*1) (g (0*1) (lm xs)))=(A ((l xs xs.length:Nat):Int)-0)*1:=by
  rw[htk,N4,hlen,F];omega
 have han:(A ((l xs xs.length:Nat):Int)-0)<=35184372088832:=by rw[F];omega
 have:=p (prog:=I) (f:=99) (args:=[sL lm xs]) (r := .fresh 1 (A ((l xs xs.length:Nat):Int)-0) (Br ((A ((l xs xs.length:Nat):Int)-0)*1) (g (0*1) (lm xs)))) (fn:=bH) (s:=(.val (sL lm xs)::(Q 1 (.own 1 ((A ((l xs xs.length:Nat):Int))-0) (Br (((A ((l xs xs.length:Nat):Int))-0)*1) (g (0*1) (lm xs)))::(.val (.int .i64 ((l xs xs.length:Nat):Int))::(Q 14 (.val (sL lm xs)::(.val (.int .i64 ((l xs xs.length:Nat):Int))::(.val (.sl ((A ((l xs xs.length:Nat):Int))-0) (Br (((A ((l xs xs.length:Nat):Int))-0)*1) (g (0*1) (lm xs))))::(Q 1 [])))))))))) (ex := .ret) rfl rfl
  (W.seq (DH (t:=(.val (sL lm xs)::(Q 1 (.own 1 0 []::(Q 19 []))))) (ex := .norm) (ps:=[]) EV 300 [] [0,2] (by kernel_rfl) trivial)
  (W.seq (DH (t:=(.val (sL lm xs)::(Q 1 (.own 1 0 []::(.val (.int .i64 (xs.length:Int))::(Q 18 [])))))) (ex := .norm) (ps:=[]) EV 300 [] [0,2,3] (by kernel_rfl) trivial)
  (W.seq (W.block hl)
  (DH (t:=(.val (sL lm xs)::(Q 1 (.own 1 ((A ((l xs xs.length:Nat):Int))-0) (Br (((A ((l xs xs.length:Nat):Int))-0)*1) (g (0*1) (lm xs)))::(.val (.int .i64 ((l xs xs.length:Nat):Int))::(Q 14 (.val (sL lm xs)::(.val (.int .i64 ((l xs xs.length:Nat):Int))::(.val (.sl ((A ((l xs xs.length:Nat):Int))-0) (Br (((A ((l xs xs.length:Nat):Int))-0)*1) (g (0*1) (lm xs))))::(Q 1 [])))))))))) (ex := .ret) (ps:=[0<=((l xs xs.length:Nat):Int),0<=(A ((l xs xs.length:Nat):Int))/\(A ((l xs xs.length:Nat):Int))<=xs.length/\xs.length<=xs.length/\(false=true->true=true),Bj (Br (((A ((l xs xs.length:Nat):Int))-0)*1) (g (0*1) (lm xs)))=((A ((l xs xs.length:Nat):Int))-0)*1,((A ((l xs xs.length:Nat):Int))-0)<=35184372088832]) EV 300 [] [0,2,3,18,19,20] (by kernel_rfl) ⟨(Hd _),hsc,hal,han,trivial⟩)))) (by nofun) rfl
 (first|rw[htk,F,Ls,<- hlen] at this|(rw[htk,F,Ls] at this;unfold sL at this;rw[<- hlen] at this));exact this
def Vl(neg:Bool)(xs:List Int):AV :=
 match neg with
 | true=>(.frs (.st (B ((((Y xs).length:Nat):Int)>0))) 1 ((Y xs).length) (lm (Y xs)))
 | false=>(.frs (.st false) 1 ((Y xs).length) (lm (Y xs)))
theorem Axt(neg:Bool)(xs:List Int)(hN:xs.length<=1048576):H I 98 [.bool neg,sL lm xs] (Vl neg xs):=by
 unfold Vl;cases neg
 ·exact Bp (r := .frs (.st false) 1 ((Y xs).length) (lm (Y xs))) (ps:=[H I 99 [sL lm xs] (.fresh 1 ((Y xs).length) (lm (Y xs))),false=false]) EV rfl 300 rfl [.r (.fresh 1 ((Y xs).length) (lm (Y xs))),.b false] (by kernel_rfl) ⟨(DI (Bq hN (by decide))),rfl,trivial⟩
 ·exact Bp (r := .frs (.st (B ((((Y xs).length:Nat):Int)>0))) 1 ((Y xs).length) (lm (Y xs))) (ps:=[H I 99 [sL lm xs] (.fresh 1 ((Y xs).length) (lm (Y xs))),true=true]) EV rfl 300 rfl [.r (.fresh 1 ((Y xs).length) (lm (Y xs))),.b true] (by kernel_rfl) ⟨(DI (Bq hN (by decide))),rfl,trivial⟩
theorem P8{neg:Bool}{xs:List Int}(hu:AI xs)(hN:xs.length<=1048576):H I 98 [.bool neg,sL lm xs] (C8 (if neg then -Aa xs else Aa xs)):=by
 have h:=Axt neg xs hN;have e:Vl neg xs=C8 (if neg then -Aa xs else Aa xs):=by
  have hv:=AK hu;have ht:=Ip hu;have hp:(Y xs).length=0↔Aa xs=0:=by
   rw[ht,TR,Io];omega
  cases neg with
  | false =>
   have e1:(Aa xs).natAbs=(Aa xs).toNat:=by omega
   have e2:decide (Aa xs<0)=false:=by simp;omega
   simp only[Vl,C8,BX,if_false,e1,e2,ht]
  | true =>
   have e1:(-Aa xs).natAbs=(Aa xs).toNat:=by omega
   have e2:decide ((((Y xs).length:Nat):Int)>0)=decide (-Aa xs<0):=by
    rw[decide_eq_decide];omega
   simp only[Vl,C8,if_true,e1,e2,<- ht]
 rw[<- e];exact h
theorem L6{u:Int}(h:0<=u/\u<18446744073709551616):AI [D A4 u,D A4 (d u (2^(min (A 32) (Aj .u64))))]/\Aa [D A4 u,D A4 (d u (2^(min (A 32) (Aj .u64))))]=u:=by
 have e:d u (2^(min (A 32) (Aj .u64)))=u / 4294967296:=by
  show d u 4294967296=_;rw[t _ (by omega)]
 rw[e,Ds,Ds];refine⟨fun x hx => ?_,?_⟩
 ·simp only[CH,M',or_false] at hx;rcases hx with rfl | rfl <;> omega
 ·simp only[Aa];omega
theorem vF(n:Int)(c1:decide (n<0)=true)(hcall:H I 98 [.bool (B (n<0)),.sl 2 [.int .u32 (D A4 (D U (0-(D U n)))),.int .u32 (D A4 (d (D U (0-(D U n))) (2^(min (A 32) (Aj .u64)))))]] (.frs (.st (B (n<0))) 1 ((G (E n)).length) (lm (G (E n))))):H I 49 [.int .i64 n] (.agg [.bool (B (n<0)),.sl ((G (E n)).length) (lm (G (E n)))]):=Bp (ps:=[(B (n<0))=true,¬ (32:Int)<0,H I 98 [.bool (B (n<0)),.sl 2 [.int .u32 (D A4 (D U (0-(D U n)))),.int .u32 (D A4 (d (D U (0-(D U n))) (2^(min (A 32) (Aj .u64)))))]] (.frs (.st (B (n<0))) 1 ((G (E n)).length) (lm (G (E n))))]) EV rfl 300 rfl [.b true,.r (.frs (.st (B (n<0))) 1 ((G (E n)).length) (lm (G (E n))))] (by kernel_rfl) ⟨c1,(by decide),hcall,trivial⟩
theorem vG(n:Int)(c1:decide (n<0)=false)(hcall:H I 98 [.bool (B (n<0)),.sl 2 [.int .u32 (D A4 (D U n)),.int .u32 (D A4 (d (D U n) (2^(min (A 32) (Aj .u64)))))]] (.frs (.st (B (n<0))) 1 ((G (E n)).length) (lm (G (E n))))):H I 49 [.int .i64 n] (.agg [.bool (B (n<0)),.sl ((G (E n)).length) (lm (G (E n)))]):=Bp (ps:=[(B (n<0))=false,¬ (32:Int)<0,H I 98 [.bool (B (n<0)),.sl 2 [.int .u32 (D A4 (D U n)),.int .u32 (D A4 (d (D U n) (2^(min (A 32) (Aj .u64)))))]] (.frs (.st (B (n<0))) 1 ((G (E n)).length) (lm (G (E n))))]) EV rfl 300 rfl [.b false,.r (.frs (.st (B (n<0))) 1 ((G (E n)).length) (lm (G (E n))))] (by kernel_rfl) ⟨c1,(by decide),hcall,trivial⟩
theorem QB{n:Int}(hn : -9223372036854775808<=n/\n<=9223372036854775807):H I 49 [.int .i64 n] (Ab n):=by
 cases c1:decide (n<0) with
 | true =>
  have h0:n<0:=by simpa using c1
  have eu:D U (0-D U n) = -n:=by rw[B1,B1];omega
  obtain⟨k1,k2⟩:=L6 (u:=D U (0-D U n)) (by rw[eu];omega);refine vF n c1 ?_;have:=P8 (neg:=true) k1 (by simp);have e:(if true=true then -Aa [D A4 (D U (0-D U n)),D A4 (d (D U (0-D U n)) (2^(min (A 32) (Aj .u64))))] else Aa [D A4 (D U (0-D U n)),D A4 (d (D U (0-D U n)) (2^(min (A 32) (Aj .u64))))])=n:=by
   rw[k2,if_pos rfl,eu];omega
  rw[e,C8,c1] at this;rw[c1];exact this
 | false =>
  have h0:¬ n<0:=by simpa using c1
  have eu:D U n=n:=by rw[B1];omega
  obtain⟨k1,k2⟩:=L6 (u:=D U n) (by rw[eu];omega);refine vG n c1 ?_;have:=P8 (neg:=false) k1 (by simp);have e:(if false=true then -Aa [D A4 (D U n),D A4 (d (D U n) (2^(min (A 32) (Aj .u64))))] else Aa [D A4 (D U n),D A4 (d (D U n) (2^(min (A 32) (Aj .u64))))])=n:=by
   rw[if_neg (by decide),k2,eu]
  rw[e,C8,c1] at this;rw[c1];exact this
def TBA:Cp:=TB0
theorem Dt:B_ I TBA:=EV
def GV(N:Nat)(cs:List AV)(M:Nat)(ds:List AV)(v i:Int):Ak:=(.val (.sl N cs)::(.val (.sl M ds)::(Q 2 (.val (.int .i64 v)::(.val (.int .i64 i)::(Q 35 []))))))
theorem Ami(N:Nat)(cs:List AV)(M:Nat)(ds:List AV)(v i x y:Int)(c1:B (i>=0)=true)(c2:(x != y)=true)(c3:B (x<y)=true)(n1:0<=i/\i<(N:Int))(n2:Bl (g (A i*1) cs) 0 1 true=some (.int .u32 x))(n3:0<=i/\i<(M:Int))(n4:Bl (g (A i*1) ds) 0 1 true=some (.int .u32 y))(n5:0<=i/\i<(N:Int))(n6:Bl (g (A i*1) cs) 0 1 true=some (.int .u32 x))(n7:0<=i/\i<(M:Int))(n8:Bl (g (A i*1) ds) 0 1 true=some (.int .u32 y)):W I Mh (GV N cs M ds v i) .ret (GV N cs M ds (-1) i):=C Dt 300 [.b true,.v (.int .u32 x),.v (.int .u32 y),.b true,.v (.int .u32 x),.v (.int .u32 y),.b true] [0,1,4,5] (L c1 (L n1 (L n2 (L n3 (L n4 (L c2 (L n5 (L n6 (L n7 (L n8 (L c3 a0))))))))))) (by kernel_rfl)
theorem Amj(N:Nat)(cs:List AV)(M:Nat)(ds:List AV)(v i x y:Int)(c1:B (i>=0)=true)(c2:(x != y)=true)(c3:B (x<y)=false)(n1:0<=i/\i<(N:Int))(n2:Bl (g (A i*1) cs) 0 1 true=some (.int .u32 x))(n3:0<=i/\i<(M:Int))(n4:Bl (g (A i*1) ds) 0 1 true=some (.int .u32 y))(n5:0<=i/\i<(N:Int))(n6:Bl (g (A i*1) cs) 0 1 true=some (.int .u32 x))(n7:0<=i/\i<(M:Int))(n8:Bl (g (A i*1) ds) 0 1 true=some (.int .u32 y)):W I Mh (GV N cs M ds v i) .ret (GV N cs M ds 1 i):=C Dt 300 [.b true,.v (.int .u32 x),.v (.int .u32 y),.b true,.v (.int .u32 x),.v (.int .u32 y),.b false] [0,1,4,5] (L c1 (L n1 (L n2 (L n3 (L n4 (L c2 (L n5 (L n6 (L n7 (L n8 (L c3 a0))))))))))) (by kernel_rfl)
theorem Amk(N:Nat)(cs:List AV)(M:Nat)(ds:List AV)(v i x y:Int)(c1:B (i>=0)=true)(c2:(x != y)=false)(n1:0<=i/\i<(N:Int))(n2:Bl (g (A i*1) cs) 0 1 true=some (.int .u32 x))(n3:0<=i/\i<(M:Int))(n4:Bl (g (A i*1) ds) 0 1 true=some (.int .u32 y)):W I Mh (GV N cs M ds v i) .norm (GV N cs M ds v (D R (i-1))):=C Dt 300 [.b true,.v (.int .u32 x),.v (.int .u32 y),.b false] [0,1,4,5] (L c1 (L n1 (L n2 (L n3 (L n4 (L c2 a0)))))) (by kernel_rfl)
theorem Aml(N:Nat)(cs:List AV)(M:Nat)(ds:List AV)(v i:Int)(c1:B (i>=0)=false):W I Mh (GV N cs M ds v i) (.exit 0) (GV N cs M ds v i):=C Dt 300 [.b false] [0,1,4,5] (L c1 a0) (by kernel_rfl)
def Cw(a b:Int):Int:=if a<b then -1 else if b<a then 1 else 0
def B8(n:Int):Int:=if n<0 then -1 else if 0<n then 1 else 0
def Jd(xs ys:List Int):Nat->Int
 | 0=>0
 | m+1=>if xs.getD m 0=ys.getD m 0 then Jd xs ys m else if xs.getD m 0<ys.getD m 0 then -1 else 1
theorem Du(xs:List Int)(m:Nat)(h:m<xs.length):Aa (xs.take (m+1))=Aa (xs.take m)+4294967296^m*xs.getD m 0:=by
 rw[List.take_add_one,Ae h,Option.toList_some,Gc];have:(xs.take m).length=m:=by simp;omega
 rw[this];simp[Aa,Z,Ae h]
theorem X2{A B x y P:Int}(hA:0<=A/\A<P)(hB:0<=B/\B<P)(h:x<y):A+P*x<B+P*y:=by
 have:=Ah (show x+1<=y by omega) (show 0<=P by omega);rw[C1,Dp] at this;omega
theorem X3{xs ys:List Int}(hx:AI xs)(hy:AI ys):∀ m,m<=xs.length->m<=ys.length->Jd xs ys m=Cw (Aa (xs.take m)) (Aa (ys.take m)):=by
 intro m;induction m with
 | zero=>intro _ _;simp[Jd,Cw,Aa]
 | succ m ih =>
  intro h1 h2;simp only[Jd];rw[Du xs m (by omega),Du ys m (by omega)];have ux:AI (xs.take m):=fun x hx'=>hx x (Cg hx');have uy:AI (ys.take m):=fun x hx'=>hy x (Cg hx');have a1:=AK ux;have a2:=D4 ux;have b1:=AK uy;have b2:=D4 uy;rw[show (xs.take m).length=m by simp;omega] at a2;rw[show (ys.take m).length=m by simp;omega] at b2;by_cases h:xs.getD m 0=ys.getD m 0
  ·rw[if_pos h,ih (by omega) (by omega),h];unfold Cw;congr 1
   ·rw[eq_iff_iff];omega
   ·congr 1;rw[eq_iff_iff];omega
  ·rw[if_neg h];by_cases hlt:xs.getD m 0<ys.getD m 0
   ·rw[if_pos hlt];have:=X2 ⟨a1,a2⟩ ⟨b1,b2⟩ hlt;unfold Cw;rw[if_pos this]
   ·rw[if_neg hlt];have:=X2 ⟨b1,b2⟩ ⟨a1,a2⟩ (show ys.getD m 0<xs.getD m 0 by omega);unfold Cw;rw[if_neg (by omega),if_pos this]
theorem vH(xs ys:List Int)(hN:xs.length<=1048576)(hl:xs.length=ys.length):∀ m,m<=xs.length ->
  (Jd xs ys m=0/\W I (.loop Mh) (GV xs.length (lm xs) ys.length (lm ys) 0 ((m:Int)-1)) (.exit 0) (GV xs.length (lm xs) ys.length (lm ys) 0 (-1))) \/
  (Jd xs ys m ≠ 0/\∃ j,W I (.loop Mh) (GV xs.length (lm xs) ys.length (lm ys) 0 ((m:Int)-1)) .ret (GV xs.length (lm xs) ys.length (lm ys) (Jd xs ys m) j)):=by
 intro m;induction m with
 | zero =>
  intro _;left;refine⟨rfl,?_⟩;exact Al (Aml xs.length (lm xs) ys.length (lm ys) 0 (((0:Nat):Int)-1) (by simp)) (by nofun)
 | succ m ih =>
  intro hm;have e0:((m+1:Nat):Int)-1=(m:Int):=by omega
  have e1:D R ((m:Int)-1)=(m:Int)-1:=AW (by omega) (by omega);have hx:=DW (xs:=xs) (i:=m) (by omega);have hy:=DW (xs:=ys) (i:=m) (by omega);rw[e0];simp only[Jd];by_cases h:xs.getD m 0=ys.getD m 0
  ·rw[if_pos h];have h1:=Amk xs.length (lm xs) ys.length (lm ys) 0 (m:Int) (xs.getD m 0) (ys.getD m 0) (by simp) (by simpa using h) (by omega) (by rw[F];exact hx) (by omega) (by rw[F];exact hy);rw[e1] at h1;rcases ih (by omega) with ⟨k1,k2⟩ | ⟨k1,j,k2⟩
   ·exact .inl ⟨k1,W.loop h1 k2⟩
   ·exact .inr ⟨k1,j,W.loop h1 k2⟩
  ·rw[if_neg h];right;by_cases hlt:xs.getD m 0<ys.getD m 0
   ·rw[if_pos hlt];refine⟨by decide,(m:Int),?_⟩;exact Al (Ami xs.length (lm xs) ys.length (lm ys) 0 (m:Int) (xs.getD m 0) (ys.getD m 0) (by simp) (by simpa using h) (by simpa using hlt) (by omega) (by rw[F];exact hx) (by omega) (by rw[F];exact hy) (by omega) (by rw[F];exact hx) (by omega) (by rw[F];exact hy)) (by nofun)
   ·rw[if_neg hlt];refine⟨by decide,(m:Int),?_⟩;exact Al (Amj xs.length (lm xs) ys.length (lm ys) 0 (m:Int) (xs.getD m 0) (ys.getD m 0) (by simp) (by simpa using h) (by simpa using hlt) (by omega) (by rw[F];exact hx) (by omega) (by rw[F];exact hy) (by omega) (by rw[F];exact hx) (by omega) (by rw[F];exact hy)) (by nofun)
theorem bT(xs ys:List Int)(h:((xs.length:Int) != (ys.length:Int))=true)(h2:(B ((xs.length:Int)<(ys.length:Int)))=true):H I 134 [sL lm xs,sL lm ys] (.int .i64 (-1)):=Bp (ps:=[((xs.length:Int) != (ys.length:Int))=true,(B ((xs.length:Int)<(ys.length:Int)))=true]) Dt rfl 300 rfl [.b true,.b true] (by kernel_rfl) ⟨h,h2,trivial⟩
theorem bU(xs ys:List Int)(h:((xs.length:Int) != (ys.length:Int))=true)(h2:(B ((xs.length:Int)<(ys.length:Int)))=false):H I 134 [sL lm xs,sL lm ys] (.int .i64 1):=Bp (ps:=[((xs.length:Int) != (ys.length:Int))=true,(B ((xs.length:Int)<(ys.length:Int)))=false]) Dt rfl 300 rfl [.b true,.b false] (by kernel_rfl) ⟨h,h2,trivial⟩
theorem bV(xs ys:List Int)(h:((xs.length:Int) != (ys.length:Int))=false)(hl:W I (.loop Mh) (GV xs.length (lm xs) ys.length (lm ys) 0 (D R ((xs.length:Int)-1))) (.exit 0) (GV xs.length (lm xs) ys.length (lm ys) 0 (-1))):H I 134 [sL lm xs,sL lm ys] (.int .i64 0):=p (fn:=R7) (s:=(.val (sL lm xs)::(.val (sL lm ys)::(Q 2 (.val (.int .i64 0)::(.val (.int .i64 (-1))::(Q 35 []))))))) (ex := .ret) rfl rfl (W.seq (C (t:=(vl xs::(vl ys::(Q 2 (vi 0::(Q 36 [])))))) Dt 300 [] [0,1,4] a0) (W.seq (C (t:=(vl xs::(vl ys::(Q 2 (vi 0::(Q 1 (vl xs::(vi (xs.length:Int)::(vl ys::(vi (ys.length:Int)::(.val (.bool ((xs.length:Int) != (ys.length:Int)))::(Q 30 [])))))))))))) Dt 300 [.b false] [0,1,4,6,7,8,9,10] (L (show ((xs.length:Int) != (ys.length:Int))=false from h) a0)) (W.seq (W.seq (C (t:=(vl xs::(vl ys::(Q 2 (vi 0::(vi (D R ((xs.length:Int)-1))::(Q 35 []))))))) Dt 300 [] [0,1,4,5] a0) (W.block hl)) (C (t:=(vl xs::(vl ys::(Q 2 (vi 0::(vi (-1)::(Q 35 []))))))) (ex := .ret) Dt 300 [] [0,1,4,5] a0)))) (by nofun) rfl
theorem bW(xs ys:List Int)(r j:Int)(h:((xs.length:Int) != (ys.length:Int))=false)(hl:W I (.loop Mh) (GV xs.length (lm xs) ys.length (lm ys) 0 (D R ((xs.length:Int)-1))) .ret (GV xs.length (lm xs) ys.length (lm ys) r j)):H I 134 [sL lm xs,sL lm ys] (.int .i64 r):=p (fn:=R7) (s:=(.val (sL lm xs)::(.val (sL lm ys)::(Q 2 (.val (.int .i64 r)::(.val (.int .i64 j)::(Q 35 []))))))) (ex := .ret) rfl rfl (W.seq (C (t:=(vl xs::(vl ys::(Q 2 (vi 0::(Q 36 [])))))) Dt 300 [] [0,1,4] a0) (W.seq (C (t:=(vl xs::(vl ys::(Q 2 (vi 0::(Q 1 (vl xs::(vi (xs.length:Int)::(vl ys::(vi (ys.length:Int)::(.val (.bool ((xs.length:Int) != (ys.length:Int)))::(Q 30 [])))))))))))) Dt 300 [.b false] [0,1,4,6,7,8,9,10] (L (show ((xs.length:Int) != (ys.length:Int))=false from h) a0)) (AQ (W.seq (C (t:=(vl xs::(vl ys::(Q 2 (vi 0::(vi (D R ((xs.length:Int)-1))::(Q 35 []))))))) Dt 300 [] [0,1,4,5] a0) (De hl)) (by nofun)))) (by nofun) rfl
theorem Iq{xs ys:List Int}(hx:Fg xs)(hy:Fg ys)(h:xs.length<ys.length):Aa xs<Aa ys:=by
 have h1:=D4 hx.1;have h2:=Ox hy (by intro e;rw[e] at h;simp at h);have:=Fq (show xs.length<=ys.length-1 by omega);omega
theorem N5{xs ys:List Int}(hx:Fg xs)(hy:Fg ys)(hN:xs.length<=1048576):H I 134 [sL lm xs,sL lm ys] (.int .i64 (Cw (Aa xs) (Aa ys))):=by
 by_cases hl:xs.length=ys.length
 ·have h:((xs.length:Int) != (ys.length:Int))=false:=by rw[hl];simp
  have hg:=X3 hx.1 hy.1 xs.length (Am _) (by omega);rw[Ee,hl,Ee,<- hl] at hg;have e1:D R ((xs.length:Int)-1)=(xs.length:Int)-1:=AW (by omega) (by omega);rcases vH xs ys hN hl xs.length (Am _) with ⟨k1,k2⟩ | ⟨k1,j,k2⟩
  ·rw[<- hg,k1];exact bV xs ys h (by rw[e1];exact k2)
  ·rw[<- hg];exact bW xs ys _ j h (by rw[e1];exact k2)
 ·have h:((xs.length:Int) != (ys.length:Int))=true:=by simp;omega
  by_cases hlt:xs.length<ys.length
  ·have e:Cw (Aa xs) (Aa ys) = -1:=by unfold Cw;rw[if_pos (Iq hx hy hlt)]
   rw[e];exact bT xs ys h (by simp;omega)
  ·have:=Iq hy hx (by omega);have e:Cw (Aa xs) (Aa ys)=1:=by unfold Cw;rw[if_neg (by omega),if_pos this]
   rw[e];exact bU xs ys h (by simp;omega)
theorem YW(n:Nat):Y (G n)=G n:=by
 have:=Ip (Cj n).1;rw[this,Cs,F]
theorem P9{n:Nat}(hN:(G n).length<=1048576):H I 99 [.sl (G n).length (lm (G n))] (.fresh 1 (G n).length (lm (G n))):=by
 have:=DI (Bq hN (by decide));rwa [YW] at this
def YX(neg:Bool)(m:Nat):AV :=
 match (((G m).length:Nat):Int)==0 with
 | true=>(.int .i64 0)
 | false=>(match neg with
 | true=>(.int .i64 (-1))
 | false=>(.int .i64 1))
theorem Axu(neg:Bool)(m:Nat)(hN:(G m).length<=1048576):H I 79 [.agg [.bool neg,.sl ((G m).length) (lm (G m))]] (YX neg m):=by
 unfold YX;cases c1:((((G m).length:Nat):Int)==0)
 ·cases neg
  ·exact Bp (r := .int .i64 1) (ps:=[H I 99 [.sl ((G m).length) (lm (G m))] (.fresh 1 ((G m).length) (lm (G m))),((((G m).length:Nat):Int)==0)=false,false=false]) Dt rfl 300 rfl [.r (.fresh 1 ((G m).length) (lm (G m))),.b false,.b false] (by kernel_rfl) ⟨(P9 hN),c1,rfl,trivial⟩
  ·exact Bp (r := .int .i64 (-1)) (ps:=[H I 99 [.sl ((G m).length) (lm (G m))] (.fresh 1 ((G m).length) (lm (G m))),((((G m).length:Nat):Int)==0)=false,true=true]) Dt rfl 300 rfl [.r (.fresh 1 ((G m).length) (lm (G m))),.b false,.b true] (by kernel_rfl) ⟨(P9 hN),c1,rfl,trivial⟩
 ·exact Bp (r := .int .i64 0) (ps:=[H I 99 [.sl ((G m).length) (lm (G m))] (.fresh 1 ((G m).length) (lm (G m))),((((G m).length:Nat):Int)==0)=true]) Dt rfl 300 rfl [.r (.fresh 1 ((G m).length) (lm (G m))),.b true] (by kernel_rfl) ⟨(P9 hN),c1,trivial⟩
def bX(neg:Bool)(m:Nat):Int:=if m=0 then 0 else if neg then -1 else 1
theorem vI{neg:Bool}{m:Nat}(hN:(G m).length<=1048576):H I 79 [.agg [.bool neg,.sl (G m).length (lm (G m))]] (.int .i64 (bX neg m)):=by
 have h:=Axu neg m hN;have e:YX neg m = .int .i64 (bX neg m):=by
  unfold YX bX;have hz:(G m).length=0↔m=0:=by rw[TR,Io]
  by_cases h0:m=0
  ·have e1:((((G m).length:Nat):Int)==0)=true:=by rw[beq_iff_eq];omega
   rw[e1,if_pos h0]
  ·have e1:((((G m).length:Nat):Int)==0)=false:=by rw[beq_eq_false_iff_ne];omega
   rw[e1,if_neg h0];cases neg <;> rfl
 rw[<- e];exact h
theorem Amm(n:Int):bX (B (n<0)) n.natAbs=B8 n:=by
 unfold bX B8;by_cases h0:n=0
 ·subst h0;rfl
 ·rw[if_neg (by omega)];by_cases h1:n<0
  ·simp[h1]
  ·have h2:0<n:=by omega
   simp[h1,h2]
theorem X4{n:Int}(hN:(G n.natAbs).length<=1048576):H I 79 [Ab n] (.int .i64 (B8 n)):=by
 have:=vI (neg:=decide (n<0)) hN;rwa [Amm] at this
def TBB:Cp:=TBA
theorem Em:B_ I TBB:=Dt
def KD(la:Nat)(xa:List AV)(lb:Nat)(bs:List AV)(n:Nat)(cs:List AV)(i:Int):Ak:=(.val (.sl la xa)::(.val (.sl lb bs)::(Q 2 (.own 1 0 []::(.own 1 n cs::(.val (.int .i64 i)::(Q 59 [])))))))
def KE(la:Nat)(xa:List AV)(lb:Nat)(bs:List AV)(n:Nat)(cs:List AV)(i c k:Int):Ak:=(.val (.sl la xa)::(.val (.sl lb bs)::(Q 2 (.own 1 0 []::(.own 1 n cs::(.val (.int .i64 i)::(.val (.int .u64 c)::(.val (.int .i64 k)::(Q 57 [])))))))))
theorem vJ(la:Nat)(xa:List AV)(lb:Nat)(bs:List AV)(n:Nat)(cs ds:List AV)(i c k x y z:Int)(c1:B (k<(lb:Int))=true)(n1:0<=(D R (i+k))/\(D R (i+k))<(n:Int))(n2:Bl cs (A (D R (i+k))*1) 1 true=some (.int .u32 z))(n3:0<=i/\i<(la:Int))(n4:Bl (g (A i*1) xa) 0 1 true=some (.int .u32 x))(n5:0<=k/\k<(lb:Int))(n6:Bl (g (A k*1) bs) 0 1 true=some (.int .u32 y))(n7:0<=(D R (i+k))/\(D R (i+k))<(n:Int))(n8:Cv cs (A (D R (i+k))*1) [.int .u32 (D A4 (D U (c+(D U ((D U z)+(D U ((D U x)*(D U y))))))))]=some ds):W I Qv (KE la xa lb bs n cs i c k) .norm (KE la xa lb bs n ds i (d (D U (c+(D U ((D U z)+(D U ((D U x)*(D U y))))))) (2^(min (A 32) (Aj .u64)))) (D R (k+1))):=C Em 300 [.b true,.v (.int .u32 z),.v (.int .u32 x),.v (.int .u32 y),.l ds] [0,1,4,5,6,7,8] (L c1 (L n1 (L n2 (L n3 (L n4 (L n5 (L n6 (L n7 (L n8 (L HE a0)))))))))) (by kernel_rfl)
theorem vK(la:Nat)(xa:List AV)(lb:Nat)(bs:List AV)(n:Nat)(cs:List AV)(i c k:Int)(c1:B (k<(lb:Int))=false):W I Qv (KE la xa lb bs n cs i c k) (.exit 2) (KE la xa lb bs n cs i c k):=C Em 300 [.b false] [0,1,4,5,6,7,8] (L c1 a0) (by kernel_rfl)
theorem iY(la:Nat)(xa:List AV)(lb:Nat)(bs:List AV)(n:Nat)(cs:List AV)(i:Int)(h:(B (i<(la:Int)))=false):W I Qw (KD la xa lb bs n cs i) (.exit 0) (KD la xa lb bs n cs i):=C Em 300 [.b false] [0,1,4,5,6] (L (show (B (i<(la:Int)))=false from h) a0) (by kernel_rfl)
theorem bY(la:Nat)(xa:List AV)(lb:Nat)(bs:List AV)(n:Nat)(cs ds es:List AV)(i c k:Int)(h:(B (i<(la:Int)))=true)(hl:W I (.loop Qv) (KE la xa lb bs n cs i 0 0) (.exit 2) (KE la xa lb bs n ds i c k))(hix:0<=D R (i+(lb:Int))/\D R (i+(lb:Int))<(n:Int))(hst:Cv ds (A (D R (i+(lb:Int)))*1) [.int .u32 (D A4 c)]=some es):W I Qw (KD la xa lb bs n cs i) .norm (KD la xa lb bs n es (D R (i+1))):=(W.seq (C (t:=(.val (.sl la xa)::(.val (.sl lb bs)::(Q 2 (.own 1 0 []::(.own 1 n cs::(vi i::(Q 8 (vi i::(.val (.sl la xa)::(vi (la:Int)::(.val (.bool (B (i<(la:Int))))::(Q 47 []))))))))))))) Em 300 [.b true] [0,1,4,5,6,15,16,17,18] (L (show (B (i<(la:Int)))=true from h) a0)) (W.seq (Ci (W.seq (C (t:=(.val (.sl la xa)::(.val (.sl lb bs)::(Q 2 (.own 1 0 []::(.own 1 n cs::(vi i::(.val (.int .u64 0)::(Q 7 (vi i::(.val (.sl la xa)::(vi (la:Int)::(.val (.bool (B (i<(la:Int))))::(Q 47 [])))))))))))))) Em 300 [] [0,1,4,5,6,7,15,16,17,18] a0) (W.seq (W.seq (C (t:=(.val (.sl la xa)::(.val (.sl lb bs)::(Q 2 (.own 1 0 []::(.own 1 n cs::(vi i::(.val (.int .u64 0)::(vi 0::(Q 57 [])))))))))) Em 300 [] [0,1,4,5,6,7,8] a0) (W.block hl)) (C (t:=(.val (.sl la xa)::(.val (.sl lb bs)::(Q 2 (.own 1 0 []::(.own 1 n es::(vi i::(.val (.int .u64 c)::(vi k::(Q 48 (.dup 5::(vi i::(.val (.sl lb bs)::(vi (lb:Int)::(vi (D R (i+(lb:Int)))::(.val (.int .u64 c)::(.val (.int .u32 (D A4 c))::(.ptr 5 (A (D R (i+(lb:Int)))*1)::(Q 1 []))))))))))))))))))) Em 300 [.l es] [0,1,4,5,6,7,8,57,58,59,60,61,62,63,64] (L (show 0<=(D R (i+(lb:Int)))/\(D R (i+(lb:Int)))<(n:Int) from hix) (L (show Cv ds (A (D R (i+(lb:Int)))*1) [.int .u32 (D A4 c)]=some es from hst) a0)))))) (C (t:=(.val (.sl la xa)::(.val (.sl lb bs)::(Q 2 (.own 1 0 []::(.own 1 n es::(vi (D R (i+1))::(Q 59 [])))))))) Em 300 [] [0,1,4,5,6] a0)))
def GW(a:Int)(bs:List Int)(i:Nat):Nat->Nat->List Int->Int->List Int × Int
 | 0,_,out,c=>(out,c)
 | r+1,k,out,c=>GW a bs i r (k+1) (out.set (i+k) ((c+(out.getD (i+k) 0+a*bs.getD k 0)) % 4294967296)) ((c+(out.getD (i+k) 0+a*bs.getD k 0)) / 4294967296)
theorem Vm{a b c o:Int}(ha:0<=a/\a<4294967296)(hb:0<=b/\b<4294967296)(hc:0<=c/\c<4294967296)(ho:0<=o/\o<4294967296) :
  0<=a*b/\a*b<=18446744065119617025/\0<=c+(o+a*b)/\c+(o+a*b)<18446744073709551616:=by
 have h1:=A1 ha.1 hb.1;have h2:a*b<=4294967295*4294967295:=Ei (by omega) (by omega) hb.1 (by omega);omega
theorem Mo{xs:List Int}{i j:Nat}{v:Int}(h:i ≠ j):(xs.set i v).getD j 0=xs.getD j 0:=by
 simp only[Z,FA h]
theorem X5{a:Int}{bs:List Int}{i:Nat}(ha:0<=a/\a<4294967296)(hb:AI bs):∀ (r k:Nat) (out:List Int) (c:Int),r+k=bs.length->i+bs.length<=out.length->AI out->0<=c/\c<4294967296 ->
  (GW a bs i r k out c).1.length=out.length/\AI (GW a bs i r k out c).1/\(0<=(GW a bs i r k out c).2/\(GW a bs i r k out c).2<4294967296) /\
  Aa (GW a bs i r k out c).1+4294967296^(i+bs.length)*(GW a bs i r k out c).2=Aa out+4294967296^(i+k)*(c+a*Aa (bs.drop k)) /\
  ∀ j,i+bs.length<=j->(GW a bs i r k out c).1.getD j 0=out.getD j 0:=by
 intro r;induction r with
 | zero =>
  intro k out c hk _ hu hc;have hk':k=bs.length:=by omega
  subst hk';refine⟨rfl,hu,hc,?_,fun _ _=>rfl⟩;simp[GW,Aa]
 | succ r ih =>
  intro k out c hk hl hu hc;have hbk:=AA hb k;have hok:=AA hu (i+k);obtain⟨w1,w2,w3,w4⟩:=Vm ha hbk hc hok;have hlt:i+k<out.length:=by omega
  simp only[GW];generalize hW:c+(out.getD (i+k) 0+a*bs.getD k 0)=W at *
  have hm:0<=W % 4294967296/\W % 4294967296<4294967296:=by omega
  obtain⟨g1,g2,g3,g4,g5⟩:=ih (k+1) (out.set (i+k) (W % 4294967296)) (W / 4294967296) (by omega) (by simpa using hl) (Cq hu hm) (by omega);refine⟨by simpa using g1,g2,g3,?_,fun j hj => ?_⟩
  ·rw[g4,DA out (i+k) _ hlt];have hd:Aa (bs.drop k)=bs.getD k 0+4294967296*Aa (bs.drop (k+1)):=by
    rw[CU (show k<bs.length by omega)];simp[Aa,Z,Ae (show k<bs.length by omega)]
   rw[hd];have hp:(4294967296:Int)^(i+(k+1))=4294967296^(i+k)*4294967296:=by rw[<- CO,Ay]
   rw[hp];generalize (4294967296:Int)^(i+k)=p at *
   generalize Aa (bs.drop (k+1))=V at *
   have e1:W=4294967296*(W / 4294967296)+W % 4294967296:=by omega
   have e2:c=W-out.getD (i+k) 0-a*bs.getD k 0:=by omega
   rw[e2];generalize W / 4294967296=q at *
   generalize W % 4294967296=m at *
   generalize out.getD (i+k) 0=o at *
   generalize bs.getD k 0=b at *
   subst e1;grind
  ·rw[g5 j hj,Mo (by omega)]
theorem iZ(xa bs:List Int)(ha:AI xa)(hb:AI bs)(n i:Nat)(hn:n<=1048576)(hi:i<xa.length)(hib:i+bs.length<=n):∀ (r k:Nat) (out:List Int) (c:Int),r+k=bs.length->out.length=n->AI out->0<=c/\c<4294967296 ->
  W I (.loop Qv) (KE xa.length (lm xa) bs.length (lm bs) n (lm out) (i:Int) c (k:Int)) (.exit 2)
   (KE xa.length (lm xa) bs.length (lm bs) n (lm (GW (xa.getD i 0) bs i r k out c).1) (i:Int) (GW (xa.getD i 0) bs i r k out c).2 (bs.length:Int)):=by
 intro r;induction r with
 | zero =>
  intro k out c hk _ _ _;have hk':k=bs.length:=by omega
  subst hk';exact Al (vK xa.length (lm xa) bs.length (lm bs) n (lm out) (i:Int) c (bs.length:Int) (by simp)) (by nofun)
 | succ r ih =>
  intro k out c hk hl hu hc;have hai:=AA ha i;have hbk:=AA hb k;have hok:=AA hu (i+k);obtain⟨w1,w2,w3,w4⟩:=Vm hai hbk hc hok;have ei:D R ((i:Int)+(k:Int))=((i+k:Nat):Int):=by rw[AW (by omega) (by omega)];omega
  have ek:D R ((k:Int)+1)=((k+1:Nat):Int):=by rw[AW (by omega) (by omega)];omega
  have hz:=Vj (xs:=out) (i:=i+k) (by omega);have hx:=DW (xs:=xa) (i:=i) hi;have hy:=DW (xs:=bs) (i:=k) (by omega);have hst:=HO (xs:=out) (i:=i+k) (v:=(c+(out.getD (i+k) 0+xa.getD i 0*bs.getD k 0)) % 4294967296) (by omega);have eW:D U (c+D U (D U (out.getD (i+k) 0)+D U (D U (xa.getD i 0)*D U (bs.getD k 0))))=c+(out.getD (i+k) 0+xa.getD i 0*bs.getD k 0):=by
   have q1:D U (xa.getD i 0)=xa.getD i 0:=by rw[B1];omega
   have q2:D U (bs.getD k 0)=bs.getD k 0:=by rw[B1];omega
   have q3:D U (out.getD (i+k) 0)=out.getD (i+k) 0:=by rw[B1];omega
   rw[q1,q2,q3,B1,B1,B1];omega
  have eS:d (c+(out.getD (i+k) 0+xa.getD i 0*bs.getD k 0)) (2^(min (A 32) (Aj .u64)))=(c+(out.getD (i+k) 0+xa.getD i 0*bs.getD k 0)) / 4294967296:=by
   show d _ 4294967296=_;rw[t _ (by omega)]
  have h1:=vJ xa.length (lm xa) bs.length (lm bs) n (lm out) (lm (out.set (i+k) ((c+(out.getD (i+k) 0+xa.getD i 0*bs.getD k 0)) % 4294967296))) (i:Int) c (k:Int) (xa.getD i 0) (bs.getD k 0) (out.getD (i+k) 0)
   (by simp;omega) (by rw[ei];omega) (by rw[ei,F];exact hz) (by omega) (by rw[F];exact hx) (by omega) (by rw[F];exact hy) (by rw[ei];omega) (by rw[ei,F,eW,Ds];exact hst)
  rw[eW,eS,ek] at h1;exact W.loop h1 (ih (k+1) _ _ (by omega) (by simpa using hl) (Cq hu (by omega)) (by omega))
theorem jA(xa bs:List Int)(ha:AI xa)(hb:AI bs)(hN:xa.length+bs.length<=1048576):∀ (r i:Nat) (out:List Int),r+i=xa.length->out.length=xa.length+bs.length->AI out->(∀ j,i+bs.length<=j->out.getD j 0=0) ->
  ∃ out',out'.length=xa.length+bs.length/\AI out'/\Aa out'=Aa out+4294967296^i*(Aa (xa.drop i)*Aa bs) /\
   W I (.loop Qw) (KD xa.length (lm xa) bs.length (lm bs) (xa.length+bs.length) (lm out) (i:Int)) (.exit 0) (KD xa.length (lm xa) bs.length (lm bs) (xa.length+bs.length) (lm out') (xa.length:Int)):=by
 intro r;induction r with
 | zero =>
  intro i out hi hl hu _;have hi':i=xa.length:=by omega
  subst hi';refine⟨out,hl,hu,by simp[Aa],?_⟩;exact Al (iY xa.length (lm xa) bs.length (lm bs) (xa.length+bs.length) (lm out) (xa.length:Int) (by simp)) (by nofun)
 | succ r ih =>
  intro i out hi hl hu hz;have hai:=AA ha i;have hlt:i<xa.length:=by omega
  have hin:=iZ xa bs ha hb (xa.length+bs.length) i hN hlt (by omega) bs.length 0 out 0 (by omega) hl hu (by omega);obtain⟨g1,g2,g3,g4,g5⟩:=X5 (i:=i) hai hb bs.length 0 out 0 (by omega) (by omega) hu (by omega);generalize GW (xa.getD i 0) bs i bs.length 0 out 0=q at *
  obtain⟨ds,c⟩:=q;dsimp only at g1 g2 g3 g4 g5 hin;have ei:D R ((i:Int)+(bs.length:Int))=((i+bs.length:Nat):Int):=by rw[AW (by omega) (by omega)];omega
  have ei1:D R ((i:Int)+1)=((i+1:Nat):Int):=by rw[AW (by omega) (by omega)];omega
  have ec:D A4 c=c:=by rw[Ds];omega
  have hst:=HO (xs:=ds) (i:=i+bs.length) (v:=c) (by omega);have h1:=bY xa.length (lm xa) bs.length (lm bs) (xa.length+bs.length) (lm out) (lm ds) (lm (ds.set (i+bs.length) c)) (i:Int) c (bs.length:Int) (by simp;omega) hin (by rw[ei];omega) (by rw[ei,F,ec];exact hst);rw[ei1] at h1;obtain⟨out',k1,k2,k3,k4⟩:=ih (i+1) (ds.set (i+bs.length) c) (by omega) (by simp;omega) (Cq g2 g3) (fun j hj=>by rw[Mo (by omega),g5 j (by omega),hz j (by omega)]);refine⟨out',k1,k2,?_,W.loop h1 k4⟩;have hv:Aa (ds.set (i+bs.length) c)=Aa out+4294967296^i*(xa.getD i 0*Aa bs):=by
   rw[DA ds _ _ (by omega),g5 _ (Am _),hz _ (Am _)];simp only[FB,EP,Db,EI] at g4 |-;exact g4
  have hd:Aa (xa.drop i)=xa.getD i 0+4294967296*Aa (xa.drop (i+1)):=by
   rw[CU hlt];simp[Aa,Z,Ae hlt]
  rw[k3,hv,hd,Ay];generalize (4294967296:Int)^i=p at *
  generalize Aa (xa.drop (i+1))=V at *
  grind
theorem bZ{xa bs:List Int}(ha:AI xa)(hb:AI bs)(hN:xa.length+bs.length<=1048576) :
  ∃ out,out.length=xa.length+bs.length/\AI out/\Aa out=Aa xa*Aa bs/\H I 146 [sL lm xa,sL lm bs] (.fresh 1 out.length (lm out)):=by
 have en:D R ((xa.length:Int)+(bs.length:Int))=((xa.length+bs.length:Nat):Int):=by rw[AW (by omega) (by omega)];omega
 have eN:(A (D R ((xa.length:Int)+(bs.length:Int))))=xa.length+bs.length:=by rw[en,F]
 obtain⟨out,h1,h2,h3,h4⟩:=jA xa bs ha hb hN xa.length 0 (Aq (xa.length+bs.length) 0) (by omega) (by simp) (fun x hx=>by rw[Auo hx];omega) (fun j _=>by simp[Z,Kw];split <;> rfl);refine⟨out,h1,h2,?_,?_⟩
 ·rw[h3,Ez];simp
 have hmk:0<=D R ((xa.length:Int)+(bs.length:Int))/\D R ((xa.length:Int)+(bs.length:Int))<=1048576:=by rw[en];omega
 have hl:W I (.loop Qw) (KD xa.length (lm xa) bs.length (lm bs) (A (D R ((xa.length:Int)+(bs.length:Int)))) (Co [.int .u32 0] (A (D R ((xa.length:Int)+(bs.length:Int))))) 0) (.exit 0) (KD xa.length (lm xa) bs.length (lm bs) (A (D R ((xa.length:Int)+(bs.length:Int)))) (lm out) (xa.length:Int)):=by
  rw[eN,EO];exact h4
 have:=p (prog:=I) (f:=146) (args:=[sL lm xa,sL lm bs]) (r := .fresh 1 (A (D R ((xa.length:Int)+(bs.length:Int)))) (lm out)) (fn:=UH) (s:=(.val (sL lm xa)::(.val (sL lm bs)::(Q 2 (.own 1 (A (D R ((xa.length:Int)+(bs.length:Int)))) (lm out)::(Q 1 (.val (.int .i64 (xa.length:Int))::(Q 59 [])))))))) (ex := .ret) rfl rfl
  (W.seq (DH (t:=(.val (sL lm xa)::(.val (sL lm bs)::(Q 2 (.own 1 0 []::(Q 61 [])))))) (ex := .norm) (ps:=[]) Em 300 [] [0,1,4] (by kernel_rfl) trivial)
  (W.seq (DH (t:=(.val (sL lm xa)::(.val (sL lm bs)::(Q 2 (.own 1 0 []::(.own 1 (A (D R ((xa.length:Int)+(bs.length:Int)))) (Co [.int .u32 0] (A (D R ((xa.length:Int)+(bs.length:Int)))))::(Q 3 (.val (sL lm xa)::(.val (.int .i64 (xa.length:Int))::(.val (sL lm bs)::(.val (.int .i64 (bs.length:Int))::(.val (.int .i64 (D R ((xa.length:Int)+(bs.length:Int))))::(Q 52 []))))))))))))) (ex := .norm) (ps:=[0<=(D R ((xa.length:Int)+(bs.length:Int)))/\(D R ((xa.length:Int)+(bs.length:Int)))<=1048576]) Em 300 [] [0,1,4,5,9,10,11,12,13] (by kernel_rfl) ⟨hmk,trivial⟩)
  (W.seq (W.seq (DH (t:=(.val (sL lm xa)::(.val (sL lm bs)::(Q 2 (.own 1 0 []::(.own 1 (A (D R ((xa.length:Int)+(bs.length:Int)))) (Co [.int .u32 0] (A (D R ((xa.length:Int)+(bs.length:Int)))))::(.val (.int .i64 0)::(Q 59 [])))))))) (ex := .norm) (ps:=[]) Em 300 [] [0,1,4,5,6] (by kernel_rfl) trivial)
  (W.block hl))
  (DH (t:=(.val (sL lm xa)::(.val (sL lm bs)::(Q 2 (.own 1 (A (D R ((xa.length:Int)+(bs.length:Int)))) (lm out)::(Q 1 (.val (.int .i64 (xa.length:Int))::(Q 59 [])))))))) (ex := .ret) (ps:=[]) Em 300 [] [0,1,4,6] (by kernel_rfl) trivial)))) (by nofun) rfl
 rw[eN,<- h1] at this;exact this
def TBC:Cp:=TBB
theorem Ct:B_ I TBC:=Em
end Go.Proofs.YtajompaehjkgkaaGreat
namespace Go.Ai
open Bool renaming false_eq_true->BX
open Decidable renaming decide->B
open Int renaming le_of_dvd->A3k,lt_trichotomy->pL,mul_add->C1,mul_eq_zero->GI,mul_neg->DY,mul_one->Dp,natAbs->E,pow_succ->Ay,pow_zero->Da,sub_zero->EI,toNat->A,zero_add->Db
open List renaming all->pK,all_cons->Aub,all_eq_true->Cb,drop->g,drop_eq_getElem_cons->CU,drop_zero->EP,eq_nil_of_length_eq_zero->A3,eq_of_mem_replicate->Auo,ext_getElem->Yx,flatMap_cons->W0,getD_cons_succ->J1,getD_cons_zero->I4,getD_eq_getElem?_getD->Z,getElem?_append_right->AN,getElem?_drop->AX,getElem?_eq_getElem->Ae,getElem?_eq_none->AC,getElem?_map->CA,getElem?_replicate->Kw,getElem?_set_ne->FA,length_append->AU,length_cons->Bo,length_drop->Ed,length_nil->Ja,map_append->DR,map_map->Auq,map_take->Rr,mem_cons->CH,mem_map->Ea,mem_of_getElem?->Sz,mem_of_mem_take->Cg,mem_range->W8,not_mem_nil->M',range->Ao,range_succ->FX,replicate->Aq,replicate_succ->FU,set_append_right->A3v,set_cons_succ->A5e,set_cons_zero->A5d,set_eq_take_append_cons_drop->pH,take->Br
open Nat renaming add_assoc->CO,add_comm->H',add_mul->DK,add_zero->FB,le_refl->Am,le_trans->Bq,lt_or_ge->Ck,mul_one->Ia,one_mul->ES,pow_pos->Cn,zero_add->BR,zero_le->Bf
theorem C2:∀ (xs:List Int) (i:Nat),Aa (xs.drop i)=xs.getD i 0+4294967296*Aa (xs.drop (i+1))
 | [],i=>by simp[Aa]
 | x::xs,0=>by simp[Aa]
 | x::xs,i+1=>by
  have:=C2 xs i;simpa using this
theorem Cm{xs:List Int}{i j:Nat}{v:Int}(h:i ≠ j):(xs.set i v).getD j 0=xs.getD j 0:=by
 simp only[Z,FA h]
theorem Bv{xs:List Int}{i:Nat}(h:xs.length<=i):xs.getD i 0=0:=by
 simp[Z,AC h]
theorem DB{xs:List Int}{i:Nat}(h:xs.length<=i):Aa (xs.drop i)=0:=by
 rw[List.drop_eq_nil_of_le h];rfl
def HP(xs ys:List Int):Nat->Nat->List Int->Int->List Int × Int
 | 0,_,o,c=>(o,c)
 | r+1,i,o,c=>HP xs ys r (i+1) (o.set i ((xs.getD i 0+c+ys.getD i 0) % 4294967296)) ((xs.getD i 0+c+ys.getD i 0) / 4294967296)
theorem vL{xs ys:List Int}(hx:AI xs)(hy:AI ys)(hl:ys.length<=xs.length):∀ (r i:Nat) (o:List Int) (c:Int),r+i=xs.length->xs.length<o.length->AI o->0<=c/\c<=1->(∀ j,i<=j->o.getD j 0=0) ->
  (HP xs ys r i o c).1.length=o.length/\AI (HP xs ys r i o c).1/\(0<=(HP xs ys r i o c).2/\(HP xs ys r i o c).2<=1) /\
  Aa (HP xs ys r i o c).1+4294967296^xs.length*(HP xs ys r i o c).2=Aa o+4294967296^i*(c+Aa (xs.drop i)+Aa (ys.drop i)) /\
  ∀ j,xs.length<=j->(HP xs ys r i o c).1.getD j 0=0:=by
 intro r;induction r with
 | zero =>
  intro i o c hi _ hu hc hz;have hi':i=xs.length:=by omega
  subst hi';refine⟨rfl,hu,hc,?_,fun j hj=>hz j hj⟩;rw[DB (Am _),DB hl];simp[HP]
 | succ r ih =>
  intro i o c hi hlo hu hc hz;have h1:=AA hx i;have h2:=AA hy i;simp only[HP];have ex:=C2 xs i;have ey:=C2 ys i;have hoz:=hz i (Am _);generalize hW:xs.getD i 0+c+ys.getD i 0=W at *
  have hm:0<=W % 4294967296/\W % 4294967296<4294967296:=by omega
  obtain⟨g1,g2,g3,g4,g5⟩:=ih (i+1) (o.set i (W % 4294967296)) (W / 4294967296) (by omega) (by simpa using hlo) (Cq hu hm) (by omega) (fun j hj=>by rw[Cm (by omega)];exact hz j (by omega));refine⟨by simpa using g1,g2,g3,?_,g5⟩;rw[g4,DA o i _ (by omega),ex,ey,hoz,Ay];generalize (4294967296:Int)^i=p at *
  generalize Aa (xs.drop (i+1))=V at *
  generalize Aa (ys.drop (i+1))=U at *
  have e1:W=4294967296*(W / 4294967296)+W % 4294967296:=by omega
  have e2:c=W-xs.getD i 0-ys.getD i 0:=by omega
  rw[e2];generalize W / 4294967296=q at *
  generalize W % 4294967296=m at *
  generalize xs.getD i 0=a at *
  generalize ys.getD i 0=b at *
  subst e1;grind
def Ir(xs ys:List Int):Nat->Nat->List Int->Int->List Int × Int
 | 0,_,o,c=>(o,c)
 | r+1,i,o,c=>Ir xs ys r (i+1) (o.set i ((xs.getD i 0-c-ys.getD i 0) % 4294967296)) (-((xs.getD i 0-c-ys.getD i 0) / 4294967296))
theorem vM{xs ys:List Int}(hx:AI xs)(hy:AI ys)(hl:ys.length<=xs.length):∀ (r i:Nat) (o:List Int) (c:Int),r+i=xs.length->xs.length<=o.length->AI o->0<=c/\c<=1->(∀ j,i<=j->o.getD j 0=0) ->
  (Ir xs ys r i o c).1.length=o.length/\AI (Ir xs ys r i o c).1/\(0<=(Ir xs ys r i o c).2/\(Ir xs ys r i o c).2<=1) /\
  Aa (Ir xs ys r i o c).1=Aa o+4294967296^i*(Aa (xs.drop i)-Aa (ys.drop i)-c)+4294967296^xs.length*(Ir xs ys r i o c).2:=by
 intro r;induction r with
 | zero =>
  intro i o c hi _ hu hc hz;have hi':i=xs.length:=by omega
  subst hi';refine⟨rfl,hu,hc,?_⟩;rw[DB (Am _),DB hl];simp only[Ir];generalize (4294967296:Int)^xs.length=p;grind
 | succ r ih =>
  intro i o c hi hlo hu hc hz;have h1:=AA hx i;have h2:=AA hy i;simp only[Ir];have ex:=C2 xs i;have ey:=C2 ys i;have hoz:=hz i (Am _);generalize hW:xs.getD i 0-c-ys.getD i 0=W at *
  have hm:0<=W % 4294967296/\W % 4294967296<4294967296:=by omega
  obtain⟨g1,g2,g3,g4⟩:=ih (i+1) (o.set i (W % 4294967296)) (-(W / 4294967296)) (by omega) (by simpa using hlo) (Cq hu hm) (by omega) (fun j hj=>by rw[Cm (by omega)];exact hz j (by omega));refine⟨by simpa using g1,g2,g3,?_⟩;rw[g4,DA o i _ (by omega),ex,ey,hoz,Ay];generalize (4294967296:Int)^i=p at *
  generalize Aa (xs.drop (i+1))=V at *
  generalize Aa (ys.drop (i+1))=U at *
  have e1:W=4294967296*(W / 4294967296)+W % 4294967296:=by omega
  have e2:c=xs.getD i 0-ys.getD i 0-W:=by omega
  rw[e2];generalize W / 4294967296=q at *
  generalize W % 4294967296=m at *
  generalize xs.getD i 0=a at *
  generalize ys.getD i 0=b at *
  subst e1;grind
theorem Dw(n j:Nat):(Aq n (0:Int)).getD j 0=0:=by
 simp[Z,Kw];split <;> rfl
theorem EC(n:Nat):AI (Aq n 0):=fun x hx=>by rw [Auo hx];omega
theorem jB{xs ys:List Int}(hx:AI xs)(hy:AI ys)(hl:ys.length<=xs.length)(o:List Int)(c:Int)(e:HP xs ys xs.length 0 (Aq (xs.length+1) 0) 0=(o,c)) :
  o.length=xs.length+1/\AI o/\(0<=c/\c<=1)/\AI (o.set xs.length c)/\Aa (o.set xs.length c)=Aa xs+Aa ys:=by
 obtain⟨g1,g2,g3,g4,g5⟩:=vL hx hy hl xs.length 0 (Aq (xs.length+1) 0) 0 (by omega) (by simp) (EC _) (by omega) (fun j _=>Dw _ j);rw[e] at g1 g2 g3 g4 g5;dsimp only at g1 g2 g3 g4 g5;have hlo:o.length=xs.length+1:=by simpa using g1
 refine⟨hlo,g2,g3,Cq g2 (by omega),?_⟩;rw[DA o _ _ (by omega),g5 _ (Am _),EI,g4,Ez];simp
theorem jC{xs ys:List Int}(hx:AI xs)(hy:AI ys)(hl:ys.length<=xs.length)(hv:Aa ys<=Aa xs)(o:List Int)(c:Int)(e:Ir xs ys xs.length 0 (Aq xs.length 0) 0=(o,c)) :
  o.length=xs.length/\AI o/\Aa o=Aa xs-Aa ys:=by
 obtain⟨g1,g2,g3,g4⟩:=vM hx hy hl xs.length 0 (Aq xs.length 0) 0 (by omega) (by simp) (EC _) (by omega) (fun j _=>Dw _ j);rw[e] at g1 g2 g3 g4;dsimp only at g1 g2 g3 g4;have hlo:o.length=xs.length:=by simpa using g1
 refine⟨hlo,g2,?_⟩;rw[Ez] at g4;simp at g4;have h1:=D4 g2;rw[hlo] at h1;have hp:=Cc xs.length;rcases (show c=0\/c=1 by omega) with h | h
 ·rw[g4,h];simp
 ·rw[h,Dp] at g4;omega
abbrev Rn:=Bool × List Int
def O(r:Rn):Int:=rv r.1 r.2
def cn(n:Int):Rn:=(B (n<0),G n.natAbs)
def pc(rs:List Rn):List AV:=rs.flatMap fun r=>[.bool r.1,.sl r.2.length (lm r.2)]
def M(rs:List Rn):List Int:=rs.map O
def pk(ps:List Int):List AV:=pc (ps.map cn)
def z0:Rn:=(false,[])
def u(K:Nat)(r:Rn):Prop:=AI r.2/\r.2.length<=K
def Ap(r:Rn):AV := .agg [.bool r.1,.sl r.2.length (lm r.2)]
theorem At(n:Int):O (cn n)=n:=Fr n
theorem Vn:O z0=0:=rfl
theorem AH(ps:List Int):M (ps.map cn)=ps:=by
 unfold M;rw[Auq];have:(O ∘ cn)=id:=funext At;rw[this,List.map_id]
theorem AZ{k:Nat}{n:Int}(h:AY k n):u k (cn n):=⟨BC _,h.len⟩
theorem L7(k:Nat):u k z0:=⟨fun x hx=>(by cases hx),Bf _⟩
theorem u.mono{j k:Nat}{r:Rn}(h:u j r)(hk:j<=k):u k r:=⟨h.1,Bq h.2 hk⟩
theorem u.fits{k:Nat}{r:Rn}(h:u k r):AY k (O r):=(Vk h.1).mono h.2
theorem Vo(rs:List Rn):(pc rs).length=rs.length*2:=by
 induction rs with
 | nil=>rfl
 | cons r rs ih=>simp only[pc,W0,AU,Bo,Ja] at ih |-;omega
theorem L8(r:Rn)(rs:List Rn):pc (r::rs) = .bool r.1 :: .sl r.2.length (lm r.2)::pc rs:=rfl
theorem Mp(rs ss:List Rn):pc (rs++ss)=pc rs++pc ss:=by simp [pc]
theorem QC:∀ (i:Nat) (rs:List Rn),(pc rs).drop (i*2)=pc (rs.drop i)
 | 0,rs=>by simp
 | i+1,[]=>by simp[pc]
 | i+1,r::rs=>by
  rw[L8,DK,ES];show (pc rs).drop (i*2)=_;rw[QC i rs];rfl
theorem cA:∀ (i:Nat) (rs:List Rn),(pc rs).take (i*2)=pc (rs.take i)
 | 0,rs=>by simp[pc]
 | i+1,[]=>by simp[pc]
 | i+1,r::rs=>by
  rw[L8,DK,ES];show _::_::(pc rs).take (i*2)=_;rw[cA i rs];rfl
theorem N6{rs:List Rn}{i:Nat}(h:i<rs.length):Bl (g (i*2) (pc rs)) 0 2 false=some (Ap (rs.getD i z0)):=by
 rw[QC,CU h,L8];simp[Bl,Ap,Z,Ae h]
theorem Axv{rs:List Rn}{i:Nat}(h:i<rs.length):Bl (pc rs) (i*2) 2 false=some (Ap (rs.getD i z0)):=by
 have h1:=N6 h;have hl:=Vo rs;simp only[Bl,BX,if_false,BR,EP,Ed] at h1 |-;rw[if_pos (by omega)] at h1;rw[if_pos (by omega)];exact h1
theorem YY{rs:List Rn}{i:Nat}{r:Rn}(h:i<rs.length):Cv (pc rs) (i*2) [.bool r.1,.sl r.2.length (lm r.2)]=some (pc (rs.set i r)):=by
 have hl:=Vo rs;simp only[Cv,Bo,Ja];rw[if_pos (by omega)];congr 1;have hs:rs.set i r=rs.take i++r::rs.drop (i+1):=by rw[pH,if_pos h]
 rw[hs,Mp,L8,cA];have:(pc rs).drop (i*2+(0+1+1))=pc (rs.drop (i+1)):=by rw[<- QC];congr 1;omega
 simp only[BR] at this;rw[this];simp
theorem N7(n:Nat):Co [.bool false,.sl 0 []] n=pc (Aq n z0):=by
 induction n with
 | zero=>rfl
 | succ n ih=>rw[FU,L8,<- ih];rfl
theorem qN(rs:List Rn):pK (pc rs) (fun c => !isI c)=true:=by
 rw[Cb];intro c hc;simp only[pc,List.mem_flatMap,CH,M',or_false] at hc;obtain⟨r,_,rfl | rfl⟩:=hc <;> rfl
theorem Amn(xs:List Int):pK (lm xs) isI=true:=by
 rw[Cb];intro c hc;simp only[lm,Ea] at hc;obtain⟨x,_,rfl⟩:=hc;rfl
theorem OU(n:Int):Gp (Ab n)=true:=by
 simp only[Ab,Gp,Aub,Lv,Amn,List.all_nil,Bool.and_self]
theorem s(rs:List Rn):(M rs).length=rs.length:=by simp [M]
theorem C3(rs:List Rn)(i:Nat):(M rs).getD i 0=O (rs.getD i z0):=by
 simp only[M,Z,CA];cases rs[i]? <;> rfl
theorem A'{K:Nat}{rs:List Rn}(h:∀ r∈rs,u K r)(i:Nat):u K (rs.getD i z0):=by
 rw[Z];cases e:rs[i]? with
 | none=>exact L7 K
 | some r=>exact h r (Sz e)
theorem JE{k:Nat}{ps:List Int}(h:∀ x∈ps,AY k x):∀ r∈ps.map cn,u k r:=fun r hr=>by
 obtain⟨x,hx,rfl⟩:=Ea.1 hr;exact AZ (h x hx)
theorem C4{k:Nat}{rs:List Rn}(h:∀ r∈rs,u k r):∀ x∈M rs,AY k x:=fun x hx=>by
 obtain⟨r,hr,rfl⟩:=Ea.1 hx;exact (h r hr).fits
theorem X6{xs ys:List Int}(h:∀ i,xs.getD i 0=ys.getD i 0):∀ n,l xs n=l ys n:=by
 intro n;induction n with
 | zero=>rfl
 | succ n ih=>simp only[l,h n,ih]
theorem Vp(xs:List Int):∀ d,l xs (xs.length+d)=l xs xs.length:=by
 intro d;induction d with
 | zero=>rfl
 | succ d ih =>
  rw[<- CO];simp only[l];rw[Bv (by omega),if_pos rfl,ih]
theorem CX(xs:List Int)(i:Nat):(Y xs).getD i 0=xs.getD i 0:=by
 unfold Y;rcases Ck i (l xs xs.length) with h | h
 ·simp only[Z,List.getElem?_take,if_pos h]
 ·have e:(xs.take (l xs xs.length)).getD i 0=0:=Bv (by simp;omega);rw[e];rcases Ck i xs.length with h2 | h2
  ·exact (Mm xs xs.length i h h2).symm
  ·exact (Bv h2).symm
theorem JF{xs ys:List Int}(hl:xs.length=ys.length)(h:∀ i,xs.getD i 0=ys.getD i 0):xs=ys:=by
 apply Yx hl;intro i h1 h2;have:=h i;simpa [Z,Ae h1,Ae h2] using this
theorem FL{xs ys:List Int}(h:∀ i,xs.getD i 0=ys.getD i 0):Y xs=Y ys:=by
 have hlen:(Y xs).length=(Y ys).length:=by
  have h1:∀ zs:List Int,(Y zs).length=l zs zs.length:=fun zs=>by have:=Gn zs zs.length;simp[Y];omega
  rw[h1,h1];rcases Nat.le_total xs.length ys.length with g | g
  ·have:=Vp xs (ys.length-xs.length);rw[show xs.length+(ys.length-xs.length)=ys.length by omega] at this;rw[<- this,X6 h]
  ·have:=Vp ys (xs.length-ys.length);rw[show ys.length+(xs.length-ys.length)=xs.length by omega] at this;rw[<- this,X6 h]
 refine JF hlen fun i => ?_;rw[CX,CX,h i]
theorem Fs(xs:List Int):(Y xs).length=l xs xs.length:=by have:=Gn xs xs.length;simp [Y];omega
theorem vN{xs:List Int}{x:Int}(h:x∈Y xs):x∈xs:=Cg h
theorem Hv(xs:List Int):Y (Y xs)=Y xs:=FL (CX xs)
def V:List Int->Int->Int
 | [],_=>0
 | p::ps,x=>p+x*V ps x
theorem SO{xs:List Int}(h:∀ i,xs.getD i 0=0)(x:Int):V xs x=0:=by
 induction xs with
 | nil=>rfl
 | cons p ps ih =>
  have h0:=h 0;simp at h0;have:=ih (fun i=>by simpa using h (i+1));simp[V,h0,this]
theorem Gd:∀ {xs ys:List Int},(∀ i,xs.getD i 0=ys.getD i 0)->∀ x,V xs x=V ys x
 | [],ys,h,x=>(SO (fun i=>(h i).symm) x).symm
 | p::ps,[],h,x=>SO (fun i=>h i) x
 | p::ps,q::qs,h,x=>by
  have h0:=h 0;simp at h0;simp only[V,h0];rw[Gd (fun i=>by simpa using h (i+1)) x]
theorem E1(xs:List Int)(x:Int):V (Y xs) x=V xs x:=Gd (CX xs) x
def E6(g:Nat->Rn)(i r:Nat):List Rn:=(Ao i).map g++Aq r z0
theorem JY(g:Nat->Rn)(i r:Nat):(E6 g i r).length=i+r:=by simp [E6]
theorem Mq(g:Nat->Rn)(r:Nat):E6 g 0 r=Aq r z0:=by simp [E6]
theorem Mr(g:Nat->Rn)(i:Nat):E6 g i 0=(Ao i).map g:=by simp [E6]
theorem N8(g:Nat->Rn)(i r:Nat):(E6 g i (r+1)).set i (g i)=E6 g (i+1) r:=by
 unfold E6;rw[A3v _ _ (by simp),FX,DR,FU];simp
theorem jD(g:Nat->Rn)(i r:Nat):(E6 g i (r+1)).getD i z0=z0:=by
 unfold E6;rw[Z,AN (by simp)];simp
theorem IR(g:Nat->Rn)(n i:Nat):(M ((Ao n).map g)).getD i 0=if i<n then O (g i) else 0:=by
 rw[C3,Z];by_cases h:i<n
 ·simp[h]
 ·simp[h,Vn]
theorem RS(xs:List Int):(Ao xs.length).map (fun i=>cn (xs.getD i 0))=xs.map cn:=by
 apply Yx (by simp);intro i h1 h2;have h3:i<xs.length:=by simpa using h2
 simp[Z,Ae h3]
theorem Ms{K:Nat}{g:Nat->Rn}{n:Nat}(h:∀ i,i<n->u K (g i)):∀ r∈(Ao n).map g,u K r:=fun r hr=>by
 obtain⟨i,hi,rfl⟩:=Ea.1 hr;exact h i (W8.1 hi)
theorem G6(k:Nat):AY k 0:=by unfold AY;simp;exact Cn (by decide)
theorem Vq{k:Nat}{xs:List Int}(h:∀ x∈xs,AY k x)(i:Nat):AY k (xs.getD i 0):=by
 rw[Z];cases e:xs[i]? with
 | none=>exact G6 k
 | some x=>exact h x (Sz e)
def DQ(ps qs:List Int):List Int:=Y ((Ao (max ps.length qs.length)).map fun i=>ps.getD i 0+qs.getD i 0)
def BV(ps:List Int):List Int:=ps.map fun x => -x
theorem CY(ps qs:List Int)(i:Nat):(DQ ps qs).getD i 0=ps.getD i 0+qs.getD i 0:=by
 unfold DQ;rw[CX,Z];by_cases h:i<max ps.length qs.length
 ·simp[h]
 ·have h1:ps.length<=i:=by omega
  have h2:qs.length<=i:=by omega
  rw[Bv h1,Bv h2];simp[h]
theorem G7(ps:List Int)(i:Nat):(BV ps).getD i 0 = -(ps.getD i 0):=by
 unfold BV;simp only[Z,CA];cases ps[i]? <;> simp
theorem PA(ps qs:List Int):Y (DQ ps qs)=DQ ps qs:=Hv _
theorem N9(xs:List Int)(x:Int):V xs x=xs.getD 0 0+x*V (xs.drop 1) x:=by
 cases xs <;> simp[V]
theorem T6:∀ (n:Nat) (us bs cs:List Int),us.length<=n->bs.length<=n->cs.length<=n->(∀ i,cs.getD i 0=us.getD i 0+bs.getD i 0)->∀ x,V cs x=V us x+V bs x:=by
 intro n;induction n with
 | zero =>
  intro us bs cs h1 h2 h3 _ x;rw[A3 (by omega:us.length=0),A3 (by omega:bs.length=0),A3 (by omega:cs.length=0)];rfl
 | succ n ih =>
  intro us bs cs h1 h2 h3 h x;rw[N9 us,N9 bs,N9 cs,h 0,ih (us.drop 1) (bs.drop 1) (cs.drop 1) (by simp;omega) (by simp;omega) (by simp;omega) (fun i=>by
   have:=h (i+1);simpa [Z,H'] using this) x]
  rw[C1];omega
theorem BW(ps qs:List Int)(x:Int):V (DQ ps qs) x=V ps x+V qs x :=
 T6 (max (max ps.length qs.length) (DQ ps qs).length) ps qs _ (by omega) (by omega) (by omega) (CY ps qs) x
theorem IS(ps:List Int)(x:Int):V (BV ps) x = -V ps x:=by
 induction ps with
 | nil=>rfl
 | cons p ps ih =>
  have:BV (p::ps) = -p::BV ps:=rfl;rw[this];simp only[V,ih];rw[DY];omega
def vp(rs : List Rn) : Reg := .val (.sl rs.length (pc rs))
def bR(r : Rn) : Reg := .box [.bool r.1, .sl r.2.length (lm r.2)]
def bN(n : Int) : Reg := .box [.bool (decide (n < 0)), .sl ((G (E n)).length) (lm (G (E n)))]
section
variable {prog:Nat->Option IFunc}
theorem W9{c:Opd}{a b:ICode}{s t:Ak}{ex:Ex}(h:c.av s=some (.bool true))(h1:D0 prog a s ex t):D0 prog (.cond c a b) s ex t:=by
 obtain⟨n,h1⟩:=h1;refine⟨n+1,?_⟩;have e1:=Fm (Er prog (show n<=n+1 by omega)) (Am n) h1;simp only[Ch,IY,h,e1]
theorem WA{c:Opd}{a b:ICode}{s t:Ak}{ex:Ex}(h:c.av s=some (.bool false))(h1:D0 prog b s ex t):D0 prog (.cond c a b) s ex t:=by
 obtain⟨n,h1⟩:=h1;refine⟨n+1,?_⟩;have e1:=Fm (Er prog (show n<=n+1 by omega)) (Am n) h1;simp only[Ch,IY,h,e1]
theorem I7{c:Opd}{a b:ICode}{s t:Ak}{ex:Ex}{x:Bool}(h:c.av s=some (.bool x))(hx:x=true)(h1:W prog a s ex t):W prog (.cond c a b) s ex t:=by
 subst hx;obtain⟨u,k1,k2⟩:=h1;exact⟨u,W9 h k1,k2⟩
theorem I8{c:Opd}{a b:ICode}{s t:Ak}{ex:Ex}{x:Bool}(h:c.av s=some (.bool x))(hx:x=false)(h1:W prog b s ex t):W prog (.cond c a b) s ex t:=by
 subst hx;obtain⟨u,k1,k2⟩:=h1;exact⟨u,WA h k1,k2⟩
theorem vO{id:Nat}{c:ICode}{s t:Ak}{i:Nat}(h:W prog c s (.exit i) t)(hi:i ≠ id):W prog (.block id c) s (.exit i) t:=by
 obtain⟨u,k1,k2⟩:=h;exact⟨u,L2 k1 hi,k2⟩
theorem W.up{c:ICode}{ex:Ex}{fin:Ak}(st:Nat->Ak)(n:Nat)(hex:ex ≠ .norm)(step:∀ i,i<n->W prog c (st i) .norm (st (i+1)))(out:W prog c (st n) ex fin):∀ i,i<=n->W prog (.loop c) (st i) ex fin:=by
 have key:∀ r i,i+r=n->W prog (.loop c) (st i) ex fin:=by
  intro r;induction r with
  | zero =>
   intro i hi;have:i=n:=by omega
   subst this;exact Al out hex
  | succ r ih =>
   intro i hi;exact W.loop (step i (by omega)) (ih (i+1) (by omega))
 intro i hi;exact key (n-i) i (by omega)
theorem W.to{c:ICode}{ex:Ex}{s t s' t':Ak}(h:W prog c s ex t)(hs:s=s')(ht:t=t'):W prog c s' ex t':=hs ▸ ht ▸ h
end
theorem Gr{X:Int}{n:Nat}(h:0<=X/\X<(n:Int)):A X<n:=by omega
theorem y{xs:List Int}{X:Int}(h:0<=X/\X<(xs.length:Int)):Bl (g (A X*1) (lm xs)) 0 1 true=some (.int .u32 (xs.getD (A X) 0)):=DW (Gr h)
theorem X7(ws:List Int)(l h:Nat):Br ((h-l)*1) (g (l*1) (lm ws))=lm ((ws.drop l).take (h-l)):=by
 simp[lm,Rr,List.map_drop]
theorem SP{ws:List Int}{l h m:Nat}{X:Int}{a b:Bool}(hx:0<=X/\X<((h-l:Nat):Int))(hl:l<=h/\h<=m/\m<=ws.length/\(a=true->b=true)):Bl (g (A X*1) (Br ((h-l)*1) (g (l*1) (lm ws)))) 0 1 true=some (.int .u32 (((ws.drop l).take (h-l)).getD (A X) 0)):=by
 rw[X7];exact DW (by have:=Gr hx;simp;omega)
theorem Ca{xs:List Int}{n:Nat}(hl:xs.length=n){X:Int}(h:0<=X/\X<(n:Int)):Bl (lm xs) (A X*1) 1 true=some (.int .u32 (xs.getD (A X) 0)):=Vj (hl ▸ Gr h)
theorem CS{xs:List Int}{n:Nat}(hl:xs.length=n){X:Int}(h:0<=X/\X<(n:Int)){v:Int}:Cv (lm xs) (A X*1) [.int .u32 v]=some (lm (xs.set (A X) v)):=HO (hl ▸ Gr h)
theorem B3{rs:List Rn}{X:Int}(h:0<=X/\X<(rs.length:Int)):Bl (g (A X*2) (pc rs)) 0 2 false=some (Ap (rs.getD (A X) z0)):=N6 (Gr h)
theorem FM{rs:List Rn}{n:Nat}(hl:rs.length=n){X:Int}(h:0<=X/\X<(n:Int)):Bl (pc rs) (A X*2) 2 false=some (Ap (rs.getD (A X) z0)):=Axv (hl ▸ Gr h)
theorem Ft{rs:List Rn}{n:Nat}(hl:rs.length=n){X:Int}(h:0<=X/\X<(n:Int)){r:Rn}:Cv (pc rs) (A X*2) [.bool r.1,.sl r.2.length (lm r.2)]=some (pc (rs.set (A X) r)):=YY (hl ▸ Gr h)
theorem WB{rs:List Rn}{i:Nat}(h:i<rs.length):g (i*2) (pc rs) = .bool (rs.getD i z0).1 :: .sl (rs.getD i z0).2.length (lm (rs.getD i z0).2)::pc (rs.drop (i+1)):=by
 rw[QC,CU h,L8];simp[Z,Ae h]
theorem X8{rs:List Rn}{X:Int}(h:0<=X/\X<(rs.length:Int)):Bl (g 1 (g (A X*2) (pc rs))) 0 1 true=some (.sl (rs.getD (A X) z0).2.length (lm (rs.getD (A X) z0).2)):=by
 rw[WB (Gr h)];rfl
def pp(ps:List (List Rn)):List AV:=ps.map fun rs => sL pc rs
theorem Axw{ps:List (List Rn)}{i:Nat}(h:i<ps.length):(pp ps)[i]?=some (.sl (ps.getD i []).length (pc (ps.getD i []))):=by
 simp[pp,CA,Ae h,Z]
theorem Fh{ps:List (List Rn)}{X:Int}(h:0<=X/\X<(ps.length:Int)):Bl (g (A X*1) (pp ps)) 0 1 true=some (.sl (ps.getD (A X) []).length (pc (ps.getD (A X) []))):=by
 simp only[Bl,if_true,Ia,AX,FB];exact Axw (Gr h)
theorem Vr(xs:List Int)(i:Nat)(v x:Int)(h:i<xs.length):V (xs.set i v) x=V xs x+x^i*(v-xs.getD i 0):=by
 induction xs generalizing i with
 | nil=>simp at h
 | cons p ps ih =>
  cases i with
  | zero=>simp only[A5d,V,Da,I4];omega
  | succ i =>
   simp only[A5e,V,J1];rw[ih i (by simpa using h),Ay];generalize x^i=q;generalize V ps x=y;generalize ps.getD i 0=z;grind
theorem QD(n:Nat)(x:Int):V (Aq n 0) x=0:=by
 induction n with
 | zero=>rfl
 | succ n ih=>simp[FU,V,ih]
theorem Amo:∀ (d:List Int) (b:Int),(∀ x,b<=x->V d x=0)->∀ i,d.getD i 0=0
 | [],_,_,i=>by simp
 | c::d,b,h,i=>by
  have hc:c=0:=by
   have h1:=h (max b (c.natAbs+1)) (by omega);simp only[V] at h1;have h2:(max b ((c.natAbs:Int)+1))∣c:=⟨-(V d (max b ((c.natAbs:Int)+1))),by rw[DY];omega⟩;rcases pL c 0 with g | g | g
   ·have:=A3k (a:=max b ((c.natAbs:Int)+1)) (b := -c) (by omega) ((Int.dvd_neg).2 h2);omega
   ·exact g
   ·have:=A3k (a:=max b ((c.natAbs:Int)+1)) (b:=c) (by omega) h2;omega
  cases i with
  | zero=>simpa using hc
  | succ i =>
   have:=Amo d (max b 1) (fun x hx=>by
    have h1:=h x (by omega);simp only[V,hc,Db] at h1;rcases GI.1 h1 with g | g
    ·omega
    ·exact g) i
   simpa using this
theorem D7{p q:List Int}(h:∀ x,V p x=V q x)(i:Nat):p.getD i 0=q.getD i 0:=by
 have:=Amo (DQ p (BV q)) 0 (fun x _=>by rw[BW,IS,h x];omega) i;rw[CY,G7] at this;omega
theorem Hw{p q:List Int}(h:∀ x,V p x=V q x):Y p=Y q:=FL (D7 h)
def L9(p q:List Int):List Int:=DQ p (BV q)
theorem Fu(p q:List Int)(x:Int):V (L9 p q) x=V p x-V q x:=by rw [L9,BW,IS];omega
theorem PB(p q:List Int)(i:Nat):(L9 p q).getD i 0=p.getD i 0-q.getD i 0:=by rw [L9,CY,G7];omega
def Ax(a:Int)(q:List Int):List Int:=q.map fun x=>a*x
theorem A0(a:Int)(q:List Int)(x:Int):V (Ax a q) x=a*V q x:=by
 induction q with
 | nil=>simp[Ax,V]
 | cons c q ih =>
  have:Ax a (c::q)=a*c::Ax a q:=rfl;rw[this];simp only[V,ih];generalize V q x=y;grind
theorem AO(a:Int)(q:List Int)(i:Nat):(Ax a q).getD i 0=a*q.getD i 0:=by
 unfold Ax;simp only[Z,CA];cases q[i]? <;> simp
def BL:List Int->List Int->List Int
 | [],_=>[]
 | a::p,q=>DQ (Ax a q) (0::BL p q)
theorem Bk(p q:List Int)(x:Int):V (BL p q) x=V p x*V q x:=by
 induction p with
 | nil=>simp[BL,V]
 | cons a p ih =>
  simp only[BL,BW,A0,V,ih];generalize V q x=y;generalize V p x=z;grind
theorem Vs(p q:List Int):Y (BL p q)=BL p q:=by
 cases p with
 | nil=>rfl
 | cons a p=>exact PA _ _
theorem FN{k:Nat}{p:List Int}(hp:∀ x∈p,AY k x):∀ x∈Y p,AY k x:=fun x hx=>hp x (vN hx)
theorem X9(p q:List Int):(DQ p q).length<=max p.length q.length:=by
 have:=Bn ((Ao (max p.length q.length)).map fun i=>p.getD i 0+q.getD i 0);simpa [DQ] using this
theorem DC(p:List Int):(BV p).length=p.length:=by simp [BV]
def hv:List Int->Int->Int->Int
 | [],_,_=>0
 | t::ts,x,d=>t*d^ts.length+x*hv ts x d
end Go.Ai
namespace Go.Proofs.YtajompaehjkgkaaGreat
open Go.Ai
set_option maxRecDepth 100000
open BitVec renaming ofInt->T,ofInt_natCast->JA,toNat_ofNat->I3,toNat_or->gN
open Bool renaming and_true->Ks,false_and->JX,false_eq_true->BX,true_and->Og
open Decidable renaming decide->B
open Go.IntKind renaming bits->Aj,i64->R,u32->A4,u64->U,wrap->D
open Int renaming add_comm->Ij,emod_add_mul_ediv->Sy,emod_eq_of_lt->FT,fdiv->d,fdiv_eq_ediv_of_nonneg->t,lt_of_le_of_lt->vU,mul_le_mul_of_nonneg_left->Ah,mul_le_mul_of_nonneg_right->Ad,mul_nonneg->A1,natAbs->E,natAbs_neg->Aue,natCast_mul->Dj,natCast_nonneg->Hd,natCast_pow->Cr,one_mul->CR,pow_add->B4,pow_mul->gP,pow_pos->EX,pow_succ->Ay,pow_zero->Da,sub_zero->EI,tdiv->o,tdiv_eq_ediv_of_nonneg->B0,tmod->f,tmod_eq_emod_of_nonneg->Bc,toNat->A,toNat_natCast->F,zero_add->Db
open List renaming append_assoc->MF,append_nil->OJ,drop->g,drop_zero->EP,length->Bj,length_append->AU,length_replicate->EW,length_set->AS,map_take->Rr,mem_append->BJ,mem_singleton->HZ,replicate->Aq,take->Br,take_length->Ee
open Nat renaming add_mul->DK,add_zero->FB,div_add_mod->gM,le_refl->Am,le_trans->Bq,lt_of_le_of_lt->Dh,lt_or_ge->Ck,mod_eq_of_lt->Fj,mul_comm->CP,mul_le_mul_right->A8,mul_one->Ia,one_mul->ES,pow_add->C_,pow_le_pow_right->Bm,two_pow_add_eq_or_of_lt->Aum
theorem jE(neg:Bool)(xs:List Int)(c1:((((Y xs).length:Nat):Int)==0)=true)(n1:H I 99 [sL lm xs] (.fresh 1 ((Y xs).length) (lm (Y xs)))):H I 79 [.agg [.bool neg,sL lm xs]] (.int .i64 0):=i (fn:=Up) Ct rfl 400 rfl [.r (.fresh 1 ((Y xs).length) (lm (Y xs))),.b true] (L n1 (L c1 a0))
theorem jF(neg:Bool)(xs:List Int)(c1:((((Y xs).length:Nat):Int)==0)=false)(c2:(neg)=true)(n1:H I 99 [sL lm xs] (.fresh 1 ((Y xs).length) (lm (Y xs)))):H I 79 [.agg [.bool neg,sL lm xs]] (.int .i64 (-1)):=i (fn:=Up) Ct rfl 400 rfl [.r (.fresh 1 ((Y xs).length) (lm (Y xs))),.b false,.b true] (L n1 (L c1 (L c2 a0)))
theorem jG(neg:Bool)(xs:List Int)(c1:((((Y xs).length:Nat):Int)==0)=false)(c2:(neg)=false)(n1:H I 99 [sL lm xs] (.fresh 1 ((Y xs).length) (lm (Y xs)))):H I 79 [.agg [.bool neg,sL lm xs]] (.int .i64 1):=i (fn:=Up) Ct rfl 400 rfl [.r (.fresh 1 ((Y xs).length) (lm (Y xs))),.b false,.b false] (L n1 (L c1 (L c2 a0)))
theorem Amp(neg:Bool)(xs:List Int)(v:Int)(n1:H I 98 [.bool (!neg),sL lm xs] (C8 v)):H I 161 [.agg [.bool neg,sL lm xs]] (Ab v):=i (fn:=UR) Ct rfl 400 rfl [.r (C8 v)] (L n1 a0)
theorem Axx(neg:Bool)(xs:List Int)(v:Int)(n1:H I 98 [.bool neg,sL lm xs] (C8 v)):H I 97 [.agg [.bool neg,sL lm xs]] (Ab v):=i (fn:=bG) Ct rfl 400 rfl [.r (C8 v)] (L n1 a0)
def GX(xs:List Int)(ys:List Int)(n:Nat)(cs:List AV)(c:Int)(i:Int):Ak:=(.val (sL lm xs)::(.val (sL lm ys)::(Q 3 (.own 1 n cs::(.val (.int .u64 c)::(.val (.int .i64 i)::(Q 46 [])))))))
theorem Amq(xs:List Int)(ys:List Int)(n:Nat)(cs:List AV)(c:Int)(i:Int)(c1:B (i<(xs.length:Int))=true)(c2:B (i<(ys.length:Int))=true)(n1:0<=i/\i<(xs.length:Int))(n2:0<=i/\i<(ys.length:Int))(n3:n+1<=35184372088832):W I Mg (GX xs ys n cs c i) .norm (GX xs ys (n+1) (cs++([.int .u32 (D A4 (D U ((D U (c+(D U (xs.getD (A i) 0))))+(D U (ys.getD (A i) 0)))))]:List AV)) (d (D U ((D U (c+(D U (xs.getD (A i) 0))))+(D U (ys.getD (A i) 0)))) (2^(min (A 32) (Aj .u64)))) (D R (i+1))):=(C Ct 400 [.b true,.b true,.b true,.b true,.v (.int .u32 (xs.getD (A i) 0)),.b true,.v (.int .u32 (ys.getD (A i) 0))] [0,1,5,6,7] (L c1 (L G0 (L G0 (L c1 (L n1 (L (y n1) (L c2 (L n2 (L (y n2) (L (show Bj ([.int .u32 (D A4 (D U ((D U (c+(D U (xs.getD (A i) 0))))+(D U (ys.getD (A i) 0)))))]:List AV)=1*1 from rfl) (L n3 (L HE a0)))))))))))))
theorem Amr(xs:List Int)(ys:List Int)(n:Nat)(cs:List AV)(c:Int)(i:Int)(c1:B (i<(xs.length:Int))=true)(c2:B (i<(ys.length:Int))=false)(n1:0<=i/\i<(xs.length:Int))(n2:n+1<=35184372088832):W I Mg (GX xs ys n cs c i) .norm (GX xs ys (n+1) (cs++([.int .u32 (D A4 (D U (c+(D U (xs.getD (A i) 0)))))]:List AV)) (d (D U (c+(D U (xs.getD (A i) 0)))) (2^(min (A 32) (Aj .u64)))) (D R (i+1))):=(C Ct 400 [.b true,.b true,.b true,.b true,.v (.int .u32 (xs.getD (A i) 0)),.b false] [0,1,5,6,7] (L c1 (L G0 (L G0 (L c1 (L n1 (L (y n1) (L c2 (L (show Bj ([.int .u32 (D A4 (D U (c+(D U (xs.getD (A i) 0)))))]:List AV)=1*1 from rfl) (L n2 (L HE a0)))))))))))
theorem Ams(xs:List Int)(ys:List Int)(n:Nat)(cs:List AV)(c:Int)(i:Int)(c1:B (i<(xs.length:Int))=false)(c2:B (i<(ys.length:Int))=true)(n1:0<=i/\i<(ys.length:Int))(n2:n+1<=35184372088832):W I Mg (GX xs ys n cs c i) .norm (GX xs ys (n+1) (cs++([.int .u32 (D A4 (D U (c+(D U (ys.getD (A i) 0)))))]:List AV)) (d (D U (c+(D U (ys.getD (A i) 0)))) (2^(min (A 32) (Aj .u64)))) (D R (i+1))):=(C Ct 400 [.b false,.b true,.b true,.b false,.b true,.v (.int .u32 (ys.getD (A i) 0))] [0,1,5,6,7] (L c1 (L c2 (L G0 (L c1 (L c2 (L n1 (L (y n1) (L (show Bj ([.int .u32 (D A4 (D U (c+(D U (ys.getD (A i) 0)))))]:List AV)=1*1 from rfl) (L n2 (L HE a0)))))))))))
theorem Amt(xs:List Int)(ys:List Int)(n:Nat)(cs:List AV)(c:Int)(i:Int)(c1:B (i<(xs.length:Int))=false)(c2:B (i<(ys.length:Int))=false)(c3:B (c>0)=true)(n1:n+1<=35184372088832):W I Mg (GX xs ys n cs c i) .norm (GX xs ys (n+1) (cs++([.int .u32 (D A4 c)]:List AV)) (d c (2^(min (A 32) (Aj .u64)))) (D R (i+1))):=(C Ct 400 [.b false,.b false,.b true,.b false,.b false] [0,1,5,6,7] (L c1 (L c2 (L c3 (L c1 (L c2 (L (show Bj ([.int .u32 (D A4 c)]:List AV)=1*1 from rfl) (L n1 (L HE a0)))))))))
theorem cB(xs:List Int)(ys:List Int)(n:Nat)(cs:List AV)(c:Int)(i:Int)(c1:B (i<(xs.length:Int))=false)(c2:B (i<(ys.length:Int))=false)(c3:B (c>0)=false):W I Mg (GX xs ys n cs c i) (.exit 0) (GX xs ys n cs c i):=(C Ct 400 [.b false,.b false,.b false] [0,1,5,6,7] (L c1 (L c2 (L c3 a0))))
theorem Amu(xs ys:List Int)(n:Nat)(cs:List AV)(c i:Int)(hl1:W I (.loop Mg) (GX xs ys 0 ([]:List AV) 0 0) (.exit 0) (GX xs ys n cs c i)):H I 144 [sL lm xs,sL lm ys] (.fresh 1 n cs):=p (fn:=UF) (s:=(Q 1 (.val (sL lm ys)::(Q 2 (.own 1 n cs::(Q 49 [])))))) (ex := .ret) rfl rfl (P (P (Ar (W.seq (C Ct 400 [] [0,1,5,6,7] a0) (W.seq (W.block hl1) (C Ct 400 [] [1,4] a0)))))) (by nofun) rfl
def Je(xs:List Int)(ys:List Int)(n:Nat)(cs:List AV)(c:Int)(i:Int):Ak:=(.val (sL lm xs)::(.val (sL lm ys)::(Q 3 (.own 1 n cs::(.val (.int .u64 c)::(.val (.int .i64 i)::(Q 34 [])))))))
theorem Amv(xs:List Int)(ys:List Int)(n:Nat)(cs:List AV)(c:Int)(i:Int)(c1:B (i<(xs.length:Int))=true)(c2:B (i<(ys.length:Int))=true)(n1:0<=i/\i<(ys.length:Int))(n2:0<=i/\i<(xs.length:Int))(n3:n+1<=35184372088832):W I P0 (Je xs ys n cs c i) .norm (Je xs ys (n+1) (cs++([.int .u32 (D A4 (D U ((D U ((D U (xs.getD (A i) 0))-(D U (ys.getD (A i) 0))))-c)))]:List AV)) (d (D U ((D U ((D U (xs.getD (A i) 0))-(D U (ys.getD (A i) 0))))-c)) (2^(min (A 63) (Aj .u64)))) (D R (i+1))):=(C Ct 400 [.b true,.b true,.v (.int .u32 (ys.getD (A i) 0)),.v (.int .u32 (xs.getD (A i) 0))] [0,1,5,6,7] (L c1 (L c2 (L n1 (L (y n1) (L n2 (L (y n2) (L (show Bj ([.int .u32 (D A4 (D U ((D U ((D U (xs.getD (A i) 0))-(D U (ys.getD (A i) 0))))-c)))]:List AV)=1*1 from rfl) (L n3 (L W6 a0))))))))))
theorem Amw(xs:List Int)(ys:List Int)(n:Nat)(cs:List AV)(c:Int)(i:Int)(c1:B (i<(xs.length:Int))=true)(c2:B (i<(ys.length:Int))=false)(n1:0<=i/\i<(xs.length:Int))(n2:n+1<=35184372088832):W I P0 (Je xs ys n cs c i) .norm (Je xs ys (n+1) (cs++([.int .u32 (D A4 (D U ((D U ((D U (xs.getD (A i) 0))-0))-c)))]:List AV)) (d (D U ((D U ((D U (xs.getD (A i) 0))-0))-c)) (2^(min (A 63) (Aj .u64)))) (D R (i+1))):=(C Ct 400 [.b true,.b false,.v (.int .u32 (xs.getD (A i) 0))] [0,1,5,6,7] (L c1 (L c2 (L n1 (L (y n1) (L (show Bj ([.int .u32 (D A4 (D U ((D U ((D U (xs.getD (A i) 0))-0))-c)))]:List AV)=1*1 from rfl) (L n2 (L W6 a0))))))))
theorem Amx(xs:List Int)(ys:List Int)(n:Nat)(cs:List AV)(c:Int)(i:Int)(c1:B (i<(xs.length:Int))=false):W I P0 (Je xs ys n cs c i) (.exit 0) (Je xs ys n cs c i):=(C Ct 400 [.b false] [0,1,5,6,7] (L c1 a0))
theorem Amy(xs ys:List Int)(n:Nat)(cs:List AV)(c i:Int)(hl1:W I (.loop P0) (Je xs ys 0 ([]:List AV) 0 0) (.exit 0) (Je xs ys n cs c i)):H I 145 [sL lm xs,sL lm ys] (.fresh 1 n cs):=p (fn:=UG) (s:=(Q 1 (.val (sL lm ys)::(Q 2 (.own 1 n cs::(Q 37 [])))))) (ex := .ret) rfl rfl (P (P (Ar (W.seq (C Ct 400 [] [0,1,5,6,7] a0) (W.seq (W.block hl1) (C Ct 400 [] [1,4] a0)))))) (by nofun) rfl
theorem G8(xs:List Int)(v:Int):lm xs++([.int .u32 v]:List AV)=lm (xs++[v]):=by simp [lm]
theorem LA{xs:List Int}(h:AI xs){v:Int}(hv:0<=v/\v<4294967296):AI (xs++[v]):=by
 intro x hx;rcases BJ.1 hx with g | g
 ·exact h x g
 ·rw[HZ.1 g];exact hv
theorem JZ(xs:List Int)(v:Int):Aa (xs++[v])=Aa xs+4294967296^xs.length*v:=by rw [Gc];simp [Aa]
theorem cC{s:Int}:d s (2^(min (A 32) (Aj .u64)))=s / 4294967296:=by
 show d s 4294967296=_;rw[t _ (by omega)]
theorem A3l{s:Int}:d s (2^(min (A 63) (Aj .u64)))=s / 9223372036854775808:=by
 show d s 9223372036854775808=_;rw[t _ (by omega)]
theorem vP{xs ys:List Int}(hx:AI xs)(hy:AI ys)(h1:xs.length<1048576)(h2:ys.length<1048576):∀ (r i:Nat) (acc:List Int) (c:Int),i+r=max xs.length ys.length->acc.length=i->AI acc->0<=c/\c<=1 ->
  ∃ (zs:List Int) (c' i':Int),AI zs/\zs.length<=max xs.length ys.length+1/\Aa zs=Aa acc+4294967296^i*(c+Aa (xs.drop i)+Aa (ys.drop i)) /\
   W I (.loop Mg) (GX xs ys i (lm acc) c (i:Nat)) (.exit 0) (GX xs ys zs.length (lm zs) c' i'):=by
 intro r;induction r with
 | zero =>
  intro i acc c hi hl hu hc;have e1:Aa (xs.drop i)=0:=DB (by omega);have e2:Aa (ys.drop i)=0:=DB (by omega);have g1:decide ((i:Int)<(xs.length:Int))=false:=by simp;omega
  have g2:decide ((i:Int)<(ys.length:Int))=false:=by simp;omega
  by_cases hc0:c=0
  ·refine⟨acc,c,i,hu,by omega,by rw[e1,e2,hc0];simp,?_⟩;rw[hl];exact Al (cB xs ys i (lm acc) c (i:Nat) g1 g2 (by simp;omega)) (by nofun)
  ·have hc1:c=1:=by omega
   subst hc1;refine⟨acc++[1],0,D R ((i:Int)+1),LA hu (by omega),by simp;omega,by rw[JZ,e1,e2,hl];simp,?_⟩;have k:=Amt xs ys i (lm acc) 1 (i:Nat) g1 g2 (by simp) (by omega);rw[cC,Ds,show (1:Int) % 4294967296=1 by decide,show (1:Int) / 4294967296=0 by decide,G8] at k;have ei:D R ((i:Int)+1)=((i+1:Nat):Int):=by rw[AW (by omega) (by omega)];omega
   rw[ei] at k |-;have k2:=cB xs ys (i+1) (lm (acc++[1])) 0 ((i+1:Nat):Int) (by simp;omega) (by simp;omega) (by simp);have hll:(acc++[1]).length=i+1:=by simp[hl]
   rw[hll];exact W.loop k (Al k2 (by nofun))
 | succ r ih =>
  intro i acc c hi hl hu hc;have bx:=AA hx i;have byy:=AA hy i;have ei:D R ((i:Int)+1)=((i+1:Nat):Int):=by rw[AW (by omega) (by omega)];omega
  have step:W I Mg (GX xs ys i (lm acc) c (i:Nat)) .norm (GX xs ys (i+1) (lm (acc++[(c+xs.getD i 0+ys.getD i 0) % 4294967296])) ((c+xs.getD i 0+ys.getD i 0) / 4294967296) ((i+1:Nat):Int)):=by
   have wx:D U (xs.getD i 0)=xs.getD i 0:=by rw[B1];omega
   have wy:D U (ys.getD i 0)=ys.getD i 0:=by rw[B1];omega
   by_cases g1:i<xs.length <;> by_cases g2:i<ys.length
   ·have k:=Amq xs ys i (lm acc) c (i:Nat) (by simp;omega) (by simp;omega) (by omega) (by omega) (by omega);have w1:D U (D U (c+xs.getD i 0)+ys.getD i 0)=c+xs.getD i 0+ys.getD i 0:=by rw[B1,B1];omega
    simp only[F,wx,wy,w1,cC,Ds,ei,G8] at k;exact k
   ·have k:=Amr xs ys i (lm acc) c (i:Nat) (by simp;omega) (by simp;omega) (by omega) (by omega);have hz:ys.getD i 0=0:=Bv (by omega);have w1:D U (c+xs.getD i 0)=c+xs.getD i 0+ys.getD i 0:=by rw[B1,hz];omega
    simp only[F,wx,w1,cC,Ds,ei,G8] at k;exact k
   ·have k:=Ams xs ys i (lm acc) c (i:Nat) (by simp;omega) (by simp;omega) (by omega) (by omega);have hz:xs.getD i 0=0:=Bv (by omega);have w1:D U (c+ys.getD i 0)=c+xs.getD i 0+ys.getD i 0:=by rw[B1,hz];omega
    simp only[F,wy,w1,cC,Ds,ei,G8] at k;exact k
   ·omega
  obtain⟨zs,c',i',q1,q2,q3,q4⟩:=ih (i+1) (acc++[(c+xs.getD i 0+ys.getD i 0) % 4294967296]) ((c+xs.getD i 0+ys.getD i 0) / 4294967296) (by omega) (by simp[hl]) (LA hu (by omega)) (by omega);refine⟨zs,c',i',q1,q2,?_,W.loop step q4⟩;rw[q3,JZ,hl,C2 xs i,C2 ys i,Ay];have hd:=Sy (c+xs.getD i 0+ys.getD i 0) 4294967296;generalize (c+xs.getD i 0+ys.getD i 0) % 4294967296=m at *
  generalize (c+xs.getD i 0+ys.getD i 0) / 4294967296=d at *
  generalize (4294967296:Int)^i=p at *
  generalize Aa (xs.drop (i+1))=X at *
  generalize Aa (ys.drop (i+1))=Y at *
  have:c+(xs.getD i 0+4294967296*X)+(ys.getD i 0+4294967296*Y)=m+4294967296*(d+X+Y):=by omega
  rw[this];grind
theorem cD{xs ys:List Int}(hx:AI xs)(hy:AI ys)(h1:xs.length<1048576)(h2:ys.length<1048576):∃ zs,AI zs/\Aa zs=Aa xs+Aa ys/\zs.length<=max xs.length ys.length+1/\H I 144 [sL lm xs,sL lm ys] (.fresh 1 zs.length (lm zs)):=by
 obtain⟨zs,c',i',q1,q2,q3,q4⟩:=vP hx hy h1 h2 (max xs.length ys.length) 0 [] 0 (by omega) rfl (fun x hx=>by cases hx) (by omega);refine⟨zs,q1,by rw[q3];simp[Aa],q2,?_⟩;exact Amu xs ys _ _ _ _ q4
theorem vQ{xs ys:List Int}(hx:AI xs)(hy:AI ys)(hl2:ys.length<=xs.length)(h1:xs.length<=1048576):∀ (r i:Nat) (acc:List Int) (c:Int),i+r=xs.length->acc.length=i->AI acc->0<=c/\c<=1 ->
  ∃ (zs:List Int) (c' i':Int),AI zs/\zs.length=xs.length/\0<=c'/\Aa zs-4294967296^xs.length*c'=Aa acc+4294967296^i*(Aa (xs.drop i)-Aa (ys.drop i)-c) /\
   W I (.loop P0) (Je xs ys i (lm acc) c (i:Nat)) (.exit 0) (Je xs ys zs.length (lm zs) c' i'):=by
 intro r;induction r with
 | zero =>
  intro i acc c hi hl hu hc;have e1:Aa (xs.drop i)=0:=DB (by omega);have e2:Aa (ys.drop i)=0:=DB (by omega);have hii:xs.length=i:=by omega
  refine⟨acc,c,i,hu,by omega,hc.1,by rw[e1,e2,hii];grind,?_⟩;rw[hl];exact Al (Amx xs ys i (lm acc) c (i:Nat) (by simp;omega)) (by nofun)
 | succ r ih =>
  intro i acc c hi hl hu hc;have bx:=AA hx i;have byy:=AA hy i;have ei:D R ((i:Int)+1)=((i+1:Nat):Int):=by rw[AW (by omega) (by omega)];omega
  have step:W I P0 (Je xs ys i (lm acc) c (i:Nat)) .norm (Je xs ys (i+1) (lm (acc++[(xs.getD i 0-ys.getD i 0-c) % 4294967296])) (-((xs.getD i 0-ys.getD i 0-c) / 4294967296)) ((i+1:Nat):Int)):=by
   have wx:D U (xs.getD i 0)=xs.getD i 0:=by rw[B1];omega
   have wy:D U (ys.getD i 0)=ys.getD i 0:=by rw[B1];omega
   by_cases g2:i<ys.length
   ·have k:=Amv xs ys i (lm acc) c (i:Nat) (by simp;omega) (by simp;omega) (by omega) (by omega) (by omega);have w1:D U (D U (xs.getD i 0-ys.getD i 0)-c) % 4294967296=(xs.getD i 0-ys.getD i 0-c) % 4294967296:=by rw[B1,B1];omega
    have w2:D U (D U (xs.getD i 0-ys.getD i 0)-c) / 9223372036854775808 = -((xs.getD i 0-ys.getD i 0-c) / 4294967296):=by rw[B1,B1];omega
    simp only[F,wx,wy,A3l,Ds,w1,w2,ei,G8] at k;exact k
   ·have k:=Amw xs ys i (lm acc) c (i:Nat) (by simp;omega) (by simp;omega) (by omega) (by omega);have hz:ys.getD i 0=0:=Bv (by omega);have w1:D U (D U (xs.getD i 0-0)-c) % 4294967296=(xs.getD i 0-ys.getD i 0-c) % 4294967296:=by rw[B1,B1,hz];omega
    have w2:D U (D U (xs.getD i 0-0)-c) / 9223372036854775808 = -((xs.getD i 0-ys.getD i 0-c) / 4294967296):=by rw[B1,B1,hz];omega
    simp only[F,wx,A3l,Ds,w1,w2,ei,G8] at k;exact k
  obtain⟨zs,c',i',q1,q2,q0,q3,q4⟩:=ih (i+1) (acc++[(xs.getD i 0-ys.getD i 0-c) % 4294967296]) (-((xs.getD i 0-ys.getD i 0-c) / 4294967296)) (by omega) (by simp[hl]) (LA hu (by omega)) (by omega);refine⟨zs,c',i',q1,q2,q0,?_,W.loop step q4⟩;rw[q3,JZ,hl,C2 xs i,C2 ys i,Ay];have hd:=Sy (xs.getD i 0-ys.getD i 0-c) 4294967296;generalize (xs.getD i 0-ys.getD i 0-c) % 4294967296=m at *
  generalize (xs.getD i 0-ys.getD i 0-c) / 4294967296=d at *
  generalize (4294967296:Int)^i=p at *
  generalize Aa (xs.drop (i+1))=X at *
  generalize Aa (ys.drop (i+1))=Y at *
  have:xs.getD i 0+4294967296*X-(ys.getD i 0+4294967296*Y)-c=m+4294967296*(d+X-Y):=by omega
  rw[this];grind
theorem SQ{xs ys:List Int}(hx:AI xs)(hy:AI ys)(hl:ys.length<=xs.length)(hv:Aa ys<=Aa xs)(h1:xs.length<=1048576):∃ zs,AI zs/\Aa zs=Aa xs-Aa ys/\zs.length=xs.length/\H I 145 [sL lm xs,sL lm ys] (.fresh 1 zs.length (lm zs)):=by
 obtain⟨zs,c',i',q1,q2,q0,q3,q4⟩:=vQ hx hy hl h1 xs.length 0 [] 0 (by omega) rfl (fun x hx=>by cases hx) (by omega);simp only[Aa,Da,EP,CR,Db,EI] at q3;have hlt:=D4 q1;rw[q2] at hlt;have hp:=Cc xs.length;have hc:c'=0:=by
  generalize (4294967296:Int)^xs.length=p at *
  rcases Int.lt_or_le 0 c' with g | g
  ·have:p*1<=p*c':=Ah (by omega) (by omega);omega
  ·omega
 subst hc;refine⟨zs,q1,by simpa using q3,q2,?_⟩;exact Amy xs ys _ _ _ _ q4
theorem FO{neg:Bool}{xs:List Int}(hu:AI xs)(hN:xs.length<=1048576):H I 98 [.bool neg,sL lm xs] (C8 (rv neg xs)):=P8 hu hN
theorem Ge{neg:Bool}{xs:List Int}(hu:AI xs)(hN:xs.length<=1048576):H I 79 [.agg [.bool neg,sL lm xs]] (.int .i64 (B8 (rv neg xs))):=by
 have hm:=DI (Bq hN (by decide));have hz:(Y xs).length=0↔Aa xs=0:=by
  have:=AK hu;rw[Ip hu,DO];omega
 have hv:=AK hu;by_cases h0:Aa xs=0
 ·have h:=jE neg xs (by rw[beq_iff_eq];omega) hm;have e:B8 (rv neg xs)=0:=by unfold rv;rw[h0];cases neg <;> rfl
  rw[e];exact h
 ·cases neg with
  | true =>
   have h:=jF true xs (by rw[beq_eq_false_iff_ne];omega) rfl hm;have e:B8 (rv true xs) = -1:=by simp only[rv,if_true,B8]; (repeat' split) <;> omega
   rw[e];exact h
  | false =>
   have h:=jG false xs (by rw[beq_eq_false_iff_ne];omega) rfl hm;have e:B8 (rv false xs)=1:=by simp only[rv,BX,if_false,B8]; (repeat' split) <;> omega
   rw[e];exact h
theorem Amz(neg:Bool)(xs:List Int):rv (!neg) xs = -(rv neg xs):=by unfold rv;cases neg <;> simp
theorem RT{neg:Bool}{xs:List Int}(hu:AI xs)(hN:xs.length<=1048576):H I 161 [.agg [.bool neg,sL lm xs]] (Ab (-(rv neg xs))):=by
 have h:=FO (neg := !neg) hu hN;rw[Amz] at h;exact Amp neg xs _ h
theorem jH{neg:Bool}{xs:List Int}(hu:AI xs)(hN:xs.length<=1048576):H I 97 [.agg [.bool neg,sL lm xs]] (Ab (rv neg xs)):=Axx neg xs _ (FO hu hN)
theorem Ana(na nb:Bool)(xs ys zs:List Int)(v:Int)(n1:H I 99 [sL lm xs] (.fresh 1 ((Y xs).length) (lm (Y xs))))(n2:H I 99 [sL lm ys] (.fresh 1 ((Y ys).length) (lm (Y ys))))(n3:H I 146 [.sl ((Y xs).length) (lm (Y xs)),.sl ((Y ys).length) (lm (Y ys))] (.fresh 1 zs.length (lm zs)))(n4:H I 98 [.bool (!(na==nb)),sL lm zs] (C8 v)):H I 96 [.agg [.bool na,sL lm xs],.agg [.bool nb,sL lm ys]] (Ab v):=i (fn:=bF) Ct rfl 400 rfl [.r (.fresh 1 ((Y xs).length) (lm (Y xs))),.r (.fresh 1 ((Y ys).length) (lm (Y ys))),.r (.fresh 1 zs.length (lm zs)),.r (C8 v)] (L n1 (L n2 (L n3 (L n4 a0))))
theorem vR(na nb:Bool)(xs ys zs:List Int)(v:Int)(c1:(na==nb)=true)(n1:H I 99 [sL lm xs] (.fresh 1 ((Y xs).length) (lm (Y xs))))(n2:H I 99 [sL lm ys] (.fresh 1 ((Y ys).length) (lm (Y ys))))(n3:H I 144 [.sl ((Y xs).length) (lm (Y xs)),.sl ((Y ys).length) (lm (Y ys))] (.fresh 1 zs.length (lm zs)))(n4:H I 98 [.bool na,sL lm zs] (C8 v)):H I 95 [.agg [.bool na,sL lm xs],.agg [.bool nb,sL lm ys]] (Ab v):=i (fn:=Ur) Ct rfl 400 rfl [.r (.fresh 1 ((Y xs).length) (lm (Y xs))),.r (.fresh 1 ((Y ys).length) (lm (Y ys))),.b true,.r (.fresh 1 zs.length (lm zs)),.r (C8 v)] (L n1 (L n2 (L c1 (L n3 (L n4 a0)))))
theorem vS(na nb:Bool)(xs ys zs:List Int)(v c:Int)(c1:(na==nb)=false)(c2:B (c>=0)=true)(n1:H I 99 [sL lm xs] (.fresh 1 ((Y xs).length) (lm (Y xs))))(n2:H I 99 [sL lm ys] (.fresh 1 ((Y ys).length) (lm (Y ys))))(n3:H I 134 [.sl ((Y xs).length) (lm (Y xs)),.sl ((Y ys).length) (lm (Y ys))] (.int .i64 c))(n4:H I 145 [.sl ((Y xs).length) (lm (Y xs)),.sl ((Y ys).length) (lm (Y ys))] (.fresh 1 zs.length (lm zs)))(n5:H I 98 [.bool na,sL lm zs] (C8 v)):H I 95 [.agg [.bool na,sL lm xs],.agg [.bool nb,sL lm ys]] (Ab v):=i (fn:=Ur) Ct rfl 400 rfl [.r (.fresh 1 ((Y xs).length) (lm (Y xs))),.r (.fresh 1 ((Y ys).length) (lm (Y ys))),.b false,.r (.int .i64 c),.b true,.r (.fresh 1 zs.length (lm zs)),.r (C8 v)] (L n1 (L n2 (L c1 (L n3 (L c2 (L n4 (L n5 a0)))))))
theorem vT(na nb:Bool)(xs ys zs:List Int)(v c:Int)(c1:(na==nb)=false)(c2:B (c>=0)=false)(n1:H I 99 [sL lm xs] (.fresh 1 ((Y xs).length) (lm (Y xs))))(n2:H I 99 [sL lm ys] (.fresh 1 ((Y ys).length) (lm (Y ys))))(n3:H I 134 [.sl ((Y xs).length) (lm (Y xs)),.sl ((Y ys).length) (lm (Y ys))] (.int .i64 c))(n4:H I 145 [.sl ((Y ys).length) (lm (Y ys)),.sl ((Y xs).length) (lm (Y xs))] (.fresh 1 zs.length (lm zs)))(n5:H I 98 [.bool nb,sL lm zs] (C8 v)):H I 95 [.agg [.bool na,sL lm xs],.agg [.bool nb,sL lm ys]] (Ab v):=i (fn:=Ur) Ct rfl 400 rfl [.r (.fresh 1 ((Y xs).length) (lm (Y xs))),.r (.fresh 1 ((Y ys).length) (lm (Y ys))),.b false,.r (.int .i64 c),.b false,.r (.fresh 1 zs.length (lm zs)),.r (C8 v)] (L n1 (L n2 (L c1 (L n3 (L c2 (L n4 (L n5 a0)))))))
theorem Anb(na nb:Bool)(xs ys:List Int)(v w:Int)(n1:H I 161 [.agg [.bool nb,sL lm ys]] (Ab w))(n2:H I 95 [.agg [.bool na,sL lm xs],Ab w] (Ab v)):H I 129 [.agg [.bool na,sL lm xs],.agg [.bool nb,sL lm ys]] (Ab v):=i (fn:=UA) Ct rfl 400 rfl [.r (Ab w),.r (Ab v)] (L n1 (L n2 a0))
theorem Anc(neg:Bool)(xs:List Int)(n1:H I 99 [sL lm xs] (.fresh 1 ((Y xs).length) (lm (Y xs)))):H I 107 [.agg [.bool neg,sL lm xs]] (.bool (B ((((Y xs).length:Nat):Int)>256))):=i (fn:=Uu) Ct rfl 400 rfl [.r (.fresh 1 ((Y xs).length) (lm (Y xs)))] (L n1 a0)
theorem Vt(neg:Bool)(xs:List Int):rv neg (Y xs)=rv neg xs:=by unfold rv;rw [DS]
theorem Oz{xs:List Int}(h:AI xs):AI (Y xs):=(Fp h).1
theorem Axy(na nb:Bool)(xs ys zs:List Int)(h:Aa zs=Aa xs*Aa ys):rv (!(na==nb)) zs=rv na xs*rv nb ys:=by
 unfold rv;rw[h];generalize Aa xs=X;generalize Aa ys=Y;cases na <;> cases nb <;> simp <;> grind
theorem NA{na nb:Bool}{xs ys:List Int}(hx:AI xs)(hy:AI ys)(hN:xs.length+ys.length<=1048576):H I 96 [.agg [.bool na,sL lm xs],.agg [.bool nb,sL lm ys]] (Ab (rv na xs*rv nb ys)):=by
 have t1:=Bn xs;have t2:=Bn ys;obtain⟨zs,z1,z2,z3,z4⟩:=bZ (Oz hx) (Oz hy) (by omega);have hk:=FO (neg := !(na==nb)) z2 (by omega);rw[Axy na nb (Y xs) (Y ys) zs z3,Vt,Vt] at hk;exact Ana na nb xs ys zs _ (DI (by omega)) (DI (by omega)) z4 hk
theorem Mt{na nb:Bool}{xs ys:List Int}(hx:AI xs)(hy:AI ys)(h1:xs.length<1048576)(h2:ys.length<1048576):H I 95 [.agg [.bool na,sL lm xs],.agg [.bool nb,sL lm ys]] (Ab (rv na xs+rv nb ys)):=by
 have t1:=Bn xs;have t2:=Bn ys;have c1:=Fp hx;have c2:=Fp hy;have m1:=DI (xs:=xs) (by omega);have m2:=DI (xs:=ys) (by omega);have hcmp:=N5 c1 c2 (by omega);by_cases hn:na=nb
 ·subst hn;obtain⟨zs,z1,z2,z3,z4⟩:=cD c1.1 c2.1 (by omega) (by omega);have hk:=FO (neg:=na) z1 (by omega);have e:rv na zs=rv na xs+rv na ys:=by
   unfold rv;rw[z2,DS,DS];cases na <;> simp;omega
  rw[e] at hk;exact vR na na xs ys zs _ (by simp) m1 m2 z4 hk
 ·have hb:nb = !na:=by cases na <;> cases nb <;> simp at hn |-
  by_cases hc:Cw (Aa (Y xs)) (Aa (Y ys))>=0
  ·have hle:Aa (Y ys)<=Aa (Y xs):=by unfold Cw at hc;split at hc <;> (try split at hc) <;> omega
   have hlen:(Y ys).length<=(Y xs).length:=JW c2 (vU hle (D4 c1.1));obtain⟨zs,z1,z2,z3,z4⟩:=SQ c1.1 c2.1 hlen hle (by omega);have hk:=FO (neg:=na) z1 (by omega);have e:rv na zs=rv na xs+rv nb ys:=by
    unfold rv;rw[z2,DS,DS,hb];cases na <;> simp <;> omega
   rw[e] at hk;exact vS na nb xs ys zs _ _ (by rw[hb];cases na <;> rfl) (by simpa using hc) m1 m2 hcmp z4 hk
  ·have hle:Aa (Y xs)<=Aa (Y ys):=by unfold Cw at hc;split at hc <;> (try split at hc) <;> omega
   have hlen:(Y xs).length<=(Y ys).length:=JW c1 (vU hle (D4 c2.1));obtain⟨zs,z1,z2,z3,z4⟩:=SQ c2.1 c1.1 hlen hle (by omega);have hk:=FO (neg:=nb) z1 (by omega);have e:rv nb zs=rv na xs+rv nb ys:=by
    unfold rv;rw[z2,DS,DS,hb];cases na <;> simp <;> omega
   rw[e] at hk;exact vT na nb xs ys zs _ _ (by rw[hb];cases na <;> rfl) (by simpa using hc) m1 m2 hcmp z4 hk
theorem NB{na nb:Bool}{xs ys:List Int}(hx:AI xs)(hy:AI ys)(h1:xs.length<1048576)(h2:ys.length<1048576):H I 129 [.agg [.bool na,sL lm xs],.agg [.bool nb,sL lm ys]] (Ab (rv na xs-rv nb ys)):=by
 have hn:=RT (neg:=nb) hy (by omega);have hl:(G (-(rv nb ys)).natAbs).length<1048576:=by rw[Aue];exact Dh (Es hy) h2
 have h:=Mt (na:=na) (nb:=decide (-(rv nb ys)<0)) hx (BC (-(rv nb ys)).natAbs) h1 hl;rw[Fr] at h;exact Anb na nb xs ys _ _ hn h
theorem cE{neg:Bool}{xs:List Int}(hN:xs.length<=1048576):H I 107 [.agg [.bool neg,sL lm xs]] (.bool (B (256<(Y xs).length))):=by
 have h:=Anc neg xs (DI (Bq hN (by decide)));have e:decide ((((Y xs).length:Nat):Int)>256)=decide (256<(Y xs).length):=by rw[decide_eq_decide];omega
 rw[e] at h;exact h
def TBD:Cp:=TBC
theorem J':B_ I TBD:=Ct
theorem Ane{q c:Int}{s:Nat}(hq:0<=q)(hs:q*2^s<18446744073709551616)(hs':s<=64)(hc:0<=c/\c<2^s) :
  D U ((T (Aj .u64) (q*2^s) ||| T (Aj .u64) c).toNat)=q*2^s+c:=by
 obtain⟨a,rfl⟩:∃ a:Nat,q=a:=⟨q.toNat,by omega⟩;obtain⟨b,rfl⟩:∃ b:Nat,c=b:=⟨c.toNat,by omega⟩;have e1:(a:Int)*2^s=((a*2^s:Nat):Int):=by rw[Dj,Cr];rfl
 have hb:b<2^s:=by
  have:(b:Int)<((2^s:Nat):Int):=by rw[Cr];exact hc.2
  omega
 have h64:2^s<=2^64:=Bm (by decide) hs';have e64:2^64=18446744073709551616:=by decide
 rw[e1] at hs |-;show D U ((T 64 ((a*2^s:Nat):Int) ||| T 64 (b:Int)).toNat:Int)=_;rw[gN,JA,JA,I3,I3,Fj (by omega),Fj (by omega),CP a,<- Aum hb,CP (2^s) a,B1];have hsum:a*2^s+b<18446744073709551616:=by
  have hd:a*2^s+2^s<=2^64:=by
   have hk:2^64=2^(64-s)*2^s:=by rw[<- C_];congr 1;omega
   have h1:a<2^(64-s):=by
    rcases Ck a (2^(64-s)) with g | g
    ·exact g
    ·have:=A8 (2^s) g;omega
   have h2:=A8 (2^s) (show a+1<=2^(64-s) by omega);rw[DK,ES] at h2;omega
  omega
 omega
theorem B7(n:Nat):(0:Int)<2^n:=EX (by decide)
theorem FP{a b:Nat}(h:a<=b):(2:Int)^a<=2^b:=by
 have h1:2^a<=2^b:=Bm (by decide) h;have e:∀ n:Nat,(2:Int)^n=((2^n:Nat):Int):=fun n=>by rw[Cr];rfl
 rw[e,e];omega
theorem Mu(n:Nat):(4294967296:Int)^n=2^(32*n):=by
 rw[gP];rfl
theorem G9(n:Nat):(2:Int)^n=4294967296^(n / 32)*2^(n % 32):=by
 rw[Mu,<- B4,gM]
def SR(neg:Bool)(xs:List Int)(n:Nat)(cs:List AV)(c:Int)(s:Int)(ms:List Int)(i:Int):Ak:=(Q 2 (.box [.bool neg,sL lm xs]::(Q 1 (.box [.bool false,.sl 0 []]::(.own 1 n cs::(.val (.int .u32 c)::(.val (.int .u64 s)::(.val (sL lm ms)::(.val (.int .i64 i)::(Q 41 []))))))))))
theorem Axz(neg:Bool)(xs:List Int)(n:Nat)(cs:List AV)(c:Int)(s:Int)(ms:List Int)(i:Int)(c1:B (i<(ms.length:Int))=true)(n1:0<=i/\i<(ms.length:Int))(n2:¬ s<0)(n3:n+1<=35184372088832):W I bC (SR neg xs n cs c s ms i) .norm (SR neg xs (n+1) (cs++([.int .u32 (D A4 (D U ((T (Aj .u64) (D U ((D U (ms.getD (A i) 0))*2^(min (A s) (Aj .u64)))) ||| T (Aj .u64) (D U c)).toNat)))]:List AV)) (D A4 (d (D U ((T (Aj .u64) (D U ((D U (ms.getD (A i) 0))*2^(min (A s) (Aj .u64)))) ||| T (Aj .u64) (D U c)).toNat)) (2^(min (A 32) (Aj .u64))))) s ms (D R (i+1))):=(C J' 400 [.b true,.v (.int .u32 (ms.getD (A i) 0))] [2,4,5,6,7,8,9] (L c1 (L n1 (L (y n1) (L n2 (L (show Bj ([.int .u32 (D A4 (D U ((T (Aj .u64) (D U ((D U (ms.getD (A i) 0))*2^(min (A s) (Aj .u64)))) ||| T (Aj .u64) (D U c)).toNat)))]:List AV)=1*1 from rfl) (L n3 (L HE a0))))))))
theorem Aya(neg:Bool)(xs:List Int)(n:Nat)(cs:List AV)(c:Int)(s:Int)(ms:List Int)(i:Int)(c1:B (i<(ms.length:Int))=false):W I bC (SR neg xs n cs c s ms i) (.exit 0) (SR neg xs n cs c s ms i):=(C J' 400 [.b false] [2,4,5,6,7,8,9] (L c1 a0))
theorem Ayb(neg:Bool)(xs:List Int)(sh:Int)(n:Nat)(cs:List AV)(c i v:Int)(n1:0<=(D R (o sh 32))/\(D R (o sh 32))<=1048576)(n2:H I 99 [sL lm xs] (.fresh 1 ((Y xs).length) (lm (Y xs))))(hl3:W I (.loop bC) (SR neg xs (A (D R (o sh 32))) (Co [.int .u32 0] (A (D R (o sh 32)))) 0 (D U (f sh 32)) (Y xs) 0) (.exit 0) (SR neg xs n cs c (D U (f sh 32)) (Y xs) i))(n4:n+1<=35184372088832)(n5:H I 98 [.bool neg,.sl (n+1) (cs++([.int .u32 c]:List AV))] (C8 v)):H I 84 [.agg [.bool neg,sL lm xs],.int .i64 sh] (C8 v):=p (fn:=bD) (s:=(Q 4 (.bxl 50::(Q 45 (.agn (.st (B (v<0))) 1 ((G (E v)).length) (lm (G (E v)))::[]))))) (ex := .ret) rfl rfl (P (P (P (P (Ar (W.seq (C J' 400 [.r (.fresh 1 ((Y xs).length) (lm (Y xs)))] [2,4,5,6,7,8,9] (L E3 (L n1 (L E3 (L n2 a0))))) (W.seq (W.block hl3) (C J' 400 [.r (C8 v)] [4,50] (L (show Bj ([.int .u32 c]:List AV)=1*1 from rfl) (L n4 (L n5 a0))))))))))) (by nofun) rfl
theorem cF{x c:Int}{s:Nat}(hx:0<=x/\x<4294967296)(hs:s<32)(hc:0<=c/\c<2^s) :
  D U ((T (Aj .u64) (D U ((D U x)*2^(min (A (s:Int)) (Aj .u64)))) ||| T (Aj .u64) (D U c)).toNat)=x*2^s+c
  /\ 0<=(x*2^s+c) / 4294967296/\(x*2^s+c) / 4294967296<2^s/\(2:Int)^s<=2147483648:=by
 have hp:=B7 s;have hp2:(2:Int)^s<=2147483648:=FP (show s<=31 by omega);have hm:x*2^s<=4294967295*2^s:=Ad (by omega) (by omega);have hm0:0<=x*2^s:=A1 hx.1 (by omega);have hmin:min (A (s:Int)) (Aj .u64)=s:=by
  rw[F];show min s 64=s;omega
 have w1:D U x=x:=by rw[B1];omega
 have w2:D U (x*2^s)=x*2^s:=by rw[B1];omega
 have w3:D U c=c:=by rw[B1];omega
 refine⟨?_,by omega,by omega,hp2⟩;rw[hmin,w1,w2,w3];exact Ane hx.1 (by omega) (by omega) hc
theorem Anf{neg:Bool}{xs ms pre:List Int}(hu:AI ms){s:Nat}(hs:s<32)(hN:pre.length+ms.length<=1048576):∀ (r i:Nat) (acc:List Int) (c:Int),i+r=ms.length->acc.length=i->AI acc->0<=c/\c<2^s ->
  ∃ (zs:List Int) (c':Int),AI zs/\zs.length=ms.length/\(0<=c'/\c'<2^s)/\Aa zs+4294967296^ms.length*c'=Aa acc+4294967296^i*(c+2^s*Aa (ms.drop i)) /\
   W I (.loop bC) (SR neg xs (pre.length+i) (lm (pre++acc)) c (s:Nat) ms (i:Nat)) (.exit 0) (SR neg xs (pre.length+ms.length) (lm (pre++zs)) c' (s:Nat) ms (ms.length:Nat)):=by
 intro r;induction r with
 | zero =>
  intro i acc c hi hl hacc hc;have e1:Aa (ms.drop i)=0:=DB (by omega);have hi':i=ms.length:=by omega
  refine⟨acc,c,hacc,by omega,hc,by rw[e1,hi'];simp,?_⟩;rw[hi'];exact Al (Aya neg xs _ _ c (s:Nat) ms (ms.length:Nat) (by simp)) (by nofun)
 | succ r ih =>
  intro i acc c hi hl hacc hc;have bm:=AA hu i;obtain⟨w1,w2,w3,w4⟩:=cF bm hs hc;have ei:D R ((i:Int)+1)=((i+1:Nat):Int):=by rw[AW (by omega) (by omega)];omega
  have k:=Axz neg xs (pre.length+i) (lm (pre++acc)) c (s:Nat) ms (i:Nat) (by simp;omega) (by omega) (by omega) (by omega);have wd:D A4 ((ms.getD i 0*2^s+c) / 4294967296)=(ms.getD i 0*2^s+c) / 4294967296:=by rw[Ds];omega
  simp only[F i,w1,cC,wd,Ds (ms.getD i 0*2^s+c),ei,G8,MF] at k;obtain⟨zs,c',q1,q2,q3,q4,q5⟩:=ih (i+1) (acc++[(ms.getD i 0*2^s+c) % 4294967296]) ((ms.getD i 0*2^s+c) / 4294967296) (by omega) (by simp[hl]) (LA hacc (by omega)) ⟨w2,w3⟩;refine⟨zs,c',q1,q2,q3,?_,W.loop k q5⟩;rw[q4,JZ,hl,C2 ms i,Ay];have hd:=Sy (ms.getD i 0*2^s+c) 4294967296;generalize (ms.getD i 0*2^s+c) % 4294967296=m at *
  generalize (ms.getD i 0*2^s+c) / 4294967296=d at *
  generalize (4294967296:Int)^i=p at *
  generalize Aa (ms.drop (i+1))=X at *
  generalize (2:Int)^s=T at *
  generalize ms.getD i 0=y at *
  have:c+T*(y+4294967296*X)=m+4294967296*(d+T*X):=by
   have:c+T*(y+4294967296*X)=(y*T+c)+4294967296*(T*X):=by grind
   omega
  rw[this];grind
theorem XA{neg:Bool}{xs ys:List Int}{t:Int}(h:Aa ys=t*Aa xs):rv neg ys=rv neg xs*t:=by
 unfold rv;rw[h];generalize Aa xs=X;cases neg <;> simp <;> grind
theorem LB{neg:Bool}{xs:List Int}(hu:AI xs)(n:Nat)(hN:n / 32+xs.length+1<=1048576):H I 84 [.agg [.bool neg,sL lm xs],.int .i64 (n:Nat)] (C8 (rv neg xs*2^n)):=by
 have t1:=Bn xs;have e1:D R (o (n:Int) 32)=((n / 32:Nat):Int):=by
  rw[B0 (by omega),AW (by omega) (by omega)];omega
 have e2:D U (f (n:Int) 32)=((n % 32:Nat):Int):=by
  rw[Bc (by omega),B1];omega
 obtain⟨zs,c',q1,q2,q3,q4,q5⟩:=Anf (neg:=neg) (xs:=xs) (pre:=Aq (n / 32) 0) (Oz hu) (s:=n % 32) (by omega) (by simp;omega) (Y xs).length 0 [] 0 (by omega) rfl (fun x hx=>by cases hx) ⟨by omega,B7 _⟩;have w4:(2:Int)^(n % 32)<=2147483648:=FP (show n % 32<=31 by omega);simp only[EW,OJ,FB,Aa,Da,EP,CR,Db] at q4 q5;have huz:AI (Aq (n / 32) 0++zs++[c']):=by
  refine LA ?_ (by omega);intro x hx;rcases BJ.1 hx with g | g
  ·exact EC _ x g
  ·exact q1 x g
 have hlen:(Aq (n / 32) 0++zs++[c']).length=n / 32+(Y xs).length+1:=by simp[q2];omega
 have hk:=FO (neg:=neg) huz (by omega);have hval:Aa (Aq (n / 32) 0++zs++[c'])=2^n*Aa xs:=by
  rw[JZ,Gc,Ez,G9 n,AU,EW,B4,q2];rw[DS] at q4;generalize (4294967296:Int)^(n / 32)=p at *
  generalize (4294967296:Int)^(Y xs).length=q at *
  generalize (2:Int)^(n % 32)=T at *
  generalize Aa xs=X at *
  generalize Aa zs=Z at *
  grind
 rw[XA hval] at hk;unfold sL at hk;rw[hlen] at hk;refine Ayb neg xs (n:Nat) (n / 32+(Y xs).length) (lm (Aq (n / 32) 0++zs)) c' ((Y xs).length:Nat) _ (by rw[e1];omega) (DI (by omega)) (by rw[e1,e2,F,EO];exact q5) (by omega) (by rw[G8];exact hk)
def TBE:Cp:=TBD
theorem h:B_ I TBE:=J'
def TQ0:Cp:=[]
theorem Cd:B_ I TQ0:=B_.nil _
def Jf(neg:Bool)(N:Nat)(cs:List AV)(n:Int):Ak:=(Q 1 (.box [.bool neg,.sl N cs]::(.val (.bool false)::(.own 1 0 []::(.val (.int .i64 n)::(Q 26 []))))))
theorem Ang(neg:Bool)(N:Nat)(cs:List AV)(n:Int)(x:Int)(c1:B (n>0)=true)(c2:(x==0)=true)(n1:0<=(D R (n-1))/\(D R (n-1))<(N:Int))(n2:Bl (g (A (D R (n-1))*1) cs) 0 1 true=some (.int .u32 x)):W I Pz (Jf neg N cs n) .norm (Jf neg N cs (D R (n-1))):=C Cd 300 [.b true,.v (.int .u32 x),.b true] [1,2,3,4] (L c1 (L n1 (L n2 (L c2 a0)))) (by kernel_rfl)
theorem Anh(neg:Bool)(N:Nat)(cs:List AV)(n:Int)(x:Int)(c1:B (n>0)=true)(c2:(x==0)=false)(n1:0<=(D R (n-1))/\(D R (n-1))<(N:Int))(n2:Bl (g (A (D R (n-1))*1) cs) 0 1 true=some (.int .u32 x)):W I Pz (Jf neg N cs n) (.exit 0) (Jf neg N cs n):=C Cd 300 [.b true,.v (.int .u32 x),.b false] [1,2,3,4] (L c1 (L n1 (L n2 (L c2 a0)))) (by kernel_rfl)
theorem Ani(neg:Bool)(N:Nat)(cs:List AV)(n:Int)(c1:B (n>0)=false):W I Pz (Jf neg N cs n) (.exit 0) (Jf neg N cs n):=C Cd 300 [.b false,.b false] [1,2,3,4] (L c1 (L Ff a0)) (by kernel_rfl)
theorem XB(neg:Bool)(xs:List Int)(hN:xs.length<=1048576):∀ m,m<=xs.length->W I (.loop Pz) (Jf neg xs.length (lm xs) (m:Int)) (.exit 0) (Jf neg xs.length (lm xs) ((l xs m:Nat):Int)):=by
 intro m;induction m with
 | zero =>
  intro _;exact Al (Ani neg xs.length (lm xs) ((0:Nat):Int) (by simp)) (by nofun)
 | succ m ih =>
  intro hm;have e1:D R (((m+1:Nat):Int)-1)=(m:Int):=by rw[AW (by omega) (by omega)];omega
  have hx:=DW (xs:=xs) (i:=m) (by omega);simp only[l];by_cases h0:xs.getD m 0=0
  ·rw[if_pos h0];have h1:=Ang neg xs.length (lm xs) ((m+1:Nat):Int) (xs.getD m 0) (by simp) (by rw[h0];rfl) (by rw[e1];omega) (by rw[e1,F];exact hx);rw[e1] at h1;exact W.loop h1 (ih (by omega))
  ·rw[if_neg h0];exact Al (Anh neg xs.length (lm xs) ((m+1:Nat):Int) (xs.getD m 0) (by simp) (by simpa using h0) (by rw[e1];omega) (by rw[e1,F];exact hx)) (by nofun)
theorem WC(xs:List Int)(hl:W I (.loop Pz) (Jf true xs.length (lm xs) (xs.length:Int)) (.exit 0) (Jf true xs.length (lm xs) ((l xs xs.length:Nat):Int)))(hsc:0<=(A ((l xs xs.length:Nat):Int))/\(A ((l xs xs.length:Nat):Int))<=xs.length/\xs.length<=xs.length/\(false=true->true=true)):H I 143 [.agg [.bool true,sL lm xs]] (.tup [.bool (B (((l xs xs.length:Nat):Int)>0)),.sl ((A ((l xs xs.length:Nat):Int))-0) (Br (((A ((l xs xs.length:Nat):Int))-0)*1) (g (0*1) (lm xs)))]):=p (fn:=R9) (s:=(Q 1 (.box [.bool true,sL lm xs]::(.val (.bool (B (((l xs xs.length:Nat):Int)>0)))::(.val (.sl ((A ((l xs xs.length:Nat):Int))-0) (Br (((A ((l xs xs.length:Nat):Int))-0)*1) (g (0*1) (lm xs))))::(.val (.int .i64 ((l xs xs.length:Nat):Int))::(Q 16 (.ptr 1 0::(.val (.bool true)::(.val (.bool true)::(.val (.int .i64 ((l xs xs.length:Nat):Int))::(.val (.bool (B (((l xs xs.length:Nat):Int)>0)))::(.val (.bool (B (((l xs xs.length:Nat):Int)>0)))::(.ptr 1 1::(.val (sL lm xs)::(.val (.int .i64 ((l xs xs.length:Nat):Int))::(.val (.sl ((A ((l xs xs.length:Nat):Int))-0) (Br (((A ((l xs xs.length:Nat):Int))-0)*1) (g (0*1) (lm xs))))::[]))))))))))))))))) (ex := .ret) rfl rfl (W.seq (C (t:=(.val (.agg [.bool true,sL lm xs])::(.box [.bool true,sL lm xs]::(.val (.bool false)::(.own 1 0 []::(Q 27 [])))))) Cd 300 [] [0,1,2,3] a0) (W.seq (C (t:=(Q 1 (.box [.bool true,sL lm xs]::(.val (.bool false)::(.own 1 0 []::(vi (xs.length:Int)::(Q 26 []))))))) Cd 300 [] [1,2,3,4] a0) (W.seq (W.block hl) (C (t:=(Q 1 (.box [.bool true,sL lm xs]::(.val (.bool (B (((l xs xs.length:Nat):Int)>0)))::(.val (.sl ((A ((l xs xs.length:Nat):Int))-0) (Br (((A ((l xs xs.length:Nat):Int))-0)*1) (g (0*1) (lm xs))))::(vi ((l xs xs.length:Nat):Int)::(Q 16 (.ptr 1 0::(.val (.bool true)::(.val (.bool true)::(vi ((l xs xs.length:Nat):Int)::(.val (.bool (B (((l xs xs.length:Nat):Int)>0)))::(.val (.bool (B (((l xs xs.length:Nat):Int)>0)))::(.ptr 1 1::(vl xs::(vi ((l xs xs.length:Nat):Int)::(.val (.sl ((A ((l xs xs.length:Nat):Int))-0) (Br (((A ((l xs xs.length:Nat):Int))-0)*1) (g (0*1) (lm xs))))::[]))))))))))))))))) (ex := .ret) Cd 300 [.b true] [1,2,3,4,21,22,23,24,25,26,27,28,29,30] (L G0 (L (show 0<=((l xs xs.length:Nat):Int) from (Hd _)) (L (show 0<=(A ((l xs xs.length:Nat):Int))/\(A ((l xs xs.length:Nat):Int))<=xs.length/\xs.length<=xs.length/\(false=true->true=true) from hsc) a0))))))) (by nofun) rfl
theorem Vu(xs:List Int)(hl:W I (.loop Pz) (Jf false xs.length (lm xs) (xs.length:Int)) (.exit 0) (Jf false xs.length (lm xs) ((l xs xs.length:Nat):Int)))(hsc:0<=(A ((l xs xs.length:Nat):Int))/\(A ((l xs xs.length:Nat):Int))<=xs.length/\xs.length<=xs.length/\(false=true->true=true)):H I 143 [.agg [.bool false,sL lm xs]] (.tup [.bool false,.sl ((A ((l xs xs.length:Nat):Int))-0) (Br (((A ((l xs xs.length:Nat):Int))-0)*1) (g (0*1) (lm xs)))]):=p (fn:=R9) (s:=(Q 1 (.box [.bool false,sL lm xs]::(.val (.bool false)::(.val (.sl ((A ((l xs xs.length:Nat):Int))-0) (Br (((A ((l xs xs.length:Nat):Int))-0)*1) (g (0*1) (lm xs))))::(.val (.int .i64 ((l xs xs.length:Nat):Int))::(Q 16 (.ptr 1 0::(.val (.bool false)::(.val (.bool false)::(.val (.undef)::(.val (.undef)::(.val (.bool false)::(.ptr 1 1::(.val (sL lm xs)::(.val (.int .i64 ((l xs xs.length:Nat):Int))::(.val (.sl ((A ((l xs xs.length:Nat):Int))-0) (Br (((A ((l xs xs.length:Nat):Int))-0)*1) (g (0*1) (lm xs))))::[]))))))))))))))))) (ex := .ret) rfl rfl (W.seq (C (t:=(.val (.agg [.bool false,sL lm xs])::(.box [.bool false,sL lm xs]::(.val (.bool false)::(.own 1 0 []::(Q 27 [])))))) Cd 300 [] [0,1,2,3] a0) (W.seq (C (t:=(Q 1 (.box [.bool false,sL lm xs]::(.val (.bool false)::(.own 1 0 []::(vi (xs.length:Int)::(Q 26 []))))))) Cd 300 [] [1,2,3,4] a0) (W.seq (W.block hl) (C (t:=(Q 1 (.box [.bool false,sL lm xs]::(.val (.bool false)::(.val (.sl ((A ((l xs xs.length:Nat):Int))-0) (Br (((A ((l xs xs.length:Nat):Int))-0)*1) (g (0*1) (lm xs))))::(vi ((l xs xs.length:Nat):Int)::(Q 16 (.ptr 1 0::(.val (.bool false)::(.val (.bool false)::(.val (.undef)::(.val (.undef)::(.val (.bool false)::(.ptr 1 1::(vl xs::(vi ((l xs xs.length:Nat):Int)::(.val (.sl ((A ((l xs xs.length:Nat):Int))-0) (Br (((A ((l xs xs.length:Nat):Int))-0)*1) (g (0*1) (lm xs))))::[]))))))))))))))))) (ex := .ret) Cd 300 [.b false] [1,2,3,4,21,22,23,24,25,26,27,28,29,30] (L Ff (L (show 0<=((l xs xs.length:Nat):Int) from (Hd _)) (L (show 0<=(A ((l xs xs.length:Nat):Int))/\(A ((l xs xs.length:Nat):Int))<=xs.length/\xs.length<=xs.length/\(false=true->true=true) from hsc) a0))))))) (by nofun) rfl
theorem Vv(xs:List Int):(A ((l xs xs.length:Nat):Int)-0)=(Y xs).length/\(Br ((A ((l xs xs.length:Nat):Int)-0)*1) (g (0*1) (lm xs)))=lm (Y xs)/\(0<=(A ((l xs xs.length:Nat):Int))/\(A ((l xs xs.length:Nat):Int))<=xs.length/\xs.length<=xs.length/\(false=true->true=true)):=by
 have hle:=Gn xs xs.length;rw[F];refine⟨by simp[Y];omega,by simp[lm,Y,Rr],by omega,hle,Am _,fun h=>by cases h⟩
theorem CZ{neg:Bool}{xs:List Int}(hu:AI xs)(hN:xs.length<=1048576):H I 143 [.agg [.bool neg,sL lm xs]]
  (.tup [.bool (B (rv neg xs<0)),.sl (G (rv neg xs).natAbs).length (lm (G (rv neg xs).natAbs))]):=by
 obtain⟨e1,e2,e3⟩:=Vv xs;have ht:=L5 (neg:=neg) hu;have hn:=qM (neg:=neg) hu;have hlen:(Y xs).length=l xs xs.length:=by rw[<- e1,F];rfl
 cases neg with
 | true =>
  have h:=WC xs (XB true xs hN xs.length (Am _)) e3;rw[e2,e1,ht] at h;have e4:decide (((l xs xs.length:Nat):Int)>0)=decide (rv true xs<0):=by
   rw[<- hn,Og,<- ht,hlen,decide_eq_decide];omega
  rw[e4] at h;exact h
 | false =>
  have h:=Vu xs (XB false xs hN xs.length (Am _)) e3;rw[e2,e1,ht] at h;rw[JX] at hn;rw[<- hn];exact h
def Jg(neg:Bool)(N:Nat)(cs:List AV)(n:Int):Ak:=(.val (.bool neg)::(.val (.sl N cs)::(Q 2 (.box [.bool false,.sl 0 []]::(.val (.int .i64 n)::(Q 23 []))))))
theorem Anj(neg:Bool)(N:Nat)(cs:List AV)(n:Int)(x:Int)(c1:B (n>0)=true)(c2:(x==0)=true)(n1:0<=(D R (n-1))/\(D R (n-1))<(N:Int))(n2:Bl (g (A (D R (n-1))*1) cs) 0 1 true=some (.int .u32 x)):W I P1 (Jg neg N cs n) .norm (Jg neg N cs (D R (n-1))):=C Cd 300 [.b true,.v (.int .u32 x),.b true] [0,1,4,5] (L c1 (L n1 (L n2 (L c2 a0)))) (by kernel_rfl)
theorem Ank(neg:Bool)(N:Nat)(cs:List AV)(n:Int)(x:Int)(c1:B (n>0)=true)(c2:(x==0)=false)(n1:0<=(D R (n-1))/\(D R (n-1))<(N:Int))(n2:Bl (g (A (D R (n-1))*1) cs) 0 1 true=some (.int .u32 x)):W I P1 (Jg neg N cs n) (.exit 0) (Jg neg N cs n):=C Cd 300 [.b true,.v (.int .u32 x),.b false] [0,1,4,5] (L c1 (L n1 (L n2 (L c2 a0)))) (by kernel_rfl)
theorem Anl(neg:Bool)(N:Nat)(cs:List AV)(n:Int)(c1:B (n>0)=false):W I P1 (Jg neg N cs n) (.exit 0) (Jg neg N cs n):=C Cd 300 [.b false,.b false] [0,1,4,5] (L c1 (L Ff a0)) (by kernel_rfl)
theorem vV(neg:Bool)(xs:List Int)(hN:xs.length<=1048576):∀ m,m<=xs.length->W I (.loop P1) (Jg neg xs.length (lm xs) (m:Int)) (.exit 0) (Jg neg xs.length (lm xs) ((l xs m:Nat):Int)):=by
 intro m;induction m with
 | zero =>
  intro _;exact Al (Anl neg xs.length (lm xs) ((0:Nat):Int) (by simp)) (by nofun)
 | succ m ih =>
  intro hm;have e1:D R (((m+1:Nat):Int)-1)=(m:Int):=by rw[AW (by omega) (by omega)];omega
  have hx:=DW (xs:=xs) (i:=m) (by omega);simp only[l];by_cases h0:xs.getD m 0=0
  ·rw[if_pos h0];have h1:=Anj neg xs.length (lm xs) ((m+1:Nat):Int) (xs.getD m 0) (by simp) (by rw[h0];rfl) (by rw[e1];omega) (by rw[e1,F];exact hx);rw[e1] at h1;exact W.loop h1 (ih (by omega))
  ·rw[if_neg h0];exact Al (Ank neg xs.length (lm xs) ((m+1:Nat):Int) (xs.getD m 0) (by simp) (by simpa using h0) (by rw[e1];omega) (by rw[e1,F];exact hx)) (by nofun)
theorem jI(neg:Bool)(xs:List Int)(hz:(((l xs xs.length:Nat):Int)==0)=true)(hl:W I (.loop P1) (Jg neg xs.length (lm xs) (xs.length:Int)) (.exit 0) (Jg neg xs.length (lm xs) ((l xs xs.length:Nat):Int))):H I 152 [.bool neg,sL lm xs] (.agg [.bool false,.sl 0 []]):=p (fn:=RJ) (s:=(.val (.bool neg)::(.val (sL lm xs)::(Q 2 (.box [.bool false,.sl 0 []]::(.val (.int .i64 ((l xs xs.length:Nat):Int))::(Q 14 (.val (.int .i64 ((l xs xs.length:Nat):Int))::(.val (.bool (((l xs xs.length:Nat):Int)==0))::(.val (.agg [.bool false,.sl 0 []])::(Q 6 []))))))))))) (ex := .ret) rfl rfl (W.seq (C (t:=(.val (.bool neg)::(vl xs::(Q 2 (.box [.bool false,.sl 0 []]::(Q 24 [])))))) Cd 300 [] [0,1,4] a0) (W.seq (C (t:=(.val (.bool neg)::(vl xs::(Q 2 (.box [.bool false,.sl 0 []]::(vi (xs.length:Int)::(Q 23 []))))))) Cd 300 [] [0,1,4,5] a0) (W.seq (W.block hl) (C (t:=(.val (.bool neg)::(vl xs::(Q 2 (.box [.bool false,.sl 0 []]::(vi ((l xs xs.length:Nat):Int)::(Q 14 (vi ((l xs xs.length:Nat):Int)::(.val (.bool (((l xs xs.length:Nat):Int)==0))::(.val (.agg [.bool false,.sl 0 []])::(Q 6 []))))))))))) (ex := .ret) Cd 300 [.b true] [0,1,4,5,20,21,22] (L (show (((l xs xs.length:Nat):Int)==0)=true from hz) a0))))) (by nofun) rfl
theorem jJ(neg:Bool)(xs:List Int)(hz:(((l xs xs.length:Nat):Int)==0)=false)(hl:W I (.loop P1) (Jg neg xs.length (lm xs) (xs.length:Int)) (.exit 0) (Jg neg xs.length (lm xs) ((l xs xs.length:Nat):Int)))(hsc:0<=(A ((l xs xs.length:Nat):Int))/\(A ((l xs xs.length:Nat):Int))<=(A ((l xs xs.length:Nat):Int))/\(A ((l xs xs.length:Nat):Int))<=xs.length/\(true=true->true=true)):H I 152 [.bool neg,sL lm xs] (.agg [.bool neg,.sl ((A ((l xs xs.length:Nat):Int))-0) (Br (((A ((l xs xs.length:Nat):Int))-0)*1) (g (0*1) (lm xs)))]):=p (fn:=RJ) (s:=(.val (.bool neg)::(.val (sL lm xs)::(Q 2 (.box [.bool neg,.sl ((A ((l xs xs.length:Nat):Int))-0) (Br (((A ((l xs xs.length:Nat):Int))-0)*1) (g (0*1) (lm xs)))]::(.val (.int .i64 ((l xs xs.length:Nat):Int))::(Q 14 (.val (.int .i64 ((l xs xs.length:Nat):Int))::(.val (.bool (((l xs xs.length:Nat):Int)==0))::(Q 1 (.val (.bool neg)::(.val (sL lm xs)::(.val (.int .i64 ((l xs xs.length:Nat):Int))::(.val (.int .i64 ((l xs xs.length:Nat):Int))::(.val (.sl ((A ((l xs xs.length:Nat):Int))-0) (Br (((A ((l xs xs.length:Nat):Int))-0)*1) (g (0*1) (lm xs))))::(.val (.agg [.bool neg,.sl ((A ((l xs xs.length:Nat):Int))-0) (Br (((A ((l xs xs.length:Nat):Int))-0)*1) (g (0*1) (lm xs)))])::[])))))))))))))))) (ex := .ret) rfl rfl (W.seq (C (t:=(.val (.bool neg)::(vl xs::(Q 2 (.box [.bool false,.sl 0 []]::(Q 24 [])))))) Cd 300 [] [0,1,4] a0) (W.seq (C (t:=(.val (.bool neg)::(vl xs::(Q 2 (.box [.bool false,.sl 0 []]::(vi (xs.length:Int)::(Q 23 []))))))) Cd 300 [] [0,1,4,5] a0) (W.seq (W.block hl) (C (t:=(.val (.bool neg)::(vl xs::(Q 2 (.box [.bool neg,.sl ((A ((l xs xs.length:Nat):Int))-0) (Br (((A ((l xs xs.length:Nat):Int))-0)*1) (g (0*1) (lm xs)))]::(vi ((l xs xs.length:Nat):Int)::(Q 14 (vi ((l xs xs.length:Nat):Int)::(.val (.bool (((l xs xs.length:Nat):Int)==0))::(Q 1 (.val (.bool neg)::(vl xs::(vi ((l xs xs.length:Nat):Int)::(vi ((l xs xs.length:Nat):Int)::(.val (.sl ((A ((l xs xs.length:Nat):Int))-0) (Br (((A ((l xs xs.length:Nat):Int))-0)*1) (g (0*1) (lm xs))))::(.val (.agg [.bool neg,.sl ((A ((l xs xs.length:Nat):Int))-0) (Br (((A ((l xs xs.length:Nat):Int))-0)*1) (g (0*1) (lm xs)))])::[])))))))))))))))) (ex := .ret) Cd 300 [.b false] [0,1,4,5,20,21,23,24,25,26,27,28] (L (show (((l xs xs.length:Nat):Int)==0)=false from hz) (L (show 0<=((l xs xs.length:Nat):Int) from (Hd _)) (L (show 0<=((l xs xs.length:Nat):Int) from (Hd _)) (L (show 0<=(A ((l xs xs.length:Nat):Int))/\(A ((l xs xs.length:Nat):Int))<=(A ((l xs xs.length:Nat):Int))/\(A ((l xs xs.length:Nat):Int))<=xs.length/\(true=true->true=true) from hsc) a0)))))))) (by nofun) rfl
theorem DD{neg:Bool}{xs:List Int}(hu:AI xs)(hN:xs.length<=1048576):H I 152 [.bool neg,sL lm xs] (Ab (rv neg xs)):=by
 obtain⟨e1,e2,e3⟩:=Vv xs;have ht:=L5 (neg:=neg) hu;have hn:=qM (neg:=neg) hu;have hlen:(Y xs).length=l xs xs.length:=by rw[<- e1,F];rfl
 have hl:=vV neg xs hN xs.length (Am _);by_cases h0:l xs xs.length=0
 ·have h:=jI neg xs (by rw[h0];rfl) hl;have hz:(G (rv neg xs).natAbs).length=0:=by rw[<- ht,hlen,h0]
  have hv:rv neg xs=0:=by have:=(DO _).1 hz;omega
  rw[hv];exact h
 ·have h:=jJ neg xs (by rw[beq_eq_false_iff_ne];omega) hl ⟨e3.1,Am _,e3.2.1,fun _=>rfl⟩;rw[e2,e1,ht] at h;have hp:decide (0<(G (rv neg xs).natAbs).length)=true:=by rw[<- ht,hlen];simp;omega
  rw[hp,Ks] at hn;rw[Ab,<- hn];exact h
theorem jK(n:Int)(c1:decide (n<0)=true)(hcall:H I 152 [.bool (B (n<0)),.sl 2 [.int .u32 (D A4 (D U (0-(D U n)))),.int .u32 (D A4 (d (D U (0-(D U n))) (2^(min (A 32) (Aj .u64)))))]] (.agg [.bool (B (n<0)),.sl ((G (E n)).length) (lm (G (E n)))])):H I 132 [.int .i64 n] (.agg [.bool (B (n<0)),.sl ((G (E n)).length) (lm (G (E n)))]):=Bp (ps:=[(B (n<0))=true,¬ (32:Int)<0,H I 152 [.bool (B (n<0)),.sl 2 [.int .u32 (D A4 (D U (0-(D U n)))),.int .u32 (D A4 (d (D U (0-(D U n))) (2^(min (A 32) (Aj .u64)))))]] (.agg [.bool (B (n<0)),.sl ((G (E n)).length) (lm (G (E n)))])]) Cd rfl 300 rfl [.b true,.r (.agg [.bool (B (n<0)),.sl ((G (E n)).length) (lm (G (E n)))])] (by kernel_rfl) ⟨c1,(by decide),hcall,trivial⟩
theorem jL(n:Int)(c1:decide (n<0)=false)(hcall:H I 152 [.bool (B (n<0)),.sl 2 [.int .u32 (D A4 (D U n)),.int .u32 (D A4 (d (D U n) (2^(min (A 32) (Aj .u64)))))]] (.agg [.bool (B (n<0)),.sl ((G (E n)).length) (lm (G (E n)))])):H I 132 [.int .i64 n] (.agg [.bool (B (n<0)),.sl ((G (E n)).length) (lm (G (E n)))]):=Bp (ps:=[(B (n<0))=false,¬ (32:Int)<0,H I 152 [.bool (B (n<0)),.sl 2 [.int .u32 (D A4 (D U n)),.int .u32 (D A4 (d (D U n) (2^(min (A 32) (Aj .u64)))))]] (.agg [.bool (B (n<0)),.sl ((G (E n)).length) (lm (G (E n)))])]) Cd rfl 300 rfl [.b false,.r (.agg [.bool (B (n<0)),.sl ((G (E n)).length) (lm (G (E n)))])] (by kernel_rfl) ⟨c1,(by decide),hcall,trivial⟩
theorem cG{n:Int}(hn : -9223372036854775808<=n/\n<=9223372036854775807):H I 132 [.int .i64 n] (Ab n):=by
 cases c1:decide (n<0) with
 | true =>
  have h0:n<0:=by simpa using c1
  have eu:(D U (0-D U n)) = -n:=by rw[B1,B1];omega
  obtain⟨k1,k2⟩:=L6 (u:=(D U (0-D U n))) (by rw[eu];omega);refine jK n c1 ?_;have:=DD (neg:=true) k1 (by simp);have e:rv true [D A4 (D U (0-D U n)),D A4 (d (D U (0-D U n)) (2^(min (A 32) (Aj .u64))))]=n:=by
   unfold rv;rw[k2,if_pos rfl,eu];omega
  rw[e,Ab,c1] at this;rw[c1];exact this
 | false =>
  have h0:¬ n<0:=by simpa using c1
  have eu:D U n=n:=by rw[B1];omega
  obtain⟨k1,k2⟩:=L6 (u:=D U n) (by rw[eu];omega);refine jL n c1 ?_;have:=DD (neg:=false) k1 (by simp);have e:rv false [D A4 (D U n),D A4 (d (D U n) (2^(min (A 32) (Aj .u64))))]=n:=by
   unfold rv;rw[if_neg (by decide),k2,eu]
  rw[e,Ab,c1] at this;rw[c1];exact this
theorem Anm(neg:Bool)(xs:List Int)(a r:Int)(h1:H I 143 [.agg [.bool neg,sL lm xs]] (.tup [.bool (B (a<0)),.sl ((G (E a)).length) (lm (G (E a)))]))(h2:H I 152 [.bool (B (a<0)),.sl (G (E a)).length (lm (G (E a)))] (.agg [.bool (B (r<0)),.sl ((G (E r)).length) (lm (G (E r)))]))(hal:Bj (lm (G (E a)))=(G (E a)).length*1)(han:(G (E a)).length<=1048576):H I 113 [.agg [.bool neg,sL lm xs]] (.agg [.bool (B (r<0)),.sl ((G (E r)).length) (lm (G (E r)))]):=Bp (ps:=[H I 143 [.agg [.bool neg,sL lm xs]] (.tup [.bool (B (a<0)),.sl ((G (E a)).length) (lm (G (E a)))]),Bj (lm (G (E a)))=((G (E a)).length)*1,((G (E a)).length)<=35184372088832,H I 152 [.bool (B (a<0)),.sl ((G (E a)).length) (lm (G (E a)))] (.agg [.bool (B (r<0)),.sl ((G (E r)).length) (lm (G (E r)))])]) Cd rfl 300 rfl [.r (.tup [.bool (B (a<0)),.sl ((G (E a)).length) (lm (G (E a)))]),.r (.agg [.bool (B (r<0)),.sl ((G (E r)).length) (lm (G (E r)))])] (by kernel_rfl) ⟨h1,hal,(Bq han (by decide)),h2,trivial⟩
theorem Ann(neg:Bool)(xs:List Int)(a r:Int)(h1:H I 143 [.agg [.bool neg,sL lm xs]] (.tup [.bool (B (a<0)),.sl ((G (E a)).length) (lm (G (E a)))]))(h2:H I 152 [.bool (!(decide (a<0))),.sl (G (E a)).length (lm (G (E a)))] (.agg [.bool (B (r<0)),.sl ((G (E r)).length) (lm (G (E r)))]))(hal:Bj (lm (G (E a)))=(G (E a)).length*1)(han:(G (E a)).length<=1048576):H I 131 [.agg [.bool neg,sL lm xs]] (.agg [.bool (B (r<0)),.sl ((G (E r)).length) (lm (G (E r)))]):=Bp (ps:=[H I 143 [.agg [.bool neg,sL lm xs]] (.tup [.bool (B (a<0)),.sl ((G (E a)).length) (lm (G (E a)))]),Bj (lm (G (E a)))=((G (E a)).length)*1,((G (E a)).length)<=35184372088832,H I 152 [.bool (!(decide (a<0))),.sl ((G (E a)).length) (lm (G (E a)))] (.agg [.bool (B (r<0)),.sl ((G (E r)).length) (lm (G (E r)))])]) Cd rfl 300 rfl [.r (.tup [.bool (B (a<0)),.sl ((G (E a)).length) (lm (G (E a)))]),.r (.agg [.bool (B (r<0)),.sl ((G (E r)).length) (lm (G (E r)))])] (by kernel_rfl) ⟨h1,hal,(Bq han (by decide)),h2,trivial⟩
theorem TG(xs:List Int):Bj (lm xs)=xs.length*1:=by rw [N4,Ia]
theorem Ayc(n:Int):rv false (G n.natAbs)=(n.natAbs:Int):=by unfold rv;rw [if_neg (by decide),Cs]
theorem qO(n:Int):rv (!decide (n<0)) (G n.natAbs) = -n:=by
 unfold rv;rw[Cs];by_cases h:n<0 <;> simp[h] <;> omega
theorem Is{neg:Bool}{xs:List Int}(hu:AI xs)(hN:xs.length<=1048576):H I 113 [.agg [.bool neg,sL lm xs]] (Ab (rv neg xs)):=by
 have hl:(G (rv neg xs).natAbs).length<=1048576:=Bq (Es hu) hN;have h2:=DD (neg:=decide (rv neg xs<0)) (BC (rv neg xs).natAbs) hl;rw[Fr] at h2;exact Anm neg xs (rv neg xs) (rv neg xs) (CZ hu hN) h2 (TG _) hl
theorem RU{neg:Bool}{xs:List Int}(hu:AI xs)(hN:xs.length<=1048576):H I 131 [.agg [.bool neg,sL lm xs]] (Ab (-(rv neg xs))):=by
 have hl:(G (rv neg xs).natAbs).length<=1048576:=Bq (Es hu) hN;have h2:=DD (neg := !decide (rv neg xs<0)) (BC (rv neg xs).natAbs) hl;rw[qO] at h2;exact Ann neg xs (rv neg xs) (-(rv neg xs)) (CZ hu hN) h2 (TG _) hl
def TH(a:Int):AV :=
 match (((G (E a)).length:Nat):Int)==0 with
 | true=>(.int .i64 0)
 | false=>(match decide (a<0) with
 | true=>(.int .i64 (-1))
 | false=>(.int .i64 1))
theorem Ano(neg:Bool)(xs:List Int)(a:Int)(h1:H I 143 [.agg [.bool neg,sL lm xs]] (.tup [.bool (B (a<0)),.sl ((G (E a)).length) (lm (G (E a)))])):H I 101 [.agg [.bool neg,sL lm xs]] (TH a):=by
 unfold TH;cases c1:((((G (E a)).length:Nat):Int)==0)
 ·cases c2:(B (a<0))
  ·exact Bp (r := .int .i64 1) (ps:=[H I 143 [.agg [.bool neg,sL lm xs]] (.tup [.bool (B (a<0)),.sl ((G (E a)).length) (lm (G (E a)))]),((((G (E a)).length:Nat):Int)==0)=false,(B (a<0))=false]) Cd rfl 300 rfl [.r (.tup [.bool (B (a<0)),.sl ((G (E a)).length) (lm (G (E a)))]),.b false,.b false] (by kernel_rfl) ⟨h1,c1,c2,trivial⟩
  ·exact Bp (r := .int .i64 (-1)) (ps:=[H I 143 [.agg [.bool neg,sL lm xs]] (.tup [.bool (B (a<0)),.sl ((G (E a)).length) (lm (G (E a)))]),((((G (E a)).length:Nat):Int)==0)=false,(B (a<0))=true]) Cd rfl 300 rfl [.r (.tup [.bool (B (a<0)),.sl ((G (E a)).length) (lm (G (E a)))]),.b false,.b true] (by kernel_rfl) ⟨h1,c1,c2,trivial⟩
 ·exact Bp (r := .int .i64 0) (ps:=[H I 143 [.agg [.bool neg,sL lm xs]] (.tup [.bool (B (a<0)),.sl ((G (E a)).length) (lm (G (E a)))]),((((G (E a)).length:Nat):Int)==0)=true]) Cd rfl 300 rfl [.r (.tup [.bool (B (a<0)),.sl ((G (E a)).length) (lm (G (E a)))]),.b true] (by kernel_rfl) ⟨h1,c1,trivial⟩
theorem J_{neg:Bool}{xs:List Int}(hu:AI xs)(hN:xs.length<=1048576):H I 101 [.agg [.bool neg,sL lm xs]] (.int .i64 (B8 (rv neg xs))):=by
 have h:=Ano neg xs (rv neg xs) (CZ hu hN);have e:TH (rv neg xs) = .int .i64 (B8 (rv neg xs)):=by
  unfold TH B8;have hz:=DO (rv neg xs).natAbs;by_cases h0:rv neg xs=0
  ·rw[h0];rfl
  ·have e1:((((G (rv neg xs).natAbs).length:Nat):Int)==0)=false:=by rw[beq_eq_false_iff_ne];omega
   rw[e1];by_cases h1:rv neg xs<0
   ·simp[h1]
   ·have h2:0<rv neg xs:=by omega
    simp[h1,h2]
 rw[<- e];exact h
def TWA:Cp:=TQ0
theorem AM:B_ I TWA:=Cd
def GY(N:Nat)(cs:List AV)(M:Nat)(ds:List AV)(v i:Int):Ak:=(.val (.sl N cs)::(.val (.sl M ds)::(Q 2 (.val (.int .i64 v)::(.val (.int .i64 i)::(Q 35 []))))))
theorem Anp(N:Nat)(cs:List AV)(M:Nat)(ds:List AV)(v i x y:Int)(c1:B (i>=0)=true)(c2:(x != y)=true)(c3:B (x<y)=true)(n1:0<=i/\i<(N:Int))(n2:Bl (g (A i*1) cs) 0 1 true=some (.int .u32 x))(n3:0<=i/\i<(M:Int))(n4:Bl (g (A i*1) ds) 0 1 true=some (.int .u32 y))(n5:0<=i/\i<(N:Int))(n6:Bl (g (A i*1) cs) 0 1 true=some (.int .u32 x))(n7:0<=i/\i<(M:Int))(n8:Bl (g (A i*1) ds) 0 1 true=some (.int .u32 y)):W I Mf (GY N cs M ds v i) .ret (GY N cs M ds (-1) i):=C AM 300 [.b true,.v (.int .u32 x),.v (.int .u32 y),.b true,.v (.int .u32 x),.v (.int .u32 y),.b true] [0,1,4,5] (L c1 (L n1 (L n2 (L n3 (L n4 (L c2 (L n5 (L n6 (L n7 (L n8 (L c3 a0))))))))))) (by kernel_rfl)
theorem Anq(N:Nat)(cs:List AV)(M:Nat)(ds:List AV)(v i x y:Int)(c1:B (i>=0)=true)(c2:(x != y)=true)(c3:B (x<y)=false)(n1:0<=i/\i<(N:Int))(n2:Bl (g (A i*1) cs) 0 1 true=some (.int .u32 x))(n3:0<=i/\i<(M:Int))(n4:Bl (g (A i*1) ds) 0 1 true=some (.int .u32 y))(n5:0<=i/\i<(N:Int))(n6:Bl (g (A i*1) cs) 0 1 true=some (.int .u32 x))(n7:0<=i/\i<(M:Int))(n8:Bl (g (A i*1) ds) 0 1 true=some (.int .u32 y)):W I Mf (GY N cs M ds v i) .ret (GY N cs M ds 1 i):=C AM 300 [.b true,.v (.int .u32 x),.v (.int .u32 y),.b true,.v (.int .u32 x),.v (.int .u32 y),.b false] [0,1,4,5] (L c1 (L n1 (L n2 (L n3 (L n4 (L c2 (L n5 (L n6 (L n7 (L n8 (L c3 a0))))))))))) (by kernel_rfl)
theorem Anr(N:Nat)(cs:List AV)(M:Nat)(ds:List AV)(v i x y:Int)(c1:B (i>=0)=true)(c2:(x != y)=false)(n1:0<=i/\i<(N:Int))(n2:Bl (g (A i*1) cs) 0 1 true=some (.int .u32 x))(n3:0<=i/\i<(M:Int))(n4:Bl (g (A i*1) ds) 0 1 true=some (.int .u32 y)):W I Mf (GY N cs M ds v i) .norm (GY N cs M ds v (D R (i-1))):=C AM 300 [.b true,.v (.int .u32 x),.v (.int .u32 y),.b false] [0,1,4,5] (L c1 (L n1 (L n2 (L n3 (L n4 (L c2 a0)))))) (by kernel_rfl)
theorem Ans(N:Nat)(cs:List AV)(M:Nat)(ds:List AV)(v i:Int)(c1:B (i>=0)=false):W I Mf (GY N cs M ds v i) (.exit 0) (GY N cs M ds v i):=C AM 300 [.b false] [0,1,4,5] (L c1 a0) (by kernel_rfl)
theorem vW(xs ys:List Int)(hN:xs.length<=1048576)(hl:xs.length=ys.length):∀ m,m<=xs.length ->
  (Jd xs ys m=0/\W I (.loop Mf) (GY xs.length (lm xs) ys.length (lm ys) 0 ((m:Int)-1)) (.exit 0) (GY xs.length (lm xs) ys.length (lm ys) 0 (-1))) \/
  (Jd xs ys m ≠ 0/\∃ j,W I (.loop Mf) (GY xs.length (lm xs) ys.length (lm ys) 0 ((m:Int)-1)) .ret (GY xs.length (lm xs) ys.length (lm ys) (Jd xs ys m) j)):=by
 intro m;induction m with
 | zero =>
  intro _;left;refine⟨rfl,?_⟩;exact Al (Ans xs.length (lm xs) ys.length (lm ys) 0 (((0:Nat):Int)-1) (by simp)) (by nofun)
 | succ m ih =>
  intro hm;have e0:((m+1:Nat):Int)-1=(m:Int):=by omega
  have e1:D R ((m:Int)-1)=(m:Int)-1:=AW (by omega) (by omega);have hx:=DW (xs:=xs) (i:=m) (by omega);have hy:=DW (xs:=ys) (i:=m) (by omega);rw[e0];simp only[Jd];by_cases h:xs.getD m 0=ys.getD m 0
  ·rw[if_pos h];have h1:=Anr xs.length (lm xs) ys.length (lm ys) 0 (m:Int) (xs.getD m 0) (ys.getD m 0) (by simp) (by simpa using h) (by omega) (by rw[F];exact hx) (by omega) (by rw[F];exact hy);rw[e1] at h1;rcases ih (by omega) with ⟨k1,k2⟩ | ⟨k1,j,k2⟩
   ·exact .inl ⟨k1,W.loop h1 k2⟩
   ·exact .inr ⟨k1,j,W.loop h1 k2⟩
  ·rw[if_neg h];right;by_cases hlt:xs.getD m 0<ys.getD m 0
   ·rw[if_pos hlt];refine⟨by decide,(m:Int),?_⟩;exact Al (Anp xs.length (lm xs) ys.length (lm ys) 0 (m:Int) (xs.getD m 0) (ys.getD m 0) (by simp) (by simpa using h) (by simpa using hlt) (by omega) (by rw[F];exact hx) (by omega) (by rw[F];exact hy) (by omega) (by rw[F];exact hx) (by omega) (by rw[F];exact hy)) (by nofun)
   ·rw[if_neg hlt];refine⟨by decide,(m:Int),?_⟩;exact Al (Anq xs.length (lm xs) ys.length (lm ys) 0 (m:Int) (xs.getD m 0) (ys.getD m 0) (by simp) (by simpa using h) (by simpa using hlt) (by omega) (by rw[F];exact hx) (by omega) (by rw[F];exact hy) (by omega) (by rw[F];exact hx) (by omega) (by rw[F];exact hy)) (by nofun)
theorem cH(xs ys:List Int)(h:((xs.length:Int) != (ys.length:Int))=true)(h2:(B ((xs.length:Int)<(ys.length:Int)))=true):H I 151 [sL lm xs,sL lm ys] (.int .i64 (-1)):=Bp (ps:=[((xs.length:Int) != (ys.length:Int))=true,(B ((xs.length:Int)<(ys.length:Int)))=true]) AM rfl 300 rfl [.b true,.b true] (by kernel_rfl) ⟨h,h2,trivial⟩
theorem cI(xs ys:List Int)(h:((xs.length:Int) != (ys.length:Int))=true)(h2:(B ((xs.length:Int)<(ys.length:Int)))=false):H I 151 [sL lm xs,sL lm ys] (.int .i64 1):=Bp (ps:=[((xs.length:Int) != (ys.length:Int))=true,(B ((xs.length:Int)<(ys.length:Int)))=false]) AM rfl 300 rfl [.b true,.b false] (by kernel_rfl) ⟨h,h2,trivial⟩
theorem cJ(xs ys:List Int)(h:((xs.length:Int) != (ys.length:Int))=false)(hl:W I (.loop Mf) (GY xs.length (lm xs) ys.length (lm ys) 0 (D R ((xs.length:Int)-1))) (.exit 0) (GY xs.length (lm xs) ys.length (lm ys) 0 (-1))):H I 151 [sL lm xs,sL lm ys] (.int .i64 0):=p (fn:=RI) (s:=(.val (sL lm xs)::(.val (sL lm ys)::(Q 2 (.val (.int .i64 0)::(.val (.int .i64 (-1))::(Q 35 []))))))) (ex := .ret) rfl rfl (W.seq (C (t:=(vl xs::(vl ys::(Q 2 (vi 0::(Q 36 [])))))) AM 300 [] [0,1,4] a0) (W.seq (C (t:=(vl xs::(vl ys::(Q 2 (vi 0::(Q 1 (vl xs::(vi (xs.length:Int)::(vl ys::(vi (ys.length:Int)::(.val (.bool ((xs.length:Int) != (ys.length:Int)))::(Q 30 [])))))))))))) AM 300 [.b false] [0,1,4,6,7,8,9,10] (L (show ((xs.length:Int) != (ys.length:Int))=false from h) a0)) (W.seq (W.seq (C (t:=(vl xs::(vl ys::(Q 2 (vi 0::(vi (D R ((xs.length:Int)-1))::(Q 35 []))))))) AM 300 [] [0,1,4,5] a0) (W.block hl)) (C (t:=(vl xs::(vl ys::(Q 2 (vi 0::(vi (-1)::(Q 35 []))))))) (ex := .ret) AM 300 [] [0,1,4,5] a0)))) (by nofun) rfl
theorem cK(xs ys:List Int)(r j:Int)(h:((xs.length:Int) != (ys.length:Int))=false)(hl:W I (.loop Mf) (GY xs.length (lm xs) ys.length (lm ys) 0 (D R ((xs.length:Int)-1))) .ret (GY xs.length (lm xs) ys.length (lm ys) r j)):H I 151 [sL lm xs,sL lm ys] (.int .i64 r):=p (fn:=RI) (s:=(.val (sL lm xs)::(.val (sL lm ys)::(Q 2 (.val (.int .i64 r)::(.val (.int .i64 j)::(Q 35 []))))))) (ex := .ret) rfl rfl (W.seq (C (t:=(vl xs::(vl ys::(Q 2 (vi 0::(Q 36 [])))))) AM 300 [] [0,1,4] a0) (W.seq (C (t:=(vl xs::(vl ys::(Q 2 (vi 0::(Q 1 (vl xs::(vi (xs.length:Int)::(vl ys::(vi (ys.length:Int)::(.val (.bool ((xs.length:Int) != (ys.length:Int)))::(Q 30 [])))))))))))) AM 300 [.b false] [0,1,4,6,7,8,9,10] (L (show ((xs.length:Int) != (ys.length:Int))=false from h) a0)) (AQ (W.seq (C (t:=(vl xs::(vl ys::(Q 2 (vi 0::(vi (D R ((xs.length:Int)-1))::(Q 35 []))))))) AM 300 [] [0,1,4,5] a0) (De hl)) (by nofun)))) (by nofun) rfl
theorem I9{xs ys:List Int}(hx:Fg xs)(hy:Fg ys)(hN:xs.length<=1048576):H I 151 [sL lm xs,sL lm ys] (.int .i64 (Cw (Aa xs) (Aa ys))):=by
 by_cases hl:xs.length=ys.length
 ·have h:((xs.length:Int) != (ys.length:Int))=false:=by rw[hl];simp
  have hg:=X3 hx.1 hy.1 xs.length (Am _) (by omega);rw[Ee,hl,Ee,<- hl] at hg;have e1:D R ((xs.length:Int)-1)=(xs.length:Int)-1:=AW (by omega) (by omega);rcases vW xs ys hN hl xs.length (Am _) with ⟨k1,k2⟩ | ⟨k1,j,k2⟩
  ·rw[<- hg,k1];exact cJ xs ys h (by rw[e1];exact k2)
  ·rw[<- hg];exact cK xs ys _ j h (by rw[e1];exact k2)
 ·have h:((xs.length:Int) != (ys.length:Int))=true:=by simp;omega
  by_cases hlt:xs.length<ys.length
  ·have e:Cw (Aa xs) (Aa ys) = -1:=by unfold Cw;rw[if_pos (Iq hx hy hlt)]
   rw[e];exact cH xs ys h (by simp;omega)
  ·have:=Iq hy hx (by omega);have e:Cw (Aa xs) (Aa ys)=1:=by unfold Cw;rw[if_neg (by omega),if_pos this]
   rw[e];exact cI xs ys h (by simp;omega)
def HQ(la:Nat)(xa:List AV)(lb:Nat)(xb:List AV)(n:Nat)(cs:List AV)(c:Int)(m:Int)(i:Int):Ak:=(.val (.sl la xa)::(.val (.sl lb xb)::(Q 2 (.own 1 0 []::(.own 1 n cs::(.val (.int .u64 c)::(Q 14 (.val (.int .i64 m)::(.val (.int .i64 i)::(Q 35 []))))))))))
theorem Ant(la:Nat)(xa:List AV)(lb:Nat)(xb:List AV)(n:Nat)(cs:List AV)(c:Int)(m:Int)(i:Int)(ds:List AV)(x y:Int)(c1:B (i<m)=true)(c2:B (i<(lb:Int))=true)(n1:0<=i/\i<(la:Int))(n2:Bl (g (A i*1) xa) 0 1 true=some (.int .u32 x))(n3:0<=i/\i<(lb:Int))(n4:Bl (g (A i*1) xb) 0 1 true=some (.int .u32 y))(n5:0<=i/\i<(n:Int))(n6:Cv cs (A i*1) [.int .u32 (D A4 (D U ((D U ((D U x)+c))+(D U y))))]=some ds):W I Nz (HQ la xa lb xb n cs c m i) .norm (HQ la xa lb xb n ds (d (D U ((D U ((D U x)+c))+(D U y))) (2^(min (A 32) (Aj .u64)))) m (D R (i+1))):=C AM 300 [.b true,.v (.int .u32 x),.b true,.v (.int .u32 y),.l ds] [0,1,4,5,6,21,22] (L c1 (L n1 (L n2 (L c2 (L n3 (L n4 (L HE (L n5 (L n6 a0))))))))) (by kernel_rfl)
theorem Anu(la:Nat)(xa:List AV)(lb:Nat)(xb:List AV)(n:Nat)(cs:List AV)(c:Int)(m:Int)(i:Int)(ds:List AV)(x:Int)(c1:B (i<m)=true)(c2:B (i<(lb:Int))=false)(n1:0<=i/\i<(la:Int))(n2:Bl (g (A i*1) xa) 0 1 true=some (.int .u32 x))(n3:0<=i/\i<(n:Int))(n4:Cv cs (A i*1) [.int .u32 (D A4 (D U ((D U x)+c)))]=some ds):W I Nz (HQ la xa lb xb n cs c m i) .norm (HQ la xa lb xb n ds (d (D U ((D U x)+c)) (2^(min (A 32) (Aj .u64)))) m (D R (i+1))):=C AM 300 [.b true,.v (.int .u32 x),.b false,.l ds] [0,1,4,5,6,21,22] (L c1 (L n1 (L n2 (L c2 (L HE (L n3 (L n4 a0))))))) (by kernel_rfl)
theorem Anv(la:Nat)(xa:List AV)(lb:Nat)(xb:List AV)(n:Nat)(cs:List AV)(c:Int)(m:Int)(i:Int)(c1:B (i<m)=false):W I Nz (HQ la xa lb xb n cs c m i) (.exit 0) (HQ la xa lb xb n cs c m i):=C AM 300 [.b false] [0,1,4,5,6,21,22] (L c1 a0) (by kernel_rfl)
theorem vX(xs ys:List Int)(hx:AI xs)(hy:AI ys)(n:Nat)(hn:n<=1048576)(hxn:xs.length<=n):∀ (r i:Nat) (o:List Int) (c:Int),r+i=xs.length->o.length=n->AI o->0<=c/\c<=1 ->
  W I (.loop Nz) (HQ xs.length (lm xs) ys.length (lm ys) n (lm o) c (xs.length:Int) (i:Int)) (.exit 0)
   (HQ xs.length (lm xs) ys.length (lm ys) n (lm (HP xs ys r i o c).1) (HP xs ys r i o c).2 (xs.length:Int) (xs.length:Int)):=by
 intro r;induction r with
 | zero =>
  intro i o c hi _ _ _;have hi':i=xs.length:=by omega
  subst hi';exact Al (Anv xs.length (lm xs) ys.length (lm ys) n (lm o) c (xs.length:Int) (xs.length:Int) (by simp)) (by nofun)
 | succ r ih =>
  intro i o c hi hlo hu hc;have h1:=AA hx i;have h2:=AA hy i;have ei:D R ((i:Int)+1)=((i+1:Nat):Int):=by rw[AW (by omega) (by omega)];omega
  have hxi:=DW (xs:=xs) (i:=i) (by omega);have hst:=HO (xs:=o) (i:=i) (v:=(xs.getD i 0+c+ys.getD i 0) % 4294967296) (by omega);by_cases hy2:i<ys.length
  ·have hyi:=DW (xs:=ys) (i:=i) hy2;have eW:D A4 (D U (D U (D U (xs.getD i 0)+c)+D U (ys.getD i 0)))=(xs.getD i 0+c+ys.getD i 0) % 4294967296:=by rw[Ds,B1,B1,B1,B1];omega
   have eC:d (D U (D U (D U (xs.getD i 0)+c)+D U (ys.getD i 0))) (2^(min (A 32) (Aj .u64)))=((xs.getD i 0+c+ys.getD i 0) / 4294967296):=by
    show d _ 4294967296=_;rw[t _ (by omega),B1,B1,B1,B1];omega
   have k:=Ant xs.length (lm xs) ys.length (lm ys) n (lm o) c (xs.length:Int) (i:Int) (lm (o.set i ((xs.getD i 0+c+ys.getD i 0) % 4294967296))) (xs.getD i 0) (ys.getD i 0)
    (by simp;omega) (by simp;omega) (by omega) (by rw[F];exact hxi) (by omega) (by rw[F];exact hyi) (by omega) (by rw[F,eW];exact hst)
   rw[eC,ei] at k;exact W.loop k (ih (i+1) _ _ (by omega) (by simpa using hlo) (Cq hu (by omega)) (by omega))
  ·have hy0:=Bv (xs:=ys) (i:=i) (by omega);have eW:D A4 (D U (D U (xs.getD i 0)+c))=(xs.getD i 0+c+ys.getD i 0) % 4294967296:=by rw[Ds,B1,B1];omega
   have eC:d (D U (D U (xs.getD i 0)+c)) (2^(min (A 32) (Aj .u64)))=((xs.getD i 0+c+ys.getD i 0) / 4294967296):=by
    show d _ 4294967296=_;rw[t _ (by omega),B1,B1];omega
   have k:=Anu xs.length (lm xs) ys.length (lm ys) n (lm o) c (xs.length:Int) (i:Int) (lm (o.set i ((xs.getD i 0+c+ys.getD i 0) % 4294967296))) (xs.getD i 0)
    (by simp;omega) (by simp;omega) (by omega) (by rw[F];exact hxi) (by omega) (by rw[F,eW];exact hst)
   rw[eC,ei] at k;exact W.loop k (ih (i+1) _ _ (by omega) (by simpa using hlo) (Cq hu (by omega)) (by omega))
def Lg(la:Nat)(xa:List AV)(lb:Nat)(xb:List AV)(n:Nat)(cs:List AV)(c:Int)(m:Int)(i:Int):Ak:=(.val (.sl la xa)::(.val (.sl lb xb)::(Q 2 (.own 1 0 []::(.own 1 n cs::(.val (.int .u64 c)::(Q 6 (.val (.int .i64 m)::(.val (.int .i64 i)::(Q 29 []))))))))))
theorem Anw(la:Nat)(xa:List AV)(lb:Nat)(xb:List AV)(n:Nat)(cs:List AV)(c:Int)(m:Int)(i:Int)(ds:List AV)(x y:Int)(c1:B (i<m)=true)(c2:B (i<(lb:Int))=true)(n1:0<=i/\i<(la:Int))(n2:Bl (g (A i*1) xa) 0 1 true=some (.int .u32 x))(n3:0<=i/\i<(lb:Int))(n4:Bl (g (A i*1) xb) 0 1 true=some (.int .u32 y))(n5:0<=i/\i<(n:Int))(n6:Cv cs (A i*1) [.int .u32 (D A4 (D U ((D U ((D U x)-c))-(D U y))))]=some ds):W I RN (Lg la xa lb xb n cs c m i) .norm (Lg la xa lb xb n ds (d (D U ((D U ((D U x)-c))-(D U y))) (2^(min (A 63) (Aj .u64)))) m (D R (i+1))):=C AM 300 [.b true,.v (.int .u32 x),.b true,.v (.int .u32 y),.l ds] [0,1,4,5,6,13,14] (L c1 (L n1 (L n2 (L c2 (L n3 (L n4 (L W6 (L n5 (L n6 a0))))))))) (by kernel_rfl)
theorem Anx(la:Nat)(xa:List AV)(lb:Nat)(xb:List AV)(n:Nat)(cs:List AV)(c:Int)(m:Int)(i:Int)(ds:List AV)(x:Int)(c1:B (i<m)=true)(c2:B (i<(lb:Int))=false)(n1:0<=i/\i<(la:Int))(n2:Bl (g (A i*1) xa) 0 1 true=some (.int .u32 x))(n3:0<=i/\i<(n:Int))(n4:Cv cs (A i*1) [.int .u32 (D A4 (D U ((D U x)-c)))]=some ds):W I RN (Lg la xa lb xb n cs c m i) .norm (Lg la xa lb xb n ds (d (D U ((D U x)-c)) (2^(min (A 63) (Aj .u64)))) m (D R (i+1))):=C AM 300 [.b true,.v (.int .u32 x),.b false,.l ds] [0,1,4,5,6,13,14] (L c1 (L n1 (L n2 (L c2 (L W6 (L n3 (L n4 a0))))))) (by kernel_rfl)
theorem Any(la:Nat)(xa:List AV)(lb:Nat)(xb:List AV)(n:Nat)(cs:List AV)(c:Int)(m:Int)(i:Int)(c1:B (i<m)=false):W I RN (Lg la xa lb xb n cs c m i) (.exit 0) (Lg la xa lb xb n cs c m i):=C AM 300 [.b false] [0,1,4,5,6,13,14] (L c1 a0) (by kernel_rfl)
theorem vY(xs ys:List Int)(hx:AI xs)(hy:AI ys)(n:Nat)(hn:n<=1048576)(hxn:xs.length<=n):∀ (r i:Nat) (o:List Int) (c:Int),r+i=xs.length->o.length=n->AI o->0<=c/\c<=1 ->
  W I (.loop RN) (Lg xs.length (lm xs) ys.length (lm ys) n (lm o) c (xs.length:Int) (i:Int)) (.exit 0)
   (Lg xs.length (lm xs) ys.length (lm ys) n (lm (Ir xs ys r i o c).1) (Ir xs ys r i o c).2 (xs.length:Int) (xs.length:Int)):=by
 intro r;induction r with
 | zero =>
  intro i o c hi _ _ _;have hi':i=xs.length:=by omega
  subst hi';exact Al (Any xs.length (lm xs) ys.length (lm ys) n (lm o) c (xs.length:Int) (xs.length:Int) (by simp)) (by nofun)
 | succ r ih =>
  intro i o c hi hlo hu hc;have h1:=AA hx i;have h2:=AA hy i;have ei:D R ((i:Int)+1)=((i+1:Nat):Int):=by rw[AW (by omega) (by omega)];omega
  have hxi:=DW (xs:=xs) (i:=i) (by omega);have hst:=HO (xs:=o) (i:=i) (v:=(xs.getD i 0-c-ys.getD i 0) % 4294967296) (by omega);by_cases hy2:i<ys.length
  ·have hyi:=DW (xs:=ys) (i:=i) hy2;have eW:D A4 (D U (D U (D U (xs.getD i 0)-c)-D U (ys.getD i 0)))=(xs.getD i 0-c-ys.getD i 0) % 4294967296:=by rw[Ds,B1,B1,B1,B1];omega
   have eC:d (D U (D U (D U (xs.getD i 0)-c)-D U (ys.getD i 0))) (2^(min (A 63) (Aj .u64)))=(-((xs.getD i 0-c-ys.getD i 0) / 4294967296)):=by
    show d _ 9223372036854775808=_;rw[t _ (by omega),B1,B1,B1,B1];omega
   have k:=Anw xs.length (lm xs) ys.length (lm ys) n (lm o) c (xs.length:Int) (i:Int) (lm (o.set i ((xs.getD i 0-c-ys.getD i 0) % 4294967296))) (xs.getD i 0) (ys.getD i 0)
    (by simp;omega) (by simp;omega) (by omega) (by rw[F];exact hxi) (by omega) (by rw[F];exact hyi) (by omega) (by rw[F,eW];exact hst)
   rw[eC,ei] at k;exact W.loop k (ih (i+1) _ _ (by omega) (by simpa using hlo) (Cq hu (by omega)) (by omega))
  ·have hy0:=Bv (xs:=ys) (i:=i) (by omega);have eW:D A4 (D U (D U (xs.getD i 0)-c))=(xs.getD i 0-c-ys.getD i 0) % 4294967296:=by rw[Ds,B1,B1];omega
   have eC:d (D U (D U (xs.getD i 0)-c)) (2^(min (A 63) (Aj .u64)))=(-((xs.getD i 0-c-ys.getD i 0) / 4294967296)):=by
    show d _ 9223372036854775808=_;rw[t _ (by omega),B1,B1];omega
   have k:=Anx xs.length (lm xs) ys.length (lm ys) n (lm o) c (xs.length:Int) (i:Int) (lm (o.set i ((xs.getD i 0-c-ys.getD i 0) % 4294967296))) (xs.getD i 0)
    (by simp;omega) (by simp;omega) (by omega) (by rw[F];exact hxi) (by omega) (by rw[F,eW];exact hst)
   rw[eC,ei] at k;exact W.loop k (ih (i+1) _ _ (by omega) (by simpa using hlo) (Cq hu (by omega)) (by omega))
theorem cL(xs ys o:List Int)(c:Int)(h:(B ((xs.length:Int)<(ys.length:Int)))=true)(hmk:0<=D R ((ys.length:Int)+1)/\D R ((ys.length:Int)+1)<=1048576)(hl:W I (.loop Nz) (HQ ys.length (lm ys) xs.length (lm xs) (A (D R ((ys.length:Int)+1))) (Co [.int .u32 0] (A (D R ((ys.length:Int)+1)))) 0 (ys.length:Int) 0) (.exit 0) (HQ ys.length (lm ys) xs.length (lm xs) (A (D R ((ys.length:Int)+1))) (lm o) c (ys.length:Int) (ys.length:Int)))(hix:0<=(ys.length:Int)/\(ys.length:Int)<(((A (D R ((ys.length:Int)+1))):Nat):Int))(hst:Cv (lm o) (A (ys.length:Int)*1) [.int .u32 (D A4 c)]=some (lm (o.set ys.length c))):H I 178 [sL lm xs,sL lm ys] (.fresh 1 (A (D R ((ys.length:Int)+1))) (lm (o.set ys.length c))):=p (fn:=RM) (s:=(.val (sL lm ys)::(.val (sL lm xs)::(Q 2 (.own 1 (A (D R ((ys.length:Int)+1))) (lm (o.set ys.length c))::(Q 1 (.val (.int .u64 c)::(Q 14 (.val (.int .i64 (ys.length:Int))::(.val (.int .i64 (ys.length:Int))::(Q 28 (.dup 5::(.val (sL lm ys)::(.val (.int .i64 (ys.length:Int))::(.val (.int .u64 c)::(.val (.int .u32 (D A4 c))::(.ptr 5 (A (ys.length:Int)*1)::(Q 1 [])))))))))))))))))) (ex := .ret) rfl rfl (W.seq (C (t:=(vl xs::(vl ys::(Q 2 (.own 1 0 []::(Q 53 [])))))) AM 300 [] [0,1,4] a0) (W.seq (C (t:=(vl ys::(vl xs::(Q 2 (.own 1 0 []::(Q 4 (vl xs::(vi (xs.length:Int)::(vl ys::(vi (ys.length:Int)::(.val (.bool (B ((xs.length:Int)<(ys.length:Int))))::(vl ys::(vl xs::(Q 42 [])))))))))))))) AM 300 [.b true] [0,1,4,9,10,11,12,13,14,15] (L (show (B ((xs.length:Int)<(ys.length:Int)))=true from h) a0)) (W.seq (C (t:=(vl ys::(vl xs::(Q 2 (.own 1 0 []::(.own 1 (A (D R ((ys.length:Int)+1))) (Co [.int .u32 0] (A (D R ((ys.length:Int)+1))))::(Q 3 (vl xs::(vi (xs.length:Int)::(vl ys::(vi (ys.length:Int)::(.val (.bool (B ((xs.length:Int)<(ys.length:Int))))::(vl ys::(vl xs::(vl ys::(vi (ys.length:Int)::(vi (D R ((ys.length:Int)+1))::(Q 39 [])))))))))))))))))) AM 300 [] [0,1,4,5,9,10,11,12,13,14,15,16,17,18] (L (show 0<=(D R ((ys.length:Int)+1))/\(D R ((ys.length:Int)+1))<=1048576 from hmk) a0)) (W.seq (C (t:=(vl ys::(vl xs::(Q 2 (.own 1 0 []::(.own 1 (A (D R ((ys.length:Int)+1))) (Co [.int .u32 0] (A (D R ((ys.length:Int)+1))))::(.val (.int .u64 0)::(Q 2 (vl xs::(vi (xs.length:Int)::(vl ys::(vi (ys.length:Int)::(.val (.bool (B ((xs.length:Int)<(ys.length:Int))))::(vl ys::(vl xs::(vl ys::(vi (ys.length:Int)::(vi (D R ((ys.length:Int)+1))::(Q 39 []))))))))))))))))))) AM 300 [] [0,1,4,5,6,9,10,11,12,13,14,15,16,17,18] a0) (W.seq (W.seq (C (t:=(vl ys::(vl xs::(Q 2 (.own 1 0 []::(.own 1 (A (D R ((ys.length:Int)+1))) (Co [.int .u32 0] (A (D R ((ys.length:Int)+1))))::(.val (.int .u64 0)::(Q 14 (vi (ys.length:Int)::(vi 0::(Q 35 []))))))))))) AM 300 [] [0,1,4,5,6,21,22] a0) (W.block hl)) (C (t:=(vl ys::(vl xs::(Q 2 (.own 1 (A (D R ((ys.length:Int)+1))) (lm (o.set ys.length c))::(Q 1 (.val (.int .u64 c)::(Q 14 (vi (ys.length:Int)::(vi (ys.length:Int)::(Q 28 (.dup 5::(vl ys::(vi (ys.length:Int)::(.val (.int .u64 c)::(.val (.int .u32 (D A4 c))::(.ptr 5 (A (ys.length:Int)*1)::(Q 1 [])))))))))))))))))) (ex := .ret) AM 300 [.l (lm (o.set ys.length c))] [0,1,4,6,21,22,51,52,53,54,55,56] (L (show 0<=(ys.length:Int)/\(ys.length:Int)<(((A (D R ((ys.length:Int)+1))):Nat):Int) from hix) (L (show Cv (lm o) (A (ys.length:Int)*1) [.int .u32 (D A4 c)]=some (lm (o.set ys.length c)) from hst) a0)))))))) (by nofun) rfl
theorem cM(xs ys o:List Int)(c:Int)(h:(B ((xs.length:Int)<(ys.length:Int)))=false)(hmk:0<=D R ((xs.length:Int)+1)/\D R ((xs.length:Int)+1)<=1048576)(hl:W I (.loop Nz) (HQ xs.length (lm xs) ys.length (lm ys) (A (D R ((xs.length:Int)+1))) (Co [.int .u32 0] (A (D R ((xs.length:Int)+1)))) 0 (xs.length:Int) 0) (.exit 0) (HQ xs.length (lm xs) ys.length (lm ys) (A (D R ((xs.length:Int)+1))) (lm o) c (xs.length:Int) (xs.length:Int)))(hix:0<=(xs.length:Int)/\(xs.length:Int)<(((A (D R ((xs.length:Int)+1))):Nat):Int))(hst:Cv (lm o) (A (xs.length:Int)*1) [.int .u32 (D A4 c)]=some (lm (o.set xs.length c))):H I 178 [sL lm xs,sL lm ys] (.fresh 1 (A (D R ((xs.length:Int)+1))) (lm (o.set xs.length c))):=p (fn:=RM) (s:=(.val (sL lm xs)::(.val (sL lm ys)::(Q 2 (.own 1 (A (D R ((xs.length:Int)+1))) (lm (o.set xs.length c))::(Q 1 (.val (.int .u64 c)::(Q 14 (.val (.int .i64 (xs.length:Int))::(.val (.int .i64 (xs.length:Int))::(Q 28 (.dup 5::(.val (sL lm xs)::(.val (.int .i64 (xs.length:Int))::(.val (.int .u64 c)::(.val (.int .u32 (D A4 c))::(.ptr 5 (A (xs.length:Int)*1)::(Q 1 [])))))))))))))))))) (ex := .ret) rfl rfl (W.seq (C (t:=(vl xs::(vl ys::(Q 2 (.own 1 0 []::(Q 53 [])))))) AM 300 [] [0,1,4] a0) (W.seq (C (t:=(vl xs::(vl ys::(Q 2 (.own 1 0 []::(Q 4 (vl xs::(vi (xs.length:Int)::(vl ys::(vi (ys.length:Int)::(.val (.bool (B ((xs.length:Int)<(ys.length:Int))))::(Q 44 [])))))))))))) AM 300 [.b false] [0,1,4,9,10,11,12,13] (L (show (B ((xs.length:Int)<(ys.length:Int)))=false from h) a0)) (W.seq (C (t:=(vl xs::(vl ys::(Q 2 (.own 1 0 []::(.own 1 (A (D R ((xs.length:Int)+1))) (Co [.int .u32 0] (A (D R ((xs.length:Int)+1))))::(Q 3 (vl xs::(vi (xs.length:Int)::(vl ys::(vi (ys.length:Int)::(.val (.bool (B ((xs.length:Int)<(ys.length:Int))))::(Q 2 (vl xs::(vi (xs.length:Int)::(vi (D R ((xs.length:Int)+1))::(Q 39 []))))))))))))))))) AM 300 [] [0,1,4,5,9,10,11,12,13,16,17,18] (L (show 0<=(D R ((xs.length:Int)+1))/\(D R ((xs.length:Int)+1))<=1048576 from hmk) a0)) (W.seq (C (t:=(vl xs::(vl ys::(Q 2 (.own 1 0 []::(.own 1 (A (D R ((xs.length:Int)+1))) (Co [.int .u32 0] (A (D R ((xs.length:Int)+1))))::(.val (.int .u64 0)::(Q 2 (vl xs::(vi (xs.length:Int)::(vl ys::(vi (ys.length:Int)::(.val (.bool (B ((xs.length:Int)<(ys.length:Int))))::(Q 2 (vl xs::(vi (xs.length:Int)::(vi (D R ((xs.length:Int)+1))::(Q 39 [])))))))))))))))))) AM 300 [] [0,1,4,5,6,9,10,11,12,13,16,17,18] a0) (W.seq (W.seq (C (t:=(vl xs::(vl ys::(Q 2 (.own 1 0 []::(.own 1 (A (D R ((xs.length:Int)+1))) (Co [.int .u32 0] (A (D R ((xs.length:Int)+1))))::(.val (.int .u64 0)::(Q 14 (vi (xs.length:Int)::(vi 0::(Q 35 []))))))))))) AM 300 [] [0,1,4,5,6,21,22] a0) (W.block hl)) (C (t:=(vl xs::(vl ys::(Q 2 (.own 1 (A (D R ((xs.length:Int)+1))) (lm (o.set xs.length c))::(Q 1 (.val (.int .u64 c)::(Q 14 (vi (xs.length:Int)::(vi (xs.length:Int)::(Q 28 (.dup 5::(vl xs::(vi (xs.length:Int)::(.val (.int .u64 c)::(.val (.int .u32 (D A4 c))::(.ptr 5 (A (xs.length:Int)*1)::(Q 1 [])))))))))))))))))) (ex := .ret) AM 300 [.l (lm (o.set xs.length c))] [0,1,4,6,21,22,51,52,53,54,55,56] (L (show 0<=(xs.length:Int)/\(xs.length:Int)<(((A (D R ((xs.length:Int)+1))):Nat):Int) from hix) (L (show Cv (lm o) (A (xs.length:Int)*1) [.int .u32 (D A4 c)]=some (lm (o.set xs.length c)) from hst) a0)))))))) (by nofun) rfl
theorem OV{xs ys:List Int}(hx:AI xs)(hy:AI ys)(hl:ys.length<=xs.length)(hN:xs.length<1048576):∃ o c,(o:List Int).length=xs.length+1/\AI (o.set xs.length c)/\Aa (o.set xs.length c)=Aa xs+Aa ys/\(0<=c/\c<=1) /\
  W I (.loop Nz) (HQ xs.length (lm xs) ys.length (lm ys) (xs.length+1) (lm (Aq (xs.length+1) 0)) 0 (xs.length:Int) 0) (.exit 0) (HQ xs.length (lm xs) ys.length (lm ys) (xs.length+1) (lm o) c (xs.length:Int) (xs.length:Int)):=by
 have hg:=vX xs ys hx hy (xs.length+1) (by omega) (by omega) xs.length 0 (Aq (xs.length+1) 0) 0 (by omega) (by simp) (EC _) (by omega);cases e:HP xs ys xs.length 0 (Aq (xs.length+1) 0) 0 with
 | mk o c =>
  obtain⟨g1,g2,g3,g4,g5⟩:=jB hx hy hl o c e;rw[e] at hg;exact⟨o,c,g1,g4,g5,g3,hg⟩
theorem Lh{xs ys:List Int}(hx:AI xs)(hy:AI ys)(h1:xs.length<1048576)(h2:ys.length<1048576):∃ zs,AI zs/\Aa zs=Aa xs+Aa ys/\zs.length<=1048576/\H I 178 [sL lm xs,sL lm ys] (.fresh 1 zs.length (lm zs)):=by
 by_cases hlt:xs.length<ys.length
 ·obtain⟨o,c,g1,g2,g3,g4,g5⟩:=OV hy hx (by omega) h2;have e1:D R ((ys.length:Int)+1)=((ys.length+1:Nat):Int):=by rw[AW (by omega) (by omega)];omega
  have e2:A (D R ((ys.length:Int)+1))=ys.length+1:=by rw[e1,F]
  have hst:=HO (xs:=o) (i:=ys.length) (v:=c) (by omega);have h:=cL xs ys o c (by simp;omega) (by rw[e1];omega) (by rw[e2,EO];exact g5) (by rw[e2];omega) (by rw[F,Ds,FT (by omega) (by omega)];exact hst);refine⟨o.set ys.length c,g2,by rw[g3,Ij],by simp;omega,?_⟩;rw[e2] at h;rw[AS,g1];exact h
 ·obtain⟨o,c,g1,g2,g3,g4,g5⟩:=OV hx hy (by omega) h1;have e1:D R ((xs.length:Int)+1)=((xs.length+1:Nat):Int):=by rw[AW (by omega) (by omega)];omega
  have e2:A (D R ((xs.length:Int)+1))=xs.length+1:=by rw[e1,F]
  have hst:=HO (xs:=o) (i:=xs.length) (v:=c) (by omega);have h:=cM xs ys o c (by simp;omega) (by rw[e1];omega) (by rw[e2,EO];exact g5) (by rw[e2];omega) (by rw[F,Ds,FT (by omega) (by omega)];exact hst);refine⟨o.set xs.length c,g2,g3,by simp;omega,?_⟩;rw[e2] at h;rw[AS,g1];exact h
theorem Anz(xs ys o:List Int)(c:Int)(hmk:0<=(xs.length:Int)/\(xs.length:Int)<=1048576)(hl:W I (.loop RN) (Lg xs.length (lm xs) ys.length (lm ys) (A (xs.length:Int)) (Co [.int .u32 0] (A (xs.length:Int))) 0 (xs.length:Int) 0) (.exit 0) (Lg xs.length (lm xs) ys.length (lm ys) (A (xs.length:Int)) (lm o) c (xs.length:Int) (xs.length:Int))):H I 179 [sL lm xs,sL lm ys] (.fresh 1 (A (xs.length:Int)) (lm o)):=p (fn:=UU) (s:=(.val (sL lm xs)::(.val (sL lm ys)::(Q 2 (.own 1 (A (xs.length:Int)) (lm o)::(Q 1 (.val (.int .u64 c)::(Q 6 (.val (.int .i64 (xs.length:Int))::(.val (.int .i64 (xs.length:Int))::(Q 29 []))))))))))) (ex := .ret) rfl rfl (W.seq (C (t:=(vl xs::(vl ys::(Q 2 (.own 1 0 []::(Q 39 [])))))) AM 300 [] [0,1,4] a0) (W.seq (C (t:=(vl xs::(vl ys::(Q 2 (.own 1 0 []::(.own 1 (A (xs.length:Int)) (Co [.int .u32 0] (A (xs.length:Int)))::(Q 3 (vl xs::(vi (xs.length:Int)::(Q 33 [])))))))))) AM 300 [] [0,1,4,5,9,10] (L (show 0<=(xs.length:Int)/\(xs.length:Int)<=1048576 from hmk) a0)) (W.seq (C (t:=(vl xs::(vl ys::(Q 2 (.own 1 0 []::(.own 1 (A (xs.length:Int)) (Co [.int .u32 0] (A (xs.length:Int)))::(.val (.int .u64 0)::(Q 2 (vl xs::(vi (xs.length:Int)::(Q 33 []))))))))))) AM 300 [] [0,1,4,5,6,9,10] a0) (W.seq (W.seq (C (t:=(vl xs::(vl ys::(Q 2 (.own 1 0 []::(.own 1 (A (xs.length:Int)) (Co [.int .u32 0] (A (xs.length:Int)))::(.val (.int .u64 0)::(Q 6 (vi (xs.length:Int)::(vi 0::(Q 29 []))))))))))) AM 300 [] [0,1,4,5,6,13,14] a0) (W.block hl)) (C (t:=(vl xs::(vl ys::(Q 2 (.own 1 (A (xs.length:Int)) (lm o)::(Q 1 (.val (.int .u64 c)::(Q 6 (vi (xs.length:Int)::(vi (xs.length:Int)::(Q 29 []))))))))))) (ex := .ret) AM 300 [] [0,1,4,6,13,14] a0))))) (by nofun) rfl
theorem OW{xs ys:List Int}(hx:AI xs)(hy:AI ys)(hl:ys.length<=xs.length)(hv:Aa ys<=Aa xs)(hN:xs.length<=1048576):∃ zs,AI zs/\Aa zs=Aa xs-Aa ys/\zs.length<=1048576/\H I 179 [sL lm xs,sL lm ys] (.fresh 1 zs.length (lm zs)):=by
 have hg:=vY xs ys hx hy xs.length hN (Am _) xs.length 0 (Aq xs.length 0) 0 (by omega) (by simp) (EC _) (by omega);cases e:Ir xs ys xs.length 0 (Aq xs.length 0) 0 with
 | mk o c =>
  obtain⟨g1,g2,g3⟩:=jC hx hy hl hv o c e;rw[e] at hg;have h:=Anz xs ys o c (by omega) (by rw[F,EO];exact hg);rw[F] at h;refine⟨o,g2,g3,by omega,?_⟩;rw[g1];exact h
theorem jM(na:Bool)(p:Nat)(nb:Bool)(q:Nat)(zs:List Int)(r:Int)(h:(na==nb)=true)(h1:H I 178 [.sl (G p).length (lm (G p)),.sl (G q).length (lm (G q))] (.fresh 1 zs.length (lm zs)))(h2:H I 152 [.bool na,sL lm zs] (.agg [.bool (B (r<0)),.sl ((G (E r)).length) (lm (G (E r)))])):H I 154 [.bool na,.sl ((G p).length) (lm (G p)),.bool nb,.sl ((G q).length) (lm (G q))] (.agg [.bool (B (r<0)),.sl ((G (E r)).length) (lm (G (E r)))]):=Bp (ps:=[(na==nb)=true,H I 178 [.sl ((G p).length) (lm (G p)),.sl ((G q).length) (lm (G q))] (.fresh 1 zs.length (lm zs)),H I 152 [.bool na,sL lm zs] (.agg [.bool (B (r<0)),.sl ((G (E r)).length) (lm (G (E r)))])]) AM rfl 300 rfl [.b true,.r (.fresh 1 zs.length (lm zs)),.r (.agg [.bool (B (r<0)),.sl ((G (E r)).length) (lm (G (E r)))])] (by kernel_rfl) ⟨h,h1,h2,trivial⟩
theorem jN(na:Bool)(p:Nat)(nb:Bool)(q:Nat)(zs:List Int)(r:Int)(k:Int)(h:(na==nb)=false)(h3:H I 151 [.sl (G p).length (lm (G p)),.sl (G q).length (lm (G q))] (.int .i64 k))(hk:(B (k>=0))=true)(h1:H I 179 [.sl (G p).length (lm (G p)),.sl (G q).length (lm (G q))] (.fresh 1 zs.length (lm zs)))(h2:H I 152 [.bool na,sL lm zs] (.agg [.bool (B (r<0)),.sl ((G (E r)).length) (lm (G (E r)))])):H I 154 [.bool na,.sl ((G p).length) (lm (G p)),.bool nb,.sl ((G q).length) (lm (G q))] (.agg [.bool (B (r<0)),.sl ((G (E r)).length) (lm (G (E r)))]):=Bp (ps:=[(na==nb)=false,H I 151 [.sl ((G p).length) (lm (G p)),.sl ((G q).length) (lm (G q))] (.int .i64 k),(B (k>=0))=true,H I 179 [.sl ((G p).length) (lm (G p)),.sl ((G q).length) (lm (G q))] (.fresh 1 zs.length (lm zs)),H I 152 [.bool na,sL lm zs] (.agg [.bool (B (r<0)),.sl ((G (E r)).length) (lm (G (E r)))])]) AM rfl 300 rfl [.b false,.r (.int .i64 k),.b true,.r (.fresh 1 zs.length (lm zs)),.r (.agg [.bool (B (r<0)),.sl ((G (E r)).length) (lm (G (E r)))])] (by kernel_rfl) ⟨h,h3,hk,h1,h2,trivial⟩
theorem jO(na:Bool)(p:Nat)(nb:Bool)(q:Nat)(zs:List Int)(r:Int)(k:Int)(h:(na==nb)=false)(h3:H I 151 [.sl (G p).length (lm (G p)),.sl (G q).length (lm (G q))] (.int .i64 k))(hk:(B (k>=0))=false)(h1:H I 179 [.sl (G q).length (lm (G q)),.sl (G p).length (lm (G p))] (.fresh 1 zs.length (lm zs)))(h2:H I 152 [.bool nb,sL lm zs] (.agg [.bool (B (r<0)),.sl ((G (E r)).length) (lm (G (E r)))])):H I 154 [.bool na,.sl ((G p).length) (lm (G p)),.bool nb,.sl ((G q).length) (lm (G q))] (.agg [.bool (B (r<0)),.sl ((G (E r)).length) (lm (G (E r)))]):=Bp (ps:=[(na==nb)=false,H I 151 [.sl ((G p).length) (lm (G p)),.sl ((G q).length) (lm (G q))] (.int .i64 k),(B (k>=0))=false,H I 179 [.sl ((G q).length) (lm (G q)),.sl ((G p).length) (lm (G p))] (.fresh 1 zs.length (lm zs)),H I 152 [.bool nb,sL lm zs] (.agg [.bool (B (r<0)),.sl ((G (E r)).length) (lm (G (E r)))])]) AM rfl 300 rfl [.b false,.r (.int .i64 k),.b false,.r (.fresh 1 zs.length (lm zs)),.r (.agg [.bool (B (r<0)),.sl ((G (E r)).length) (lm (G (E r)))])] (by kernel_rfl) ⟨h,h3,hk,h1,h2,trivial⟩
theorem cN{na nb:Bool}{p q:Nat}(hp:(G p).length<1048576)(hq:(G q).length<1048576):H I 154 [.bool na,.sl (G p).length (lm (G p)),.bool nb,.sl (G q).length (lm (G q))] (Ab (rv na (G p)+rv nb (G q))):=by
 have up:=BC p;have uq:=BC q;by_cases e:na=nb
 ·subst e;obtain⟨zs,z1,z2,z3,z4⟩:=Lh up uq hp hq;have h2:=DD (neg:=na) z1 z3;have ev:rv na zs=rv na (G p)+rv na (G q):=by
   unfold rv;rw[z2];cases na <;> simp <;> omega
  rw[ev] at h2;exact jM na p na q zs _ (by simp) z4 h2
 ·have hne:(na==nb)=false:=by simpa using e
  have hc:=I9 (Cj p) (Cj q) (by omega);have hnb:nb = !na:=by cases na <;> cases nb <;> simp_all
  have lenle:∀ {a b:Nat},Aa (G a)<=Aa (G b)->(G a).length<=(G b).length:=by
   intro a b h;rcases Ck (G b).length (G a).length with g | g
   ·have:=Iq (Cj b) (Cj a) g;omega
   ·exact g
  by_cases hk:Aa (G q)<=Aa (G p)
  ·obtain⟨zs,z1,z2,z3,z4⟩:=OW up uq (lenle hk) hk (by omega);have h2:=DD (neg:=na) z1 z3;have ev:rv na zs=rv na (G p)+rv nb (G q):=by
    subst hnb;unfold rv;rw[z2];cases na <;> simp <;> omega
   rw[ev] at h2;refine jN na p nb q zs _ _ hne hc ?_ z4 h2;unfold Cw;rw[if_neg (by omega)];split <;> rfl
  ·obtain⟨zs,z1,z2,z3,z4⟩:=OW uq up (lenle (by omega)) (by omega) (by omega);have h2:=DD (neg:=nb) z1 z3;have ev:rv nb zs=rv na (G p)+rv nb (G q):=by
    subst hnb;unfold rv;rw[z2];cases na <;> simp <;> omega
   rw[ev] at h2;refine jO na p nb q zs _ _ hne hc ?_ z4 h2;unfold Cw;rw[if_pos (by omega)];rfl
theorem Aoa(na:Bool)(xs:List Int)(nb:Bool)(ys:List Int)(a b r:Int)(h1:H I 143 [.agg [.bool na,sL lm xs]] (.tup [.bool (B (a<0)),.sl (G (E a)).length (lm (G (E a)))]))(h2:H I 143 [.agg [.bool nb,sL lm ys]] (.tup [.bool (B (b<0)),.sl (G (E b)).length (lm (G (E b)))]))(h3:H I 154 [.bool (B (a<0)),.sl (G (E a)).length (lm (G (E a))),.bool (B (b<0)),.sl (G (E b)).length (lm (G (E b)))] (.agg [.bool (B (r<0)),.sl ((G (E r)).length) (lm (G (E r)))])):H I 111 [.agg [.bool na,sL lm xs],.agg [.bool nb,sL lm ys]] (.agg [.bool (B (r<0)),.sl ((G (E r)).length) (lm (G (E r)))]):=Bp (ps:=[H I 143 [.agg [.bool na,sL lm xs]] (.tup [.bool (B (a<0)),.sl ((G (E a)).length) (lm (G (E a)))]),H I 143 [.agg [.bool nb,sL lm ys]] (.tup [.bool (B (b<0)),.sl ((G (E b)).length) (lm (G (E b)))]),H I 154 [.bool (B (a<0)),.sl ((G (E a)).length) (lm (G (E a))),.bool (B (b<0)),.sl ((G (E b)).length) (lm (G (E b)))] (.agg [.bool (B (r<0)),.sl ((G (E r)).length) (lm (G (E r)))])]) AM rfl 300 rfl [.r (.tup [.bool (B (a<0)),.sl ((G (E a)).length) (lm (G (E a)))]),.r (.tup [.bool (B (b<0)),.sl ((G (E b)).length) (lm (G (E b)))]),.r (.agg [.bool (B (r<0)),.sl ((G (E r)).length) (lm (G (E r)))])] (by kernel_rfl) ⟨h1,h2,h3,trivial⟩
theorem O0{na nb:Bool}{xs ys:List Int}(hx:AI xs)(hy:AI ys)(h1:xs.length<1048576)(h2:ys.length<1048576):H I 111 [.agg [.bool na,sL lm xs],.agg [.bool nb,sL lm ys]] (Ab (rv na xs+rv nb ys)):=by
 have l1:=Dh (Es (neg:=na) hx) h1;have l2:=Dh (Es (neg:=nb) hy) h2;have h3:=cN (na:=decide (rv na xs<0)) (nb:=decide (rv nb ys<0)) l1 l2;rw[Fr,Fr] at h3;exact Aoa na xs nb ys (rv na xs) (rv nb ys) _ (CZ hx (by omega)) (CZ hy (by omega)) h3
theorem vZ{a b:Int}(h1:(G a.natAbs).length<1048576)(h2:(G b.natAbs).length<1048576):H I 111 [Ab a,Ab b] (Ab (a+b)):=by
 have:=O0 (na:=decide (a<0)) (nb:=decide (b<0)) (BC a.natAbs) (BC b.natAbs) h1 h2;rwa [Fr,Fr] at this
theorem Aob(na:Bool)(xs:List Int)(nb:Bool)(ys:List Int)(a b r:Int)(h1:H I 143 [.agg [.bool na,sL lm xs]] (.tup [.bool (B (a<0)),.sl (G (E a)).length (lm (G (E a)))]))(h2:H I 143 [.agg [.bool nb,sL lm ys]] (.tup [.bool (B (b<0)),.sl (G (E b)).length (lm (G (E b)))]))(h3:H I 154 [.bool (B (a<0)),.sl (G (E a)).length (lm (G (E a))),.bool (!(decide (b<0))),.sl (G (E b)).length (lm (G (E b)))] (.agg [.bool (B (r<0)),.sl ((G (E r)).length) (lm (G (E r)))])):H I 127 [.agg [.bool na,sL lm xs],.agg [.bool nb,sL lm ys]] (.agg [.bool (B (r<0)),.sl ((G (E r)).length) (lm (G (E r)))]):=Bp (ps:=[H I 143 [.agg [.bool na,sL lm xs]] (.tup [.bool (B (a<0)),.sl ((G (E a)).length) (lm (G (E a)))]),H I 143 [.agg [.bool nb,sL lm ys]] (.tup [.bool (B (b<0)),.sl ((G (E b)).length) (lm (G (E b)))]),H I 154 [.bool (B (a<0)),.sl ((G (E a)).length) (lm (G (E a))),.bool (!(decide (b<0))),.sl ((G (E b)).length) (lm (G (E b)))] (.agg [.bool (B (r<0)),.sl ((G (E r)).length) (lm (G (E r)))])]) AM rfl 300 rfl [.r (.tup [.bool (B (a<0)),.sl ((G (E a)).length) (lm (G (E a)))]),.r (.tup [.bool (B (b<0)),.sl ((G (E b)).length) (lm (G (E b)))]),.r (.agg [.bool (B (r<0)),.sl ((G (E r)).length) (lm (G (E r)))])] (by kernel_rfl) ⟨h1,h2,h3,trivial⟩
theorem wA{na nb:Bool}{xs ys:List Int}(hx:AI xs)(hy:AI ys)(h1:xs.length<1048576)(h2:ys.length<1048576):H I 127 [.agg [.bool na,sL lm xs],.agg [.bool nb,sL lm ys]] (Ab (rv na xs-rv nb ys)):=by
 have l1:=Dh (Es (neg:=na) hx) h1;have l2:=Dh (Es (neg:=nb) hy) h2;have h3:=cN (na:=decide (rv na xs<0)) (nb := !decide (rv nb ys<0)) l1 l2;rw[Fr,qO,<- Int.sub_eq_add_neg] at h3;exact Aob na xs nb ys (rv na xs) (rv nb ys) _ (CZ hx (by omega)) (CZ hy (by omega)) h3
def TWB:Cp:=TWA
theorem m:B_ I TWB:=AM
end Go.Proofs.YtajompaehjkgkaaGreat
namespace Go.Ai
open Int renaming add_zero->B2,ediv_lt_of_lt_mul->JQ,ediv_nonneg->IV,emod_eq_of_lt->FT,emod_lt_of_pos->DU,emod_nonneg->EK,eq_of_mul_eq_mul_left->HY,le_of_lt->Aw,lt_of_lt_of_le->RV,mul_add->C1,mul_assoc->AB,mul_comm->AD,mul_ediv_add_emod->Gj,mul_le_mul->Ei,mul_le_mul_of_nonneg_left->Ah,mul_le_mul_of_nonneg_right->Ad,mul_lt_mul_of_pos_left->Js,mul_neg->DY,mul_nonneg->A1,mul_sub->HG,mul_zero->AG,not_le->H7,not_lt->Ka,pow_add->B4,pow_succ->Ay,sub_self->SU,zero_add->Db,zero_mul->DF
open List renaming drop_drop->Lq,drop_zero->EP,ext_getElem?->FS,getD_eq_getElem?_getD->Z,getElem?_drop->AX,getElem?_eq_getElem->Ae,getElem?_eq_none->AC,getElem?_take_of_lt->Bw,length_set->AS,length_take->A7,mem_of_mem_drop->EJ,mem_of_mem_take->Cg,take_append_drop->WX
open Nat renaming add_comm->H',le_of_lt->Qe,le_refl->Am,lt_or_ge->Ck,zero_add->BR
section
variable {prog:Nat->Option IFunc}
theorem cO{c:ICode}{ex:Ex}{s t t':Ak}(ks:List Nat)(h:W prog c s ex t)(e:Vf ks t=t'):W prog c s ex t':=e ▸ W.weak h (G4.refl _) (Xt ks t)
theorem EN{c:ICode}{ex:Ex}{fin:Ak}(st:Nat->Ak)(n:Nat)(hex:ex ≠ .norm)(out:W prog c (st n) ex fin):∀ i,i<=n->(∀ t,i<=t->t<n->W prog c (st t) .norm (st (t+1)))->W prog (.loop c) (st i) ex fin:=by
 intro i hi;obtain⟨r,hr⟩:∃ r,i+r=n:=⟨n-i,by omega⟩;induction r generalizing i with
 | zero =>
  intro _;have:i=n:=by omega
  subst this;exact Al out hex
 | succ r ih =>
  intro hs;exact W.loop (hs i (Am _) (by omega)) (ih (i+1) (by omega) (by omega) (fun t h1 h2=>hs t (by omega) h2))
theorem H8(f:Nat->Bool)(m:Nat):∀ r i,i+r=m->(∀ j,i<=j->j<m->f j=false)\/∃ j,i<=j/\j<m/\f j=true/\∀ t,i<=t->t<j->f t=false:=by
 intro r;induction r with
 | zero=>intro i hi;left;intro j h1 h2;omega
 | succ r ih =>
  intro i hi;cases hf:f i with
  | true=>right;exact⟨i,Am _,by omega,hf,fun t h1 h2=>by omega⟩
  | false =>
   rcases ih (i+1) (by omega) with h | ⟨j,h1,h2,h3,h4⟩
   ·left;intro j h1 h2;by_cases e:j=i
    ·rw[e];exact hf
    ·exact h j (by omega) h2
   ·right;refine⟨j,by omega,h2,h3,fun t h5 h6 => ?_⟩;by_cases e:t=i
    ·rw[e];exact hf
    ·exact h4 t (by omega) h6
end
theorem Df(us:List Int){j:Nat}(h:j<=us.length):Aa us=Aa (us.take j)+4294967296^j*Aa (us.drop j):=by
 have:=Gc (us.take j) (us.drop j);rw[WX,A7,Nat.min_eq_left h] at this;exact this
theorem wB{us ws:List Int}{j:Nat}(hl:ws.length=us.length)(h:∀ t,t<j->ws.getD t 0=us.getD t 0):ws.take j=us.take j:=by
 apply FS;intro t;rcases Ck t j with g | g
 ·rw[Bw g,Bw g];have:=h t g;rw[Z,Z] at this;rcases Ck t us.length with k | k
  ·rw[Ae k,Ae (by omega)] at this |-;simpa using this
  ·rw[AC k,AC (by omega)]
 ·rw[AC (by simp;omega),AC (by simp;omega)]
theorem E7{us:List Int}(h:AI us)(j:Nat):AI (us.drop j):=fun x hx=>h x (EJ hx)
theorem Dm{us:List Int}(h:AI us)(j:Nat):AI (us.take j):=fun x hx=>h x (Cg hx)
theorem IT{us:List Int}(hu:AI us){n:Nat}{V:Int}(hV:V<=4294967296^n)(h:Aa us<V):Aa (us.drop n)=0:=by
 have h0:=AK (E7 hu n);rcases Ck n us.length with g | g
 ·have e:=Df us (Qe g);have h1:=AK (Dm hu n);have hp:=Cc n;apply Int.le_antisymm ?_ h0;apply Ka.1;intro hc;have:=Ah (show 1<=Aa (us.drop n) by omega) (show (0:Int)<=4294967296^n by omega);omega
 ·exact DB g
theorem Fv{us:List Int}(hu:AI us)(n:Nat):Aa (us.take n)<4294967296^n:=by
 have h:=D4 (Dm hu n);exact RV h (Fq (by simp;omega))
def F7(g:Int)(vs:List Int)(j:Nat):Nat->Nat->List Int->Int->Int->List Int × Int × Int
 | 0,_,us,b,c=>(us,b,c)
 | r+1,i,us,b,c=>F7 g vs j r (i+1) (us.set (i+j) ((us.getD (i+j) 0-(g*vs.getD i 0+c) % 4294967296-b) % 4294967296))
   (if us.getD (i+j) 0-(g*vs.getD i 0+c) % 4294967296-b<0 then 1 else 0) ((g*vs.getD i 0+c) / 4294967296)
theorem Vw{g v c:Int}(hg:0<=g/\g<4294967296)(hv:0<=v/\v<4294967296)(hc:0<=c/\c<4294967296):0<=g*v+c/\g*v+c<18446744073709551616:=by
 have h1:=A1 hg.1 hv.1;have h2:=Ei (show g<=4294967295 by omega) (show v<=4294967295 by omega) hv.1 (by omega);omega
theorem Vx{g:Int}{vs:List Int}{j:Nat}(hg:0<=g/\g<4294967296)(hv:AI vs):∀ (r i:Nat) (us:List Int) (b c:Int),r+i=vs.length->j+vs.length<=us.length->AI us->0<=b/\b<=1->0<=c/\c<4294967296 ->
  (F7 g vs j r i us b c).1.length=us.length/\AI (F7 g vs j r i us b c).1/\(0<=(F7 g vs j r i us b c).2.1/\(F7 g vs j r i us b c).2.1<=1)/\(0<=(F7 g vs j r i us b c).2.2/\(F7 g vs j r i us b c).2.2<4294967296) /\
  Aa (F7 g vs j r i us b c).1=Aa us-4294967296^(i+j)*(g*Aa (vs.drop i)+b+c)+4294967296^(j+vs.length)*((F7 g vs j r i us b c).2.1+(F7 g vs j r i us b c).2.2) /\
  ∀ t,t<i+j\/j+vs.length<=t->(F7 g vs j r i us b c).1.getD t 0=us.getD t 0:=by
 intro r;induction r with
 | zero =>
  intro i us b c hi _ hu hb hc;refine⟨rfl,hu,hb,hc,?_,fun t _=>rfl⟩;have:i=vs.length:=by omega
  subst this;rw[DB (Am _),H'];simp only[F7,AG,Db];omega
 | succ r ih =>
  intro i us b c hi hl hu hb hc;have hvi:=AA hv i;have hui:=AA hu (i+j);have hw:=Vw hg hvi hc;simp only[F7];generalize hp:g*vs.getD i 0+c=p at *
  generalize hd:us.getD (i+j) 0-p % 4294967296-b=d at *
  obtain⟨g1,g2,g3,g4,g5,g6⟩:=ih (i+1) (us.set (i+j) (d % 4294967296)) (if d<0 then 1 else 0) (p / 4294967296) (by omega) (by simpa using hl) (Cq hu (by omega)) (by split <;> omega) (by omega);refine⟨by simpa using g1,g2,g3,g4,?_,fun t ht => ?_⟩
  ·rw[g5,DA _ _ _ (by omega),C2 vs i,show i+1+j=(i+j)+1 by omega,Ay];generalize (4294967296:Int)^(i+j)=P at *
   generalize Aa (vs.drop (i+1))=V at *
   have e1:d % 4294967296=d+4294967296*(if d<0 then 1 else 0):=by split <;> omega
   rw[e1];generalize (if d<0 then (1:Int) else 0)=k at *
   have e2:p=4294967296*(p / 4294967296)+p % 4294967296:=by omega
   generalize p / 4294967296=ph at *
   generalize p % 4294967296=pl at *
   generalize us.getD (i+j) 0=u at *
   generalize vs.getD i 0=v at *
   have e3:d=u-pl-b:=by omega
   have e4:c=4294967296*ph+pl-g*v:=by omega
   subst e3;rw[e4];grind
  ·rw[g6 t (by omega),Cm (by omega)]
def H9(vs:List Int)(j:Nat):Nat->Nat->List Int->Int->List Int × Int
 | 0,_,us,c=>(us,c)
 | r+1,i,us,c=>H9 vs j r (i+1) (us.set (i+j) ((us.getD (i+j) 0+vs.getD i 0+c) % 4294967296)) ((us.getD (i+j) 0+vs.getD i 0+c) / 4294967296)
theorem Vy{vs:List Int}{j:Nat}(hv:AI vs):∀ (r i:Nat) (us:List Int) (c:Int),r+i=vs.length->j+vs.length<=us.length->AI us->0<=c/\c<=1 ->
  (H9 vs j r i us c).1.length=us.length/\AI (H9 vs j r i us c).1/\(0<=(H9 vs j r i us c).2/\(H9 vs j r i us c).2<=1) /\
  Aa (H9 vs j r i us c).1=Aa us+4294967296^(i+j)*(Aa (vs.drop i)+c)-4294967296^(j+vs.length)*(H9 vs j r i us c).2 /\
  ∀ t,t<i+j\/j+vs.length<=t->(H9 vs j r i us c).1.getD t 0=us.getD t 0:=by
 intro r;induction r with
 | zero =>
  intro i us c hi _ hu hc;refine⟨rfl,hu,hc,?_,fun t _=>rfl⟩;have:i=vs.length:=by omega
  subst this;rw[DB (Am _),H'];simp only[H9,Db];omega
 | succ r ih =>
  intro i us c hi hl hu hc;have hvi:=AA hv i;have hui:=AA hu (i+j);simp only[H9];generalize hd:us.getD (i+j) 0+vs.getD i 0+c=d at *
  obtain⟨g1,g2,g3,g4,g5⟩:=ih (i+1) (us.set (i+j) (d % 4294967296)) (d / 4294967296) (by omega) (by simpa using hl) (Cq hu (by omega)) (by omega);refine⟨by simpa using g1,g2,g3,?_,fun t ht => ?_⟩
  ·rw[g4,DA _ _ _ (by omega),C2 vs i,show i+1+j=(i+j)+1 by omega,Ay];generalize (4294967296:Int)^(i+j)=P at *
   generalize Aa (vs.drop (i+1))=V at *
   have e2:d=4294967296*(d / 4294967296)+d % 4294967296:=by omega
   generalize d / 4294967296=ph at *
   generalize d % 4294967296=pl at *
   generalize us.getD (i+j) 0=u at *
   generalize vs.getD i 0=v at *
   have e3:c=4294967296*ph+pl-u-v:=by omega
   rw[e3];grind
  ·rw[g5 t (by omega),Cm (by omega)]
structure Dig (n:Nat) (V W w nxt x y z:Int):Prop where
 vlow:0<=V-(w*4294967296+nxt)*4294967296^n/\V-(w*4294967296+nxt)*4294967296^n<4294967296^n
 wlow:0<=W-((x*4294967296+y)*4294967296+z)*4294967296^n/\W-((x*4294967296+y)*4294967296+z)*4294967296^n<4294967296^n
 htop:2147483648<=w/\w<4294967296
 hnxt:0<=nxt/\nxt<4294967296
 hx:0<=x/\x<4294967296
 hy:0<=y/\y<4294967296
 hz:0<=z/\z<4294967296
 small:W<4294967296*V
structure DigI (V W w num g r:Int):Prop where
 sum:g*w+r=num
 r0:0<=r
 g0:0<=g
 up:W<(g+1)*V
 gle:g<=4294967297
section
variable {n:Nat} {V W w nxt x y z:Int}
theorem Dig.x_le(h:Dig n V W w nxt x y z):x<=w:=by
 have hp:=Cc n;obtain⟨h1,h2⟩:=h.vlow;obtain⟨h3,h4⟩:=h.wlow;have:=h.hnxt;have:=h.hy;have:=h.hz;have hs:=h.small;apply Ka.1;intro hx;generalize (4294967296:Int)^n=P at *
 have e1:(x*4294967296+y)*4294967296+z>=(w+1)*4294967296*4294967296:=by omega
 have e2:=Ad e1 (show 0<=P by omega);have e3:w*4294967296+nxt+1<=(w+1)*4294967296:=by omega
 have e4:=Ad e3 (show 0<=P by omega);have e5:(w+1)*4294967296*4294967296*P=4294967296*((w+1)*4294967296*P):=by grind
 have e6:(w*4294967296+nxt+1)*P=(w*4294967296+nxt)*P+P:=by grind
 omega
theorem Dig.Vpos(h:Dig n V W w nxt x y z):4294967296*4294967296^n<=V:=by
 have hp:=Cc n;obtain⟨h1,h2⟩:=h.vlow;have:=h.hnxt;have:=h.htop;generalize (4294967296:Int)^n=P at *
 have:=Ad (show (4294967296:Int)<=w*4294967296+nxt by omega) (show 0<=P by omega);omega
theorem Dig.init(h:Dig n V W w nxt x y z):DigI V W w (x*4294967296+y) ((x*4294967296+y) / w) ((x*4294967296+y) % w):=by
 have hxl:=h.x_le;have ht:=h.htop;have hx:=h.hx;have hy:=h.hy;have e:=Gj (x*4294967296+y) w;have r0:=EK (x*4294967296+y) (show w ≠ 0 by omega);have r1:=DU (x*4294967296+y) (show 0<w by omega);have g0:0<=(x*4294967296+y) / w:=IV (by omega) (by omega);have g1:(x*4294967296+y) / w<=4294967297:=by
  apply Int.lt_add_one_iff.1;apply JQ (by omega);omega
 generalize hg:(x*4294967296+y) / w=g at *
 generalize hr:(x*4294967296+y) % w=r at *
 refine⟨by rw[AD];exact e,r0,g0,?_,g1⟩;have hp:=Cc n;obtain⟨h1,h2⟩:=h.vlow;obtain⟨h3,h4⟩:=h.wlow;have hnx:=h.hnxt;have hz:=h.hz;generalize (4294967296:Int)^n=P at *
 have e1:x*4294967296+y+1<=(g+1)*w:=by
  have:(g+1)*w=w*g+w:=by grind
  omega
 have e2:(x*4294967296+y)*4294967296+z+1<=(x*4294967296+y+1)*4294967296:=by omega
 have e3:=Ad e2 (show 0<=P by omega);have e4:=Ad e1 (show 0<=4294967296*P by omega);have e5:w*(4294967296*P)<=V:=by
  have:(w*4294967296+nxt)*P=w*(4294967296*P)+nxt*P:=by grind
  have:=A1 hnx.1 (show 0<=P by omega);omega
 have e6:=Ah e5 (show 0<=g+1 by omega);have e7:(g+1)*(w*(4294967296*P))=(g+1)*w*(4294967296*P):=by grind
 have e8:((x*4294967296+y)*4294967296+z+1)*P=((x*4294967296+y)*4294967296+z)*P+P:=by grind
 have e9:(x*4294967296+y+1)*4294967296*P=(x*4294967296+y+1)*(4294967296*P):=by grind
 omega
theorem Dig.step(h:Dig n V W w nxt x y z){g r:Int}(i:DigI V W w (x*4294967296+y) g r)(hc:4294967296<=g\/r*4294967296+z<g*nxt):DigI V W w (x*4294967296+y) (g-1) (r+w):=by
 have ht:=h.htop;have hVp:=h.Vpos;have hp:=Cc n;have e0:(g-1)*w+(r+w)=g*w+r:=by grind
 have hg1:1<=g:=by
  rcases hc with h1 | h1
  ·omega
  ·apply Ka.1;intro hg;have:g=0:=by have:=i.g0;omega
   subst this;have:=i.r0;have:=h.hz;omega
 refine⟨by rw[e0];exact i.sum,by have:=i.r0;omega,by omega,?_,by have:=i.gle;omega⟩;rw[Int.sub_add_cancel];obtain⟨h1,h2⟩:=h.vlow;obtain⟨h3,h4⟩:=h.wlow;have hs:=h.small;rcases hc with hc | hc
 ·have:=Ad hc (show 0<=V by omega);omega
 ·have hsum:=i.sum;rw[<- hsum] at h3 h4;generalize (4294967296:Int)^n=P at *
  have e1:(g*w+r)*4294967296+z+1<=g*(w*4294967296+nxt):=by
   have:g*(w*4294967296+nxt)=g*w*4294967296+g*nxt:=by grind
   omega
  have e2:=Ad e1 (show 0<=P by omega);have e3:(w*4294967296+nxt)*P<=V:=by omega
  have e4:=Ah e3 (show 0<=g by omega);have e5:g*(w*4294967296+nxt)*P=g*((w*4294967296+nxt)*P):=by grind
  have e6:((g*w+r)*4294967296+z+1)*P=((g*w+r)*4294967296+z)*P+P:=by grind
  omega
theorem Dig.small_g(h:Dig n V W w nxt x y z){g r:Int}(i:DigI V W w (x*4294967296+y) g r)(hr:4294967296<=r):g<4294967296:=by
 have hxl:=h.x_le;have ht:=h.htop;have hy:=h.hy;apply H7.1;intro hg;have:=Ad hg (show 0<=w by omega);have:=i.sum;omega
theorem Dig.out(h:Dig n V W w nxt x y z){g r:Int}(i:DigI V W w (x*4294967296+y) g r)(hg:g<4294967296)(hc:4294967296<=r\/g*nxt<=r*4294967296+z):g*V<W+V:=by
 have ht:=h.htop;have hVp:=h.Vpos;have hp:=Cc n;have hnx:=h.hnxt;have hz:=h.hz;have hc':g*nxt<=r*4294967296+z:=by
  rcases hc with hc | hc
  ·have:=Ei (show g<=4294967295 by omega) (show nxt<=4294967295 by omega) hnx.1 (by omega);omega
  ·exact hc
 obtain⟨h1,h2⟩:=h.vlow;obtain⟨h3,h4⟩:=h.wlow;have hsum:=i.sum;have hg0:=i.g0;rw[<- hsum] at h3 h4;generalize (4294967296:Int)^n=P at *
 have e1:g*(w*4294967296+nxt)<=(g*w+r)*4294967296+z:=by
  have:g*(w*4294967296+nxt)=g*w*4294967296+g*nxt:=by grind
  omega
 have e2:=Ad e1 (show 0<=P by omega);have e5:g*(w*4294967296+nxt)*P=g*((w*4294967296+nxt)*P):=by grind
 have e6:=Ei (Aw hg) (show V-(w*4294967296+nxt)*P<=P by omega) (by omega) (show (0:Int)<=4294967296 by omega);have e7:g*(V-(w*4294967296+nxt)*P)=g*V-g*((w*4294967296+nxt)*P):=by grind
 have e8:g*(V-(w*4294967296+nxt)*P)<4294967296*P:=by
  rcases Int.lt_or_eq_of_le hg0 with q | q
  ·have:=Js h2 q;have:=Ad (Aw hg) (show 0<=P by omega);omega
  ·rw[<- q,DF];omega
 omega
end
theorem qP{us vs:List Int}{j m:Nat}(hu:AI us)(hv:AI vs)(hm:vs.length=m+2)(hj:j+m+2<us.length)(ht:2147483648<=vs.getD (m+1) 0)(hW:Aa (us.drop (j+1))<Aa vs) :
  Dig m (Aa vs) (Aa (us.drop j)) (vs.getD (m+1) 0) (vs.getD m 0) (us.getD (j+m+2) 0) (us.getD (j+m+1) 0) (us.getD (j+m) 0):=by
 have hV:=D4 hv;have z:=IT (E7 hu (j+1)) (n:=m+2) (V:=Aa vs) (by rw[hm] at hV;omega) hW;rw[Lq] at z;have e1:=Df (us.drop j) (j:=m) (by simp;omega);rw[Lq] at e1;have d1:=C2 us (j+m);have d2:=C2 us (j+m+1);have d3:=C2 us (j+m+2);rw[show j+m+2+1=j+1+(m+2) by omega,z] at d3;have l1:=Fv (E7 hu j) m;have l0:=AK (Dm (E7 hu j) m);have f1:=Df vs (j:=m) (by omega);have c1:=C2 vs m;have c2:=C2 vs (m+1);have c3:=DB (xs:=vs) (i:=m+1+1) (by omega);rw[c3] at c2;have k1:=Fv hv m;have k0:=AK (Dm hv m);have g1:=C2 us j;have gj:=AA hu j;refine⟨?_,?_,⟨ht,(AA hv _).2⟩,AA hv _,AA hu _,AA hu _,AA hu _,by omega⟩
 ·rw[f1,c1,c2,AD (_+_) (4294967296^m)];simp only[AG,B2];rw[show vs.getD (m+1) 0*4294967296+vs.getD m 0=vs.getD m 0+4294967296*vs.getD (m+1) 0 by omega];omega
 ·rw[e1,d1,d2,d3,AD (_+_) (4294967296^m)];simp only[AG,B2];rw[show (us.getD (j+m+2) 0*4294967296+us.getD (j+m+1) 0)*4294967296+us.getD (j+m) 0=us.getD (j+m) 0+4294967296*(us.getD (j+m+1) 0+4294967296*us.getD (j+m+2) 0) by omega];omega
structure StepOk (us vs ws:List Int) (j:Nat) (q:Int):Prop where
 len:ws.length=us.length
 u32:AI ws
 val:Aa ws=Aa us-4294967296^j*(q*Aa vs)
 low:Aa (ws.drop j)<Aa vs
theorem cP{j:Nat}{a b:Int}(h:4294967296^j*a=4294967296^j*b):a=b:=HY (by have:=Cc j;omega) h
theorem Vz{us ws:List Int}{j:Nat}{k:Int}(hl:ws.length=us.length)(hj:j<=us.length)(h:∀ t,t<j->ws.getD t 0=us.getD t 0)(hv:Aa ws=Aa us+4294967296^j*k):Aa (ws.drop j)=Aa (us.drop j)+k:=by
 have e1:=Df us hj;have e2:=Df ws (j:=j) (by omega);rw[wB hl h] at e2;apply cP (j:=j);rw[C1];omega
theorem cQ{us:List Int}{j n:Nat}(hj:j+n<us.length)(hz:Aa (us.drop (j+n+1))=0):Aa (us.drop j)=Aa ((us.drop j).take n)+4294967296^n*us.getD (j+n) 0:=by
 have e1:=Df (us.drop j) (j:=n) (by simp;omega);rw[Lq] at e1;have d1:=C2 us (j+n);rw[hz,AG,B2] at d1;rw[e1,d1]
theorem SS{us vs:List Int}{j:Nat}(hu:AI us)(hv:AI vs)(hj:j+vs.length<us.length)(hW:Aa (us.drop (j+1))<Aa vs){g:Int}(hg:0<=g/\g<4294967296)
  (h1:Aa (us.drop j)<(g+1)*Aa vs) (h2:g*Aa vs<Aa (us.drop j)+Aa vs) :
  let m:=F7 g vs j vs.length 0 us 0 0
  let d:=m.1.getD (j+vs.length) 0-m.2.2-m.2.1
  (d>=0->StepOk us vs (m.1.set (j+vs.length) (d % 4294967296)) j g) /\
  (d<0->StepOk us vs ((H9 vs j vs.length 0 (m.1.set (j+vs.length) (d % 4294967296)) 0).1.set (j+vs.length) (((H9 vs j vs.length 0 (m.1.set (j+vs.length) (d % 4294967296)) 0).1.getD (j+vs.length) 0+(H9 vs j vs.length 0 (m.1.set (j+vs.length) (d % 4294967296)) 0).2) % 4294967296)) j (g-1)/\1<=g):=by
 intro m d;have hVlt:=D4 hv;have z:=IT (E7 hu (j+1)) (n:=vs.length) (V:=Aa vs) (by omega) hW;rw[Lq,show j+1+vs.length=j+vs.length+1 by omega] at z;obtain⟨m1,m2,m3,m4,m5,m6⟩:=Vx hg hv vs.length 0 us 0 0 (by omega) (show j+vs.length<=us.length by omega) hu (by omega) (by omega);change m.1.length=us.length at m1;change AI m.1 at m2;change 0<=m.2.1/\m.2.1<=1 at m3;change 0<=m.2.2/\m.2.2<4294967296 at m4;change Aa m.1=Aa us-4294967296^(0+j)*(g*Aa (vs.drop 0)+0+0)+4294967296^(j+vs.length)*(m.2.1+m.2.2) at m5;change ∀ t,t<0+j\/j+vs.length<=t->m.1.getD t 0=us.getD t 0 at m6;have hd:d=m.1.getD (j+vs.length) 0-m.2.2-m.2.1:=rfl;clear_value d;generalize hms:m.1=ms at *
 generalize m.2.1=b at *
 generalize m.2.2=c at *
 rw[BR,EP,B2,B2] at m5;have m6':=m6 (j+vs.length) (by omega);have w1:Aa (ms.drop j)=Aa (us.drop j)+(4294967296^vs.length*(b+c)-g*Aa vs):=by
  apply Vz m1 (by omega) (fun t ht=>m6 t (by omega));rw[m5,B4,HG,AB];omega
 have zz:Aa (ms.drop (j+vs.length+1))=0:=by
  have:ms.drop (j+vs.length+1)=us.drop (j+vs.length+1):=by
   apply FS;intro t;rw[AX,AX];have:=m6 (j+vs.length+1+t) (by omega);rw[Z,Z] at this;rcases Ck (j+vs.length+1+t) us.length with k | k
   ·rw[Ae k,Ae (by omega)] at this |-;simpa using this
   ·rw[AC k,AC (by omega)]
  rw[this];exact z
 have w2:=cQ (us:=ms) (j:=j) (n:=vs.length) (by omega) zz;have lo:=Fv (E7 m2 j) vs.length;have lo0:=AK (Dm (E7 m2 j) vs.length);have hx:=AA m2 (j+vs.length);have hX:ms.getD (j+vs.length) 0=d+b+c:=by omega
 rw[hX] at w2;have hp:=Cc vs.length;generalize hP:(4294967296:Int)^vs.length=P at *
 generalize hL:Aa ((ms.drop j).take vs.length)=L at *
 have w3:Aa (us.drop j)-g*Aa vs=L+P*d:=by
  rw[w1] at w2;have e:P*(d+b+c)=P*d+P*(b+c):=by grind
  omega
 have e2:(g+1)*Aa vs=g*Aa vs+Aa vs:=by grind
 have lset:∀ v:Int,Aa (ms.set (j+vs.length) v)=Aa us-4294967296^j*(g*Aa vs)+4294967296^j*(P*(v-d)):=by
  intro v;rw[DA _ _ _ (by omega),m5,hX,B4,hP];grind
 refine⟨fun hge => ?_,fun hlt => ?_⟩
 ·have hd0:d=0\/1<=d:=by omega
  have hd1:d<4294967296:=by omega
  refine⟨by simpa using m1,Cq m2 (by omega),?_,?_⟩
  ·rw[lset,FT hge hd1,SU,AG,AG,B2]
  ·rw[Vz (us:=us) (k := -(g*Aa vs)) (by simpa using m1) (by omega) (fun t ht=>by rw[Cm (by omega)];exact m6 t (by omega)) (by rw[lset,FT hge hd1,SU,AG,AG,B2,DY];omega)];omega
 ·have hg1:1<=g:=by
   apply Ka.1;intro hh;have hg':g=0:=by omega
   have:=AK (E7 hu j);rw[hg',DF] at w3;have:=Ah (show d <= -1 by omega) (show 0<=P by omega);omega
  refine⟨?_,hg1⟩;have hu2:AI (ms.set (j+vs.length) (d % 4294967296)):=Cq m2 (by omega);obtain⟨a1,a2,a3,a4,a5⟩:=Vy hv vs.length 0 (ms.set (j+vs.length) (d % 4294967296)) 0 (by omega) (show j+vs.length<=_ by rw[AS];omega) hu2 (by omega);generalize H9 vs j vs.length 0 (ms.set (j+vs.length) (d % 4294967296)) 0=A at *
  have a6:=a5 (j+vs.length) (by omega);have hlen:A.1.length=us.length:=by rw[a1,AS,m1]
  have hget:(ms.set (j+vs.length) (d % 4294967296)).getD (j+vs.length) 0=d % 4294967296:=by
   simp[Z,show j+vs.length<ms.length by omega]
  rw[hget] at a6;rw[a6];rw[BR,EP,B2,lset,B4,hP] at a4;have aset:∀ v:Int,Aa (A.1.set (j+vs.length) v)=Aa us-4294967296^j*((g-1)*Aa vs)+4294967296^j*(P*(v-d-A.2)):=by
   intro v;rw[DA _ _ _ (by omega),a4,a6,B4,hP];grind
  have hwA:∀ v:Int,Aa ((A.1.set (j+vs.length) v).drop j)=Aa (us.drop j)-(g-1)*Aa vs+P*(v-d-A.2):=by
   intro v;have:=Vz (us:=us) (ws:=A.1.set (j+vs.length) v) (j:=j) (k:=P*(v-d-A.2)-(g-1)*Aa vs) (by simpa using hlen) (by omega) (fun t ht=>by rw[Cm (by omega),a5 t (by omega),Cm (by omega)];exact m6 t (by omega)) (by rw[aset];grind);omega
  have hge0:0<=Aa (us.drop j)-(g-1)*Aa vs:=by
   have:(g-1)*Aa vs=g*Aa vs-Aa vs:=by grind
   omega
  have hltV:Aa (us.drop j)-(g-1)*Aa vs<Aa vs:=by
   have h3:(g-1)*Aa vs=g*Aa vs-Aa vs:=by grind
   have h4:=Ah (show d <= -1 by omega) (show 0<=P by omega);omega
  have hz3:A.2 = -d:=by
   have q0:=hwA 0;have q1:=AK (E7 (Cq a2 (i:=j+vs.length) (v:=0) (by omega)) j);have zz2:Aa ((A.1.set (j+vs.length) 0).drop (j+vs.length+1))=0:=by
    have:(A.1.set (j+vs.length) 0).drop (j+vs.length+1)=ms.drop (j+vs.length+1):=by
     apply FS;intro t;rw[AX,AX];have h5:=a5 (j+vs.length+1+t) (by omega);rw[Cm (by omega)] at h5;have h6:(A.1.set (j+vs.length) 0).getD (j+vs.length+1+t) 0=ms.getD (j+vs.length+1+t) 0:=by rw[Cm (by omega)];exact h5
     rw[Z,Z] at h6;rcases Ck (j+vs.length+1+t) us.length with k | k
     ·rw[Ae (by simp;omega),Ae (by omega)] at h6 |-;simpa using h6
     ·rw[AC (by simp;omega),AC (by omega)]
    rw[this];exact zz
   have q2:=cQ (us:=A.1.set (j+vs.length) 0) (j:=j) (n:=vs.length) (by simp;omega) zz2;have q3:(A.1.set (j+vs.length) 0).getD (j+vs.length) 0=0:=by simp[Z,show j+vs.length<A.1.length by omega]
   have q4:=Fv (E7 (Cq a2 (i:=j+vs.length) (v:=0) (by omega)) j) vs.length;rw[hP] at q2 q4;rw[q3,AG,B2] at q2;rw[q0] at q1 q2;rw[<- q2] at q4;generalize Aa (us.drop j)-(g-1)*Aa vs=X at *
   have e5:P*(0-d-A.2)=P*(-d-A.2):=by rw[Int.zero_sub]
   rw[e5] at q1 q4;have c1 : -d-A.2<1:=by
    apply H7.1;intro hc;have:=Ah hc (show 0<=P by omega);omega
   have c2 : -1 < -d-A.2:=by
    apply H7.1;intro hc;have:=Ah hc (show 0<=P by omega);omega
   omega
  have hv0:(d % 4294967296+A.2) % 4294967296=0:=by omega
  rw[hv0];refine⟨by simpa using hlen,Cq a2 (by omega),?_,?_⟩
  ·rw[aset,show (0:Int)-d-A.2=0 by omega,AG,AG,B2]
  ·rw[hwA,show (0:Int)-d-A.2=0 by omega,AG,B2];exact hltV
end Go.Ai
namespace Go.Proofs.YtajompaehjkgkaaGreat
open Go.Ai
set_option maxRecDepth 100000
open BitVec renaming ofInt->T,ofInt_natCast->JA,or_comm->Of,toNat_ofNat->I3,toNat_or->gN
open Bool renaming false_and->JX,false_eq_true->BX
open Decidable renaming decide->B
open Go.IntKind renaming bits->Aj,i64->R,signed->iR,u32->A4,u64->U,wrap->D
open Int renaming add_mul_ediv_right->A4a,add_zero->B2,ediv_eq_zero_of_lt->DN,emod_nonneg->EK,fdiv->d,fdiv_eq_ediv_of_nonneg->t,mul_comm->AD,mul_emod_mul_of_pos->A3w,mul_le_mul->Ei,mul_lt_mul_of_pos_right->A9,mul_nonneg->A1,mul_zero->AG,natCast_ediv->Aog,natCast_mul->Dj,natCast_pow->Cr,pow_add->B4,pow_nonneg->MZ,toNat->A,toNat_natCast->F,zero_add->Db
open List renaming all_eq_true->Cb,length->Bj,length_pos_iff->An,range->Ao,take->Br
open Nat renaming add_mul->DK,log2->BZ,log2_eq_iff->Qd,log2_lt->Jv,lt_or_ge->Ck,mod_eq_of_lt->Fj,mul_comm->CP,mul_le_mul_right->A8,one_mul->ES,pow_add->C_,pow_le_pow_right->Bm,two_pow_add_eq_or_of_lt->Aum,two_pow_pos->Aug
theorem QE{n:Int}(h:0<=n/\n<4294967296):D A4 n=n:=by rw [Ds];omega
theorem Cx{n:Int}(h:0<=n/\n<18446744073709551616):D U n=n:=by rw [B1];omega
theorem p32:(2:Int)^(min (A 32) (Aj .u64))=4294967296:=by decide
theorem p63:(2:Int)^(min (A 63) (Aj .u64))=9223372036854775808:=by decide
theorem XC(s:Int):d s (2^(min (A 32) (Aj .u64)))=s / 4294967296:=by
 rw[p32,t _ (by decide)]
theorem Aoc(s:Int):d s (2^(min (A 63) (Aj .u64)))=s / 9223372036854775808:=by
 rw[p63,t _ (by decide)]
theorem Li{r x:Int}(hr:0<=r/\r<4294967296)(hx:0<=x/\x<4294967296) :
  D U ((T (Aj .u64) (D U (r*2^(min (A 32) (Aj .u64)))) ||| T (Aj .u64) (D U x)).toNat)=r*4294967296+x:=by
 rw[p32,Cx (n:=r*4294967296) (by omega),Cx (n:=x) (by omega)];have:=Ane (q:=r) (c:=x) (s:=32) hr.1 (by rw[show (2:Int)^32=4294967296 by decide];omega) (by omega) (by rw[show (2:Int)^32=4294967296 by decide];exact hx);rw[show (2:Int)^32=4294967296 by decide] at this;exact this
theorem Aod{q c:Int}{s:Nat}(hq:0<=q)(hs:q*2^s<4294967296)(hs':s<=32)(hc:0<=c/\c<2^s) :
  D A4 ((T (Aj .u32) c ||| T (Aj .u32) (q*2^s)).toNat)=q*2^s+c:=by
 obtain⟨a,rfl⟩:∃ a:Nat,q=a:=⟨q.toNat,by omega⟩;obtain⟨b,rfl⟩:∃ b:Nat,c=b:=⟨c.toNat,by omega⟩;have e1:(a:Int)*2^s=((a*2^s:Nat):Int):=by rw[Dj,Cr];rfl
 have hb:b<2^s:=by
  have:(b:Int)<((2^s:Nat):Int):=by rw[Cr];exact hc.2
  omega
 have h64:2^s<=2^32:=Bm (by decide) hs';have e64:2^32=4294967296:=by decide
 rw[e1] at hs |-;show D A4 ((T 32 (b:Int) ||| T 32 ((a*2^s:Nat):Int)).toNat:Int)=_;rw[Of,gN,JA,JA,I3,I3,Fj (by omega),Fj (by omega),CP a,<- Aum hb,CP (2^s) a,Ds];have hsum:a*2^s+b<4294967296:=by
  have hd:a*2^s+2^s<=2^32:=by
   have hk:2^32=2^(32-s)*2^s:=by rw[<- C_];congr 1;omega
   have h1:a<2^(32-s):=by
    rcases Ck a (2^(32-s)) with g | g
    ·exact g
    ·have:=A8 (2^s) g;omega
   have h2:=A8 (2^s) (show a+1<=2^(32-s) by omega);rw[DK,ES] at h2;omega
  omega
 omega
theorem QF{s:Nat}(hs:s<=32):(4294967296:Int)=2^(32-s)*2^s:=by rw [<- B4,show 32-s+s=32 by omega];decide
theorem V0{x:Int}{s:Nat}(hx:0<=x/\x<4294967296)(hs:s<32) :
  0<=x*2^s/\x*2^s<18446744073709551616/\x*2^s / 4294967296<2^s/\∃ q:Int,0<=q/\x*2^s % 4294967296=q*2^s:=by
 have hp:=B7 s;have hp2:(2:Int)^s<=2147483648:=by
  have:=FP (show s<=31 by omega);rwa [show (2:Int)^31=2147483648 by decide] at this
 have h0:=A1 hx.1 (show (0:Int)<=2^s by omega);have h1:=Ei (show x<=4294967295 by omega) hp2 (by omega) (by omega);have h2:=A9 hx.2 hp;refine⟨h0,by omega,by omega,?_⟩;have e:(4294967296:Int)=2^(32-s)*2^s:=by
  rw[<- B4,show 32-s+s=32 by omega];decide
 refine⟨x % 2^(32-s),EK _ (by have:=B7 (32-s);omega),?_⟩;rw[e,AD x,AD (2^(32-s)),A3w _ _ hp,AD]
def YZ(n:Nat):Nat:=if n=0 then 0 else BZ n+1
def HA(i:Int):Int:=(YZ i.toNat:Nat)
theorem wC:∀ n:Nat,n<256->(Ey[n]?).map (fun c=>(c.toNat:Int))=some ((YZ n:Nat):Int):=by
 have h:(Ao 256).all (fun n=>decide ((Ey[n]?).map (fun c=>(c.toNat:Int))=some ((YZ n:Nat):Int)))=true:=by decide +kernel
 intro n hn;have:=Cb.1 h n (by simpa using hn);simpa using this
theorem QG(x:Int):((if 0<=(IntKind.u8.wrap x) then (Ey)[(A (IntKind.u8.wrap x))]? else none).map fun c=>(c.toNat:Int))=some (HA (IntKind.u8.wrap x)):=by
 have hw:0<=IntKind.u8.wrap x/\IntKind.u8.wrap x<256:=by
  simp only[D,Aj,iR,JX,BX,if_false];omega
 rw[if_pos hw.1];exact wC _ (by omega)
def TI(x:Int):Int :=
 match decide (x>=65536) with
 | true=>(match decide ((d x (2^(min (A 16) (Aj .u32))))>=256) with
 | true=>(D R (24+(D R (HA (IntKind.u8.wrap (d (d x (2^(min (A 16) (Aj .u32)))) (2^(min (A 8) (Aj .u32)))))))))
 | false=>(D R (16+(D R (HA (IntKind.u8.wrap (d x (2^(min (A 16) (Aj .u32))))))))))
 | false=>(match decide (x>=256) with
 | true=>(D R (8+(D R (HA (IntKind.u8.wrap (d x (2^(min (A 8) (Aj .u32)))))))))
 | false=>(D R (0+(D R (HA (IntKind.u8.wrap x))))))
theorem Aoe(x:Int)  : H I 150 [.int .u32 x] (.int .i64 (TI x)):=by
 unfold TI;cases c1:(B (x>=65536))
 ·cases c2:(B (x>=256))
  ·exact Bp (r := .int .i64 (D R (0+(D R (HA (IntKind.u8.wrap x)))))) (ps:=[(B (x>=65536))=false,(B (x>=256))=false,((if 0<=(IntKind.u8.wrap x) then (Ey)[(A (IntKind.u8.wrap x))]? else none).map fun c=>(c.toNat:Int))=some (HA (IntKind.u8.wrap x))]) AM rfl 300 rfl [.b false,.b false,.v (.int .u8 (HA (IntKind.u8.wrap x)))] (by kernel_rfl) ⟨c1,c2,(QG _),trivial⟩
  ·exact Bp (r := .int .i64 (D R (8+(D R (HA (IntKind.u8.wrap (d x (2^(min (A 8) (Aj .u32)))))))))) (ps:=[(B (x>=65536))=false,(B (x>=256))=true,¬ (8:Int)<0,((if 0<=(IntKind.u8.wrap (d x (2^(min (A 8) (Aj .u32))))) then (Ey)[(A (IntKind.u8.wrap (d x (2^(min (A 8) (Aj .u32))))))]? else none).map fun c=>(c.toNat:Int))=some (HA (IntKind.u8.wrap (d x (2^(min (A 8) (Aj .u32))))))]) AM rfl 300 rfl [.b false,.b true,.v (.int .u8 (HA (IntKind.u8.wrap (d x (2^(min (A 8) (Aj .u32)))))))] (by kernel_rfl) ⟨c1,c2,(by decide),(QG _),trivial⟩
 ·cases c2:(B ((d x (2^(min (A 16) (Aj .u32))))>=256))
  ·exact Bp (r := .int .i64 (D R (16+(D R (HA (IntKind.u8.wrap (d x (2^(min (A 16) (Aj .u32)))))))))) (ps:=[(B (x>=65536))=true,¬ (16:Int)<0,(B ((d x (2^(min (A 16) (Aj .u32))))>=256))=false,((if 0<=(IntKind.u8.wrap (d x (2^(min (A 16) (Aj .u32))))) then (Ey)[(A (IntKind.u8.wrap (d x (2^(min (A 16) (Aj .u32))))))]? else none).map fun c=>(c.toNat:Int))=some (HA (IntKind.u8.wrap (d x (2^(min (A 16) (Aj .u32))))))]) AM rfl 300 rfl [.b true,.b false,.v (.int .u8 (HA (IntKind.u8.wrap (d x (2^(min (A 16) (Aj .u32)))))))] (by kernel_rfl) ⟨c1,(by decide),c2,(QG _),trivial⟩
  ·exact Bp (r := .int .i64 (D R (24+(D R (HA (IntKind.u8.wrap (d (d x (2^(min (A 16) (Aj .u32)))) (2^(min (A 8) (Aj .u32)))))))))) (ps:=[(B (x>=65536))=true,¬ (16:Int)<0,(B ((d x (2^(min (A 16) (Aj .u32))))>=256))=true,¬ (8:Int)<0,((if 0<=(IntKind.u8.wrap (d (d x (2^(min (A 16) (Aj .u32)))) (2^(min (A 8) (Aj .u32))))) then (Ey)[(A (IntKind.u8.wrap (d (d x (2^(min (A 16) (Aj .u32)))) (2^(min (A 8) (Aj .u32))))))]? else none).map fun c=>(c.toNat:Int))=some (HA (IntKind.u8.wrap (d (d x (2^(min (A 16) (Aj .u32)))) (2^(min (A 8) (Aj .u32))))))]) AM rfl 300 rfl [.b true,.b true,.v (.int .u8 (HA (IntKind.u8.wrap (d (d x (2^(min (A 16) (Aj .u32)))) (2^(min (A 8) (Aj .u32)))))))] (by kernel_rfl) ⟨c1,(by decide),c2,(by decide),(QG _),trivial⟩
theorem Aof(x l:Int)(n1:H I 150 [.int .u32 x] (.int .i64 l)):H I 188 [.int .u32 x] (.int .i64 (D R (32-l))):=i (fn:=Vb) AM rfl 400 rfl [.r (.int .i64 l)] (L n1 a0)
theorem A4g(n na:Bool)(xs as1:List Int)(v:Int)(n1:Bj (lm as1)=as1.length*1)
  (n2:as1.length<=35184372088832)
  (n3:H I 143 [.agg [.bool n,sL lm xs]] (.tup [.bool na,sL lm as1]))
  (n4:H I 152 [.bool false,sL lm as1] (Ab v)):H I 160 [.agg [.bool n,sL lm xs]] (Ab v) :=
 i (fn:=UQ) AM rfl 400 rfl [.r (.tup [.bool na,sL lm as1]),.r (Ab v)] (L n3 (L n1 (L n2 (L n4 a0)))) (by kernel_rfl)
theorem A4h(n na:Bool)(xs as1:List Int)(n1:H I 143 [.agg [.bool n,sL lm xs]] (.tup [.bool na,sL lm as1])):H I 177 [.agg [.bool n,sL lm xs]] (.int .i64 (as1.length:Int)) :=
 i (fn:=UT) AM rfl 400 rfl [.r (.tup [.bool na,sL lm as1])] (L n1 a0) (by kernel_rfl)
theorem jP(n na:Bool)(xs as1:List Int)(c1:((as1.length:Int)==0)=true)(n1:H I 143 [.agg [.bool n,sL lm xs]] (.tup [.bool na,sL lm as1])):H I 102 [.agg [.bool n,sL lm xs]] (.int .i64 0):=i (fn:=Ry) AM rfl 400 rfl [.r (.tup [.bool na,sL lm as1]),.b true] (L n1 (L c1 a0))
theorem jQ(n na:Bool)(xs as1:List Int)(l:Int)(c1:((as1.length:Int)==0)=false)(n1:0<=(D R ((as1.length:Int)-1))/\(D R ((as1.length:Int)-1))<(as1.length:Int))(n2:H I 143 [.agg [.bool n,sL lm xs]] (.tup [.bool na,sL lm as1]))(n3:H I 150 [.int .u32 (as1.getD (A (D R ((as1.length:Int)-1))) 0)] (.int .i64 l)):H I 102 [.agg [.bool n,sL lm xs]] (.int .i64 (D R ((D R (32*(D R ((as1.length:Int)-1))))+l))):=i (fn:=Ry) AM rfl 400 rfl [.r (.tup [.bool na,sL lm as1]),.b false,.v (.int .u32 (as1.getD (A (D R ((as1.length:Int)-1))) 0)),.r (.int .i64 l)] (L n2 (L c1 (L n1 (L (y n1) (L n3 a0)))))
theorem GA(n k:Nat)(h:n / 2^k ≠ 0):BZ n=BZ (n / 2^k)+k:=by
 have hn:n ≠ 0:=by intro e;subst e;simp at h
 have:=(Qd h).1 rfl;rw[Qd hn];generalize BZ (n / 2^k)=j at *
 have hp:0<2^k:=Aug k;constructor
 ·rw[C_];exact (Nat.le_div_iff_mul_le hp).1 this.1
 ·have:n<2^(j+1)*2^k:=(Nat.div_lt_iff_lt_mul hp).1 this.2;rw[<- C_] at this;have e:j+k+1=j+1+k:=by omega
  rw[e];exact this
theorem wD(v:Nat)(h:v<256)(h0:v ≠ 0):HA (IntKind.u8.wrap (v:Int))=((BZ v+1:Nat):Int):=by
 have hw:IntKind.u8.wrap (v:Int)=v:=by
  simp only[D,Aj,iR,JX,BX,if_false];omega
 rw[hw];unfold HA YZ;rw[F,if_neg h0]
theorem jR(n:Nat)(k:Nat)(hk:k<=32):d (n:Int) (2^(min (A (k:Int)) (Aj .u32)))=((n / 2^k:Nat):Int):=by
 have e:min (A (k:Int)) (Aj .u32)=k:=by
  show min (A (k:Int)) 32=k;rw[F];omega
 rw[e,t _ (MZ (by omega))];have:(2:Int)^k=((2^k:Nat):Int):=by simp
 rw[this,<- Aog]
theorem wE(n:Nat)(h:n<4294967296)(h0:n ≠ 0):TI (n:Int)=((BZ n+1:Nat):Int):=by
 have s16 (n:Nat):d (n:Int) (2^(min (A 16) (Aj .u32)))=((n / 2^16:Nat):Int):=jR n 16 (by omega);have s8 (n:Nat):d (n:Int) (2^(min (A 8) (Aj .u32)))=((n / 2^8:Nat):Int):=jR n 8 (by omega);have fin (v c:Nat) (hv:v<256) (hv0:v ≠ 0) (hc:c<=56):D R ((c:Int)+D R (HA (IntKind.u8.wrap (v:Int))))=((BZ v+1+c:Nat):Int):=by
  have:BZ v<8:=(Jv hv0).2 hv;rw[wD v hv hv0,AW (n:=((BZ v+1:Nat):Int)) (by omega) (by omega),AW (by omega) (by omega)];omega
 unfold TI;simp only[s16,s8];by_cases b:n<65536
 ·have b':decide ((n:Int)>=65536)=false:=by simp;omega
  rw[b'];by_cases c:n<256
  ·have c':decide ((n:Int)>=256)=false:=by simp;omega
   rw[c'];exact fin n 0 c h0 (by omega)
  ·have c':decide ((n:Int)>=256)=true:=by simp;omega
   rw[c',GA n 8 (by omega)];have:=fin (n / 2^8) 8 (by omega) (by omega) (by omega);exact this.trans (by omega)
 ·have b':decide ((n:Int)>=65536)=true:=by simp;omega
  rw[b'];dsimp only;by_cases c:n / 2^16<256
  ·have c':decide (((n / 2^16:Nat):Int)>=256)=false:=by simp;omega
   rw[c',GA n 16 (by omega)];have:=fin (n / 2^16) 16 (by omega) (by omega) (by omega);exact this.trans (by omega)
  ·have c':decide (((n / 2^16:Nat):Int)>=256)=true:=by simp;omega
   rw[c',GA n 16 (by omega),GA (n / 2^16) 8 (by omega)];have:=fin (n / 2^16 / 2^8) 24 (by omega) (by omega) (by omega);exact this.trans (by omega)
theorem V3{n:Nat}(h:n<4294967296)(h0:n ≠ 0):H I 150 [.int .u32 (n:Nat)] (.int .i64 ((BZ n+1:Nat):Int)):=by
 have:=Aoe (n:Nat);rwa [wE n h h0] at this
theorem qQ{x:Int}(hx:0<x/\x<4294967296):∃ s:Nat,s<32/\2147483648<=x*2^s/\x*2^s<4294967296/\H I 188 [.int .u32 x] (.int .i64 (s:Nat)):=by
 obtain⟨n,rfl⟩:∃ n:Nat,x=n:=⟨x.toNat,by omega⟩;have hn0:n ≠ 0:=by omega
 have hl:=(Qd hn0).1 rfl;have hlt:BZ n<32:=(Jv hn0).2 (by omega);refine⟨31-BZ n,by omega,?_,?_,?_⟩
 ·have:2^31<=n*2^(31-BZ n):=by
   have h:=A8 (2^(31-BZ n)) hl.1;rwa [<- C_,show BZ n+(31-BZ n)=31 by omega] at h
  have e:(n:Int)*2^(31-BZ n)=((n*2^(31-BZ n):Nat):Int):=by rw[Dj,Cr];rfl
  rw[e];omega
 ·have:n*2^(31-BZ n)<2^32:=by
   have h:=Nat.mul_lt_mul_of_pos_right hl.2 (Aug (31-BZ n));rwa [<- C_,show BZ n+1+(31-BZ n)=32 by omega] at h
  have e:(n:Int)*2^(31-BZ n)=((n*2^(31-BZ n):Nat):Int):=by rw[Dj,Cr];rfl
  rw[e];omega
 ·have h:=Aof (n:Nat) _ (V3 (by omega) hn0);rw[AW (by omega) (by omega)] at h;rwa [show (32:Int)-((BZ n+1:Nat):Int)=((31-BZ n:Nat):Int) by omega] at h
theorem V4{neg:Bool}{xs:List Int}(hu:AI xs)(hN:xs.length<=1048576):H I 177 [.agg [.bool neg,sL lm xs]] (.int .i64 (((G (rv neg xs).natAbs).length:Nat):Int)) :=
 A4h neg _ xs _ (CZ hu hN)
theorem RW{neg:Bool}{xs:List Int}(hu:AI xs)(hN:xs.length<=1048576):H I 160 [.agg [.bool neg,sL lm xs]] (Ab ((rv neg xs).natAbs:Nat)):=by
 have l1:=Es (neg:=neg) hu;have h:=DD (neg:=false) (BC (rv neg xs).natAbs) (by omega);rw[Ayc] at h;exact A4g neg _ xs _ _ (TG _) (by omega) (CZ hu hN) h
def C9(n:Nat):Nat:=if n=0 then 0 else BZ n+1
theorem XD{n:Nat}(h:n ≠ 0):1<=(G n).length/\∃ x:Nat,(G n).getD ((G n).length-1) 0=x/\x ≠ 0/\x<4294967296/\n / 2^(32*((G n).length-1))=x:=by
 have hc:=Cj n;have hn0:G n ≠ []:=by rw[Ne,Io];exact h
 have hl:=An.2 hn0;have ht:=AA hc.1 ((G n).length-1);have hz:(G n).getD ((G n).length-1) 0 ≠ 0:=by
  rcases hc.2 with g | g
  ·exact absurd g hn0
  ·exact g
 have hs:=Df (G n) (j:=(G n).length-1) (by omega);have hd:=C2 (G n) ((G n).length-1);rw[DB (xs:=G n) (i:=(G n).length-1+1) (by omega),AG,B2] at hd;have h1:=Fv hc.1 ((G n).length-1);have h0:=AK (Dm hc.1 ((G n).length-1));rw[hd,Cs] at hs;generalize (G n).length-1=j at *
 generalize (G n).getD j 0=x at *
 obtain⟨x,rfl⟩:∃ y:Nat,x=y:=⟨x.toNat,by omega⟩;refine⟨hl,x,rfl,by omega,by omega,?_⟩;generalize Aa (Br j (G n))=L at *
 have e:((n / 2^(32*j):Nat):Int)=(x:Int):=by
  rw[Aog,Cr,show ((2:Nat):Int)^(32*j)=4294967296^j by rw[Mu];rfl,hs];have hp:=Cc j;rw[AD (4294967296^j),A4a _ _ (by omega),DN h0 h1,Db]
 omega
theorem Kc{neg:Bool}{xs:List Int}(hu:AI xs)(hN:xs.length<=1048576):H I 102 [.agg [.bool neg,sL lm xs]] (.int .i64 ((C9 (rv neg xs).natAbs:Nat):Int)):=by
 have l1:=Es (neg:=neg) hu;have r1:=CZ (neg:=neg) hu hN;generalize rv neg xs=a at *
 by_cases h0:a.natAbs=0
 ·have h:=jP neg _ xs _ (by rw[h0];rfl) r1;rw[show C9 a.natAbs=0 by unfold C9;rw[if_pos h0]];exact h
 ·obtain⟨t1,x,t2,t3,t4,t5⟩:=XD h0;have e1:D R ((((G a.natAbs).length:Nat):Int)-1)=(((G a.natAbs).length-1:Nat):Int):=by rw[AW (by omega) (by omega)];omega
  have hl:=V3 t4 t3;have h:=jQ neg _ xs (G a.natAbs) _ (by rw[beq_eq_false_iff_ne];omega) (by rw[e1];omega) r1 (by rw[e1,F,t2];exact hl);have hlog:BZ x<32:=(Jv t3).2 t4;rw[e1,AW (n:=32*(((G a.natAbs).length-1:Nat):Int)) (by omega) (by omega),AW (by omega) (by omega)] at h;have e2:C9 a.natAbs=BZ x+1+32*((G a.natAbs).length-1):=by
   unfold C9;rw[if_neg h0,GA a.natAbs (32*((G a.natAbs).length-1)) (by rw[t5];exact t3),t5];omega
  rw[e2];rwa [show 32*(((G a.natAbs).length-1:Nat):Int)+((BZ x+1:Nat):Int)=((BZ x+1+32*((G a.natAbs).length-1):Nat):Int) by omega] at h
end Go.Proofs.YtajompaehjkgkaaGreat
