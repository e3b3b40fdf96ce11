/- Texts of the proof of EntryWithin: part 6 of 13. -/
import Derived.Laws.BitsAllLaws
import Derived.KernelRfl
import Derived.Test.YtajompaehjkgkaaGreatEwn5
namespace Go.Ai
open Go.RowKit
open BitVec renaming ofInt->Aj,toNat_and->Ri,toNat_ofNat->LF,toNat_or->yQ
open Bool renaming and_eq_true->At,false_eq_true->CI
open Decidable renaming decide->E
open Go.IntKind renaming bits->A5,wrap->Q
open Int renaming emod->sO,fdiv->d,natCast_pow->Ea,ofNat->Mw,ofNat_eq_natCast->Mg,sub->AGv,tdiv->AF,tmod->Bl
open List renaming ext_getElem->On,getD_eq_getElem?_getD->Ad,getElem?_append_left->B2,getElem?_append_right->BN,getElem?_eq_getElem->Am,getElem?_replicate->Oe,length->F,rec->rF,replicate->AI
open Nat renaming beq->DF,ble->Wu,ble_eq_true_of_le->yV,blt->Gx,div->Oc,eq_of_beq_eq_true->DZ,le_of_ble_eq_true->yW,le_refl->A2,mod->Wv,mod_eq_of_lt->Hc,rec->PP,sub_zero->Lb,succ->Ra,zero_le->A_
open Option renaming getD_some->H3,map_some->AY
def Y8:Int->Int->Bool
 | .ofNat m,.ofNat n=>Gx m n
 | .ofNat _,.negSucc _=>false
 | .negSucc _,.ofNat _=>true
 | .negSucc m,.negSucc n=>Gx n m
def leI(a b:Int):Bool := !(Y8 b a)
def eR:Int->Int->Bool
 | .ofNat m,.ofNat n=>DF m n
 | .negSucc m,.negSucc n=>DF m n
 | _,_=>false
theorem Mf(m n:Nat):Gx m n=decide (m<n):=by
 cases h:Gx m n
 ·symm;rw[AW];intro a;have:Wu (m+1) n=true:=yV a;rw[Gx] at h;rw[this] at h;cases h
 ·symm;rw[decide_eq_true_iff];exact yW h
theorem YK(a b:Int):Y8 a b=decide (a<b):=by
 cases a with
 | ofNat m=>cases b with
  | ofNat n=>simp only[Y8,Mf];rw[decide_eq_decide];simp only[Mg];omega
  | negSucc n=>simp only[Y8];symm;rw[AW];simp only[Mg];omega
 | negSucc m=>cases b with
  | ofNat n=>simp only[Y8];symm;rw[decide_eq_true_iff];simp only[Mg];omega
  | negSucc n=>simp only[Y8,Mf];rw[decide_eq_decide];omega
theorem ACd(a b:Int):leI a b=decide (a<=b):=by
 simp only[leI,YK];by_cases h:b<a
 ·rw[BP h,Bw (by omega)];rfl
 ·rw[Bw h,BP (by omega)];rfl
theorem Ajs(a b:Int):eR a b=decide (a=b):=by
 cases a with
 | ofNat m=>cases b with
  | ofNat n =>
   simp only[eR];by_cases h:m=n
   ·subst h;simp
   ·have h2:DF m n=false:=by cases c:DF m n with | false=>rfl | true=>exact absurd (DZ c) h
    rw[h2];symm;rw[AW];intro e;exact h (Int.ofNat.inj e)
  | negSucc n=>simp only[eR];symm;rw[AW];intro e;cases e
 | negSucc m=>cases b with
  | ofNat n=>simp only[eR];symm;rw[AW];intro e;cases e
  | negSucc n =>
   simp only[eR];by_cases h:m=n
   ·subst h;simp
   ·have h2:DF m n=false:=by cases c:DF m n with | false=>rfl | true=>exact absurd (DZ c) h
    rw[h2];symm;rw[AW];intro e;exact h (Int.negSucc.inj e)
def sN(n:Int)(m:Nat):Int:=sO n (Mw m)
def gZ(n:Int)(h m:Nat):Int:=cond (Y8 (sO n (Mw m)) (Mw h)) (sO n (Mw m)) (AGv (sO n (Mw m)) (Mw m))
def OY(k:IntKind)(n:Int):Int :=
 match k with
 | .u8=>sN n 256
 | .u16=>sN n 65536
 | .u32=>sN n 4294967296
 | .u64=>sN n 18446744073709551616
 | .i8=>gZ n 128 256
 | .i16=>gZ n 32768 65536
 | .i32=>gZ n 2147483648 4294967296
 | .i64=>gZ n 9223372036854775808 18446744073709551616
theorem A0d(n:Int)(h m:Nat):gZ n h m=if n % (m:Int)>=h then n % (m:Int)-m else n % (m:Int):=by
 unfold gZ;rw[YK];show (cond (E (n % (m:Int)<(h:Int))) (n % (m:Int)) (n % (m:Int)-(m:Int)))=_;by_cases a:n % (m:Int)<h
 ·rw[BP a,Aw (by omega)];rfl
 ·rw[Bw a,Ar (by omega)];rfl
theorem Nm(k:IntKind)(n:Int):OY k n=k.wrap n:=by
 cases k <;> simp[OY,sN,A0d,Q,A5,IntKind.signed] <;> rfl
section
variable {α:Type}
noncomputable def Fm (n:Nat) (k:Nat->α):α:=PP (motive:=fun _=>α) (k 0) (fun m _=>k (Ra m)) n
noncomputable def WG (i:Int) (k:Int->α):α:=Int.rec (motive:=fun _=>α) (fun n=>Fm n fun n=>k (.ofNat n)) (fun n=>Fm n fun n=>k (.negSucc n)) i
noncomputable def Ln (b:Bool) (k:Bool->α):α:=Bool.rec (motive:=fun _=>α) (k false) (k true) b
noncomputable def ID (l:AK):(AK->α)->α:=rF (motive:=fun _=>(AK->α)->α) (fun k=>k []) (fun x _ a k=>a fun xs=>k (x::xs)) l
theorem HZ(n:Nat)(k:Nat->α):Fm n k=k n:=by cases n <;> rfl
theorem nE(i:Int)(k:Int->α):WG i k=k i:=by cases i <;> simp only [WG,HZ]
theorem OZ(b:Bool)(k:Bool->α):Ln b k=k b:=by cases b <;> rfl
theorem Qb(l:AK):∀ k:AK->α,ID l k=k l:=by
 induction l with
 | nil=>intro k;rfl
 | cons x l a=>intro k;exact a _
noncomputable def Mh (x:AV) (k:AV->α):α :=
 match x with
 | .int a n=>WG n fun n=>k (.int a n)
 | .bool b=>Ln b fun b=>k (.bool b)
 | .agg cs=>ID cs fun cs=>k (.agg cs)
 | .sl n cs=>Fm n fun n=>ID cs fun cs=>k (.sl n cs)
 | .fresh m n cs=>Fm n fun n=>ID cs fun cs=>k (.fresh m n cs)
 | .frs (.st b) m n cs=>Ln b fun b=>Fm n fun n=>ID cs fun cs=>k (.frs (.st b) m n cs)
 | .frs (.tp b) m n cs=>Ln b fun b=>Fm n fun n=>ID cs fun cs=>k (.frs (.tp b) m n cs)
 | .pt cs=>ID cs fun cs=>k (.pt cs)
 | .fnc f cs=>ID cs fun cs=>k (.fnc f cs)
 | .tup cs=>ID cs fun cs=>k (.tup cs)
 | x=>k x
theorem RM(x:AV)(k:AV->α):Mh x k=k x:=by
 cases x
 case frs b m n cs=>cases b <;> simp only[Mh,OZ,Qb,HZ]
 all_goals simp only[Mh,nE,OZ,Qb,HZ]
noncomputable def SQ (r:Reg) (k:Reg->α):α :=
 match r with
 | .val x=>Mh x fun x=>k (.val x)
 | .box cs=>ID cs fun cs=>k (.box cs)
 | .ptr d off=>Fm off fun off=>k (.ptr d off)
 | .mem cs=>ID cs fun cs=>k (.mem cs)
 | .own m n cs=>Fm n fun n=>ID cs fun cs=>k (.own m n cs)
 | .agn (.st b) m n cs=>Ln b fun b=>Fm n fun n=>ID cs fun cs=>k (.agn (.st b) m n cs)
 | .agn (.tp b) m n cs=>Ln b fun b=>Fm n fun n=>ID cs fun cs=>k (.agn (.tp b) m n cs)
 | r=>k r
theorem nF(r:Reg)(k:Reg->α):SQ r k=k r:=by
 cases r
 case agn b m n cs=>cases b <;> simp only[SQ,OZ,Qb,HZ]
 all_goals simp only[SQ,RM,Qb,HZ]
end
def Ki(g:Nat->Reg)(o:Opd):Option AV :=
 match o with
 | .t n=>(match g n with | .val x=>some x | _=>none)
 | .c x=>some x
def A0e(g:Nat->Reg):Opd->Reg
 | .t n=>g n
 | .c x => .val x
theorem Vp(s:Az)(o:Opd):Ki (AR s) o=o.av s:=by cases o <;> rfl
theorem A0f(s:Az)(o:Opd):A0e (AR s) o=o.reg s:=by cases o <;> rfl
def Vq(g:Nat->Reg):List Opd->Option (AK)
 | []=>some []
 | o::l=>match Ki g o with
  | none=>none
  | some x=>match Vq g l with
   | none=>none
   | some xs=>some (x::xs)
theorem sP(s:Az):∀ l,Vq (AR s) l=avs s l
 | []=>rfl
 | o::l=>by simp only[Vq,avs,Vp,sP s l];rfl
def WH(g:Nat->Reg):AK->List (Nat × Nat × Opd)->Option (AK)
 | cs,[]=>some cs
 | cs,(off,n,o)::ps =>
  match Ki g o with
  | none=>none
  | some x=>match HY x n with
   | none=>none
   | some a=>match Di cs off a with
    | none=>none
    | some b=>WH g b ps
theorem hH(s:Az):∀ (ps:List (Nat × Nat × Opd)) (cs:AK),WH (AR s) cs ps=HD s cs ps
 | [],cs=>rfl
 | (off,n,o)::ps,cs=>by simp only[WH,HD,Vp,hH s ps];rfl
def TO(g:Nat->Reg)(d:Nat):Option Opd->Option Nat
 | none=>some d
 | some o=>match Ki g o with
  | some (.int _ i)=>cond (Y8 i (.ofNat 0)) none (some i.toNat)
  | _=>none
theorem A0g(s:Az)(d:Nat)(o:Option Opd):TO (AR s) d o=Im s d o:=by
 cases o with
 | none=>rfl
 | some o =>
  simp only[TO,Im,Vp];generalize o.av s=x;cases x with
  | none=>rfl
  | some v =>
   cases v <;> first | rfl | skip
   rename_i k i;dsimp only;rw[YK];show cond (E (i<0)) _ _=_;by_cases h:i<0
   ·rw[BP h,Aw (by omega)];rfl
   ·rw[Bw h,Ar (by omega)];rfl
def isK:IntKind->IntKind->Bool
 | .i8,.i8=>true
 | .i16,.i16=>true
 | .i32,.i32=>true
 | .i64,.i64=>true
 | .u8,.u8=>true
 | .u16,.u16=>true
 | .u32,.u32=>true
 | .u64,.u64=>true
 | _,_=>false
theorem Ajt(k a:IntKind):isK k a=decide (k=a):=by cases k <;> cases a <;> rfl
def Vr:IntKind->Nat
 | .i8=>256 | .u8=>256 | .i16=>65536 | .u16=>65536 | .i32=>4294967296 | .u32=>4294967296 | .i64=>18446744073709551616 | .u64=>18446744073709551616
theorem ZI(k:IntKind):Vr k=2^k.bits:=by cases k <;> rfl
def Qc(f:Nat->Nat->Nat)(op:BinOp)(k:IntKind)(x y:Int):Option AV :=
 match x,y with
 | .ofNat m,.ofNat n=>cond (Gx m (Vr k)&&Gx n (Vr k)) (some (.int k (OY k (.ofNat (f m n))))) ((OR op k x y).map (.int k))
 | _,_=>(OR op k x y).map (.int k)
theorem Gn(w m:Nat)(h:m<2^w):(Aj w (Mw m)).toNat=m:=by
 have:Aj w (Mw m)=BitVec.ofNat w m:=by
  apply BitVec.eq_of_toNat_eq;simp
 rw[this,LF,Hc h]
section
variable(k:IntKind)(x y:Int)
theorem Abe:Qc Nat.land .and k x y=(OR .and k x y).map (.int k):=by
 unfold Qc;split
 ·rename_i m n;cases h:(Gx m (Vr k)&&Gx n (Vr k))
  ·rfl
  ·simp only[Mf,At,AZ,ZI] at h;simp only[cond_true,OR,AY,Nm,Ri,Gn _ _ h.1,Gn _ _ h.2];rfl
 ·rfl
theorem Ami:Qc Nat.lor .or k x y=(OR .or k x y).map (.int k):=by
 unfold Qc;split
 ·rename_i m n;cases h:(Gx m (Vr k)&&Gx n (Vr k))
  ·rfl
  ·simp only[Mf,At,AZ,ZI] at h;simp only[cond_true,OR,AY,Nm,yQ,Gn _ _ h.1,Gn _ _ h.2];rfl
 ·rfl
theorem Abf:Qc Nat.xor .xor k x y=(OR .xor k x y).map (.int k):=by
 unfold Qc;split
 ·rename_i m n;cases h:(Gx m (Vr k)&&Gx n (Vr k))
  ·rfl
  ·simp only[Mf,At,AZ,ZI] at h;simp only[cond_true,OR,AY,Nm,BitVec.toNat_xor,Gn _ _ h.1,Gn _ _ h.2];rfl
 ·rfl
end
def Aju(y:Int)(k:IntKind):Int := .ofNat (Nat.pow 2 (cond (Wu y.toNat k.bits) y.toNat k.bits))
theorem A0h(y:Int)(k:IntKind):Aju y k=2^(min y.toNat k.bits):=by
 unfold Aju;have:cond (Wu y.toNat k.bits) y.toNat k.bits=min y.toNat k.bits:=by
  cases h:Wu y.toNat k.bits
  ·have:¬ y.toNat<=k.bits:=by intro a;rw[yV a] at h;cases h
   simp only[cond_false];omega
  ·have:=yW h;simp only[cond_true];omega
 rw[this];exact Ea 2 _
def Abg(x y:Int):Int :=
 match x,y with
 | .ofNat m,.ofNat n => .ofNat (Oc m n)
 | x,y=>d x y
theorem Amj(x y:Int):Abg x y=d x y:=by
 unfold Abg;split
 next m n=>exact (Int.ofNat_fdiv m n)
 ·rfl
def A0i(op:BinOp)(x y:AV):Option AV :=
 match x,y with
 | .int k a,.int c b=>(match op with
  | .shl=>cond (Y8 b (.ofNat 0)) none (some (.int k (OY k (Int.mul a (Aju b k)))))
  | .shr=>cond (Y8 b (.ofNat 0)) none (some (.int k (Abg a (Aju b k))))
  | op=>cond (isK k c) (match op with
   | .add=>some (.int k (OY k (Int.add a b)))
   | .sub=>some (.int k (OY k (AGv a b)))
   | .mul=>some (.int k (OY k (Int.mul a b)))
   | .quo=>cond (eR b (.ofNat 0)) none (some (.int k (OY k (AF a b))))
   | .rem=>cond (eR b (.ofNat 0)) none (some (.int k (Bl a b)))
   | .and=>Qc Nat.land .and k a b
   | .or=>Qc Nat.lor .or k a b
   | .xor=>Qc Nat.xor .xor k a b
   | .eql=>some (.bool (eR a b))
   | .neq=>some (.bool (!(eR a b)))
   | .lss=>some (.bool (Y8 a b))
   | .leq=>some (.bool (leI a b))
   | .gtr=>some (.bool (Y8 b a))
   | .geq=>some (.bool (leI b a))
   | _=>none) none)
 | _,_=>none
theorem iA{α:Type}(p:Prop)[Decidable p](a b:α):cond (decide p) a b=if p then a else b:=by
 by_cases h:p <;> simp[h]
theorem A0j(a b:Int):(a==b)=decide (a=b):=by
 by_cases h:a=b <;> simp[h]
theorem A0k(op:BinOp)(x y:AV):A0i op x y=Pm op x y:=by
 cases x <;> cases y <;> first | rfl | skip
 rename_i k a c b;cases op <;> simp only[A0i,Pm,Mb,CI,if_false,if_true,Ajt,iA,rH,Aya,AY,Nm,YK,ACd,Ajs,Abe,Ami,Abf,UY,A0h,Amj,gt_iff_lt,ge_iff_le,A0j,bne];all_goals rfl
def unF(op:UnOp)(x:AV):Option AV :=
 match op,x with
 | .neg,.int k n=>some (.int k (OY k (AGv (.ofNat 0) n)))
 | .not,.bool b=>some (.bool (!b))
 | _,_=>none
theorem ACe(op:UnOp)(x:AV):unF op x=unA op x:=by
 cases op <;> cases x <;> simp only[unF,unA,Nm];rfl
def inB(i:Int)(n:Nat):Bool:=match i with | .ofNat m=>Gx m n | .negSucc _=>false
theorem ACf(i:Int)(n:Nat):inB i n=decide (0<=i/\i<(n:Int)):=by
 cases i with
 | ofNat m=>simp only[inB,Mf];rw[decide_eq_decide];simp only[Mg];omega
 | negSucc m=>simp only[inB];symm;rw[AW];omega
def A0l(j:C4)(g:Nat->Reg):K->Option (Reg × List (Nat × Reg))
 | .mov x=>match Ki g x with
  | some v=>some (.val v,[])
  | none=>none
 | .pick c a b =>
  match Ki g c with
  | some (.bool true)=>(Ki g a).map fun v=>(.val v,[])
  | some (.bool false)=>(Ki g b).map fun v=>(.val v,[])
  | _=>none
 | .bin op x y =>
  match Ki g x,Ki g y with
  | some a,some b=>(A0i op a b).map fun v=>(.val v,[])
  | _,_=>none
 | .eqb neg x y =>
  match Ki g x,Ki g y with
  | some (.bool a),some (.bool b)=>some (.val (.bool (if neg then !(a==b) else a==b)),[])
  | _,_=>none
 | .un op x=>match Ki g x with
  | some a=>(unF op a).map fun v=>(.val v,[])
  | none=>none
 | .cv k x=>match Ki g x with
  | some (.int _ n)=>some (.val (.int k (OY k n)),[])
  | _=>none
 | .new z kills=>some (.box z,kills.map fun t=>(t,.dead))
 | .box x kills=>match Ki g x with
  | some (.agg cs)=>some (.box cs,kills.map fun t=>(t,.dead))
  | some x=>if Oo x then some (.box [x],kills.map fun t=>(t,.dead)) else none
  | none=>none
 | .bld z ps=>(WH g z ps).map fun cs=>(.val (.agg cs),[])
 | .bls n z ps=>(WH g z ps).map fun cs=>(.val (.sl n cs),[])
 | .adr x d off=>match g x with
  | .box _=>if x=d then some (.ptr d off,[]) else none
  | .ptr p o=>if p=d then some (.ptr d (o+off),[]) else none
  | .mem cs=>some (.mem (cs.drop off),[])
  | _=>none
 | .ld x d n one=>match g x with
  | .box cs=>if x=d then (BQ cs 0 n one).map fun v=>(.val v,[]) else none
  | .ptr p off=>if p=d then (match g d with
   | .box cs=>(BQ cs off n one).map fun v=>(.val v,[])
   | .own _ _ cs=>(BQ cs off n one).map fun v=>(.val v,[])
   | _=>none) else none
  | .mem cs=>(BQ cs 0 n one).map fun v=>(.val v,[])
  | _=>none
 | .st x d n v=>match Ki g v with
  | none=>none
  | some a=>match HY a n with
   | none=>none
   | some r=>match g x with
    | .box cs=>if x=d then (Di cs 0 r).map fun s=>(.dead,[(d,.box s)]) else none
    | .ptr p off=>if p=d then (match g d with
     | .box cs=>(Di cs off r).map fun s=>(.dead,[(d,.box s)])
     | .own k m cs=>(Di cs off r).map fun s=>(.dead,[(d,.own k m s)])
     | _=>none) else none
    | _=>none
 | .fld x off n one=>match Ki g x with
  | some (.agg cs)=>(BQ cs off n one).map fun v=>(.val v,[])
  | _=>none
 | .ixa x i k=>match Ki g i with
  | some (.int _ i)=>(match g x with
   | .val (.sl n cs)=>cond (inB i n) (some (.mem (cs.drop (i.toNat*k)),[])) none
   | _=>none)
  | _=>none
 | .six x i=>match Ki g x,Ki g i with
  | some (.str b),some (.int _ i)=>(if 0<=i then b[i.toNat]? else none).map fun c=>(.val (.int .u8 c.toNat),[])
  | _,_=>none
 | .ext x i=>match Ki g x with
  | some (.tup vs)=>(vs[i]?).map fun v=>(.val v,[])
  | _=>none
 | .len x=>match Ki g x with
  | some .nil=>some (.val (.int .i64 0),[])
  | some (.sl n _)=>some (.val (.int .i64 n),[])
  | _=>none
 | .mx xs=>match Vq g xs with
  | some (.int k n::l)=>(gC k n l).map fun m=>(.val (.int k m),[])
  | _=>none
 | .mn xs=>match Vq g xs with
  | some (.int k n::l)=>(gD k n l).map fun m=>(.val (.int k m),[])
  | _=>none
 | .call f xs=>match Vq g xs with
  | some vs=>(j f vs).map fun v=>(.val (N5 v),[])
  | none=>none
 | .clo f xs=>match Vq g xs with
  | some vs=>(j f vs).map fun v=>(Hi v,[])
  | none=>none
 | .brw f x d=>match g x with
  | .dup p=>if p=d then (match g d with
   | .own _ n cs=>if cs.all (fun c => !Zm c) then (match j f [.sl n cs] with
    | some y=>if Iw (N5 y) then some (.val (N5 y),[]) else none
    | none=>none) else none
   | _=>none) else none
  | _=>none
 | .cpy x=>match g x with
  | .val v=>some (.val v,[])
  | .own _ _ _=>some (.dup x,[])
  | _=>none
 | .tra x=>match g x with
  | .val v=>some (.val v,[])
  | .own k n cs=>some (.own k n cs,[(x,.dead)])
  | .agn b k n cs=>some (.agn b k n cs,[(x,.dead)])
  | _=>none
 | .frz x=>match g x with
  | .val v=>some (.val v,[])
  | .own _ n cs=>some (.val (.sl n cs),[(x,.val (.sl n cs))])
  | _=>none
 | .mks z n=>match Ki g n with
  | some (.int _ m)=>cond (inB m 1048577) (some (.own (F z) m.toNat (C_ z m.toNat),[])) none
  | _=>none
 | .blo k n z ps=>(WH g z ps).map fun cs=>(.own k n cs,[])
 | .apd ow x y k e=>match Ki g y with
  | some .nil=>(match A0e g x with
   | .val .nil=>some (.val .nil,[])
   | .own q n cs=>if q=k then some (if ow then .own k n cs else .val (.sl n cs),Uf x) else none
   | _=>none)
  | some (.sl m r)=>if F r=m*k then (match A0e g x with
   | .val .nil=>if m<=e then some (if ow then .own k m r else .val (.sl m r),[]) else none
   | .own q n cs=>if q=k/\n+m<=e then some (if ow then .own k (n+m) (cs++r) else .val (.sl (n+m) (cs++r)),Uf x) else none
   | _=>none) else none
  | _=>none
 | .sli x lo hi mx k=>match Ki g x with
  | some .nil=>(match TO g 0 mx,TO g 0 hi,TO g 0 lo with
   | some 0,some 0,some 0=>if mx.isSome->hi.isSome then some (.val .nil,[]) else none
   | _,_,_=>none)
  | some (.sl n cs)=>(match TO g n mx,TO g n hi,TO g 0 lo with
   | some m,some h,some l=>if l<=h/\h<=m/\m<=n/\(mx.isSome->hi.isSome) then some (.val (.sl (h-l) ((cs.drop (l*k)).take ((h-l)*k))),[]) else none
   | _,_,_=>none)
  | _=>none
 | .ixo x d i k=>match Ki g i with
  | some (.int _ i)=>(match g x with
   | .val (.sl n cs)=>cond (inB i n) (some (.mem (cs.drop (i.toNat*k)),[])) none
   | .dup p=>if p=d then (match g d with
    | .own q n _=>if q=k then cond (inB i n) (some (.ptr d (i.toNat*k),[])) none else none
    | _=>none) else none
   | _=>none)
  | _=>none
 | .lno x d=>match g x with
  | .val .nil=>some (.val (.int .i64 0),[])
  | .val (.sl n _)=>some (.val (.int .i64 n),[])
  | .dup p=>if p=d then (match g d with
   | .own _ n _=>some (.val (.int .i64 n),[])
   | _=>none) else none
  | _=>none
 | .nlo k=>some (.own k 0 [],[])
 | .bdo a x l=>match Ki g a with
  | some (.bool b)=>(match g x with
   | .own k n cs=>if l.all (fun t=>HX (g t)) then some (.agn (.st b) k n cs,[(x,.dead)]) else none
   | _=>none)
  | _=>none
 | .cln f xs l=>match Vq g xs with
  | some vs=>if l.all (fun t=>HX (g t)) then (j f vs).map fun v=>(Hi v,[]) else none
  | none=>none
 | .stl x v=>match g x with
  | .box cs=>(match g v with
   | .agn (.st _) _ _ _=>if F cs=2 then some (.dead,[(x,.bxl v)]) else none
   | _=>none)
  | _=>none
 | .fdo x=>match g x with
  | .agn (.st _) k n cs=>some (.own k n cs,[(x,.dead)])
  | _=>none
 | .cpo x=>some (.dup x,[])
 | .exo x=>match g x with
  | .agn (.tp b) k n cs=>some (.own k n cs,[(x,.val (.tup [.sl n [],.bool b]))])
  | _=>none
 | .sub x d lo hi k=>match g x with
  | .dup p=>if p=d then (match g d with
   | .own q n _=>(match TO g n hi,TO g 0 lo with
    | some h,some l=>if q=k/\l<=h/\h<=n then some (.sub d k l h,[]) else none
    | _,_=>none)
   | _=>none) else none
  | _=>none
 | .app ow x d y k=>match g x with
  | .sub p q l h=>if p=d/\q=k/\l=0 then (match g d with
   | .own u n cs=>if u=k/\h<=n then (match Ki g y with
    | some (.sl m r)=>if F r=m*k/\h+m<=1048576 then some (if ow then .own k (h+m) (cs.take (h*k)++r) else .val (.sl (h+m) (cs.take (h*k)++r)),[(d,.dead),(x,.dead)]) else none
    | _=>none) else none
   | _=>none) else none
  | _=>none
 | .apb ow x y d k=>match g x with
  | .own w n cs=>(match g y with
   | .sub p q l h=>if p=d/\q=k/\w=k then (match g d with
    | .own u A s=>if u=k/\h<=A/\n+(h-l)<=1048576 then some (if ow then .own k (n+(h-l)) (cs++(s.drop (l*k)).take ((h-l)*k)) else .val (.sl (n+(h-l)) (cs++(s.drop (l*k)).take ((h-l)*k))),[(x,.dead)]) else none
    | _=>none) else none
   | _=>none)
  | _=>none
 | .slo x hi k=>match Ki g hi with
  | some (.int _ h)=>(match g x with
   | .own q n cs=>if q=k/\0<=h/\h<=n then some (.own k h.toNat (cs.take (h.toNat*k)),[(x,.dead)]) else none
   | _=>none)
  | _=>none
 | .cao f k x xs=>match Vq g xs with
  | some vs=>(match x with
   | .t m=>(match g m with
    | .own q n cs=>(j f (.fresh q n cs::vs)).map fun v=>(Hi v,[(m,.dead)])
    | _=>none)
   | .c (.sl 0 [])=>(j f (.fresh k 0 []::vs)).map fun v=>(Hi v,[])
   | _=>none)
  | none=>none
 | .bad=>none
theorem A0m(a:C4)(s:Az)(k:K):A0l a (AR s) k=Cj a s k:=by
 cases k <;> simp only[A0l,Cj,Vp,sP,hH,A0f,A0g,A0k,ACe,Nm,ACf,iA]
 case mov x=>cases x.av s <;> rfl
 case mks z n =>
  generalize n.av s=x;cases x with
  | none=>rfl
  | some v =>
   cases v <;> first | rfl | skip
   rename_i k m;have:(0<=m/\m<((1048577:Nat):Int))↔(0<=m/\m<=1048576):=by omega
   simp only[this]
 case ixo x d i k =>
  generalize i.av s=y;cases y with
  | none=>rfl
  | some v =>
   cases v <;> first | rfl | skip
   rename_i g m;generalize AR s x=r;cases r <;> first | rfl | skip
   next v=>cases v <;> rfl
   ·rename_i b;dsimp only;by_cases hd:b=d
    ·rw[Ar hd,Ar hd];generalize AR s d=c;cases c <;> first | rfl | skip
     rename_i e n cs;by_cases f:e=k <;> simp[f]
    ·rw[Aw hd,Aw hd]
 all_goals rfl
inductive Tr where
 | e
 | n (l:Tr) (v:Reg) (r:Tr)
noncomputable def Tr.get (t:Tr):Nat->Reg :=
 Tr.rec (motive:=fun _=>Nat->Reg) (fun _ => .dead) (fun _ v _ a gr i=>PP (motive:=fun _=>Reg) v (fun j _=>cond (DF (Wv j 2) 0) (a (Oc j 2)) (gr (Oc j 2))) i) t
theorem Amk(i:Nat):Tr.e.get i = .dead:=rfl
theorem nH(l:Tr)(v:Reg)(r:Tr):(Tr.n l v r).get 0=v:=rfl
theorem KI(l:Tr)(v:Reg)(r:Tr)(j:Nat):(Tr.n l v r).get (j+1)=cond (DF (j % 2) 0) (l.get (j / 2)) (r.get (j / 2)):=rfl
section
variable {α:Type}
noncomputable def Vs (f:Nat):Tr->Nat->Reg->(Tr->Option α)->Option α :=
 PP (motive:=fun _=>Tr->Nat->Reg->(Tr->Option α)->Option α) (fun _ _ _ _=>none)
  (fun _ a t i x k=>Tr.rec (motive:=fun _=>Option α)
   (PP (motive:=fun _=>Option α) (k (.n .e x .e)) (fun j _=>cond (DF (Wv j 2) 0) (Fm (Oc j 2) fun j=>a .e j x fun b=>k (.n b .dead .e)) (Fm (Oc j 2) fun j=>a .e j x fun c=>k (.n .e .dead c))) i)
   (fun l v r _ _=>PP (motive:=fun _=>Option α) (k (.n l x r)) (fun j _=>cond (DF (Wv j 2) 0) (Fm (Oc j 2) fun j=>a l j x fun b=>k (.n b v r)) (Fm (Oc j 2) fun j=>a r j x fun c=>k (.n l v c))) i) t) f
theorem iB{i j:Nat}(h1:i % 2=j % 2)(h2:i / 2=j / 2):i=j:=by omega
theorem sQ:∀ (f:Nat) (t:Tr) (i:Nat) (x:Reg) (k:Tr->Option α) (y:α),Vs f t i x k=some y->∃ t',k t'=some y/\∀ u,t'.get u=if u=i then x else t.get u:=by
 intro f;induction f with
 | zero=>intro t i x k y h;cases h
 | succ f g =>
  intro t i x k y h;have m:∀ (l r:Tr) (v:Reg),(∀ u,(Tr.n l v r).get u=t.get u) ->
    (match i with
     | 0=>k (.n l x r)
     | j+1=>cond (DF (Wv j 2) 0) (Fm (Oc j 2) fun j=>Vs f l j x fun o=>k (.n o v r)) (Fm (Oc j 2) fun j=>Vs f r j x fun p=>k (.n l v p)))=some y ->
    ∃ t',k t'=some y/\∀ u,t'.get u=if u=i then x else t.get u:=by
   intro l r v c h;cases i with
   | zero =>
    refine⟨_,h,fun u => ?_⟩;cases u with
    | zero=>simp[nH]
    | succ u=>rw[Aw (by omega),<- c];rfl
   | succ j =>
    dsimp only at h;cases hj:DF (Wv j 2) 0
    ·rw[hj] at h;simp only[cond_false,HZ] at h;obtain⟨p,h1,h2⟩:=g r _ x _ y h;have q:j % 2=1:=by
      have:¬ j % 2=0:=fun e=>by
       have:DF (Wv j 2) 0=true:=by show DF (j % 2) 0=true;rw[e];rfl
       rw[this] at hj;cases hj
      omega
     refine⟨_,h1,fun u => ?_⟩;cases u with
     | zero=>rw[Aw (by omega),<- c];rfl
     | succ u =>
      rw[<- c,KI,KI,h2];cases a:DF (u % 2) 0
      ·have d:u % 2=1:=by
        have:¬ u % 2=0:=fun e=>by rw[e] at a;cases a
        omega
       simp only[cond_false];show (if u / 2=j / 2 then _ else _)=_;by_cases b:u / 2=j / 2
       ·have:u=j:=iB (by omega) b;rw[Ar b,Ar (by omega)]
       ·rw[Aw b,Aw (by omega)]
      ·have d:u % 2=0:=DZ a;simp only[cond_true];rw[Aw (by omega)]
    ·rw[hj] at h;simp only[cond_true,HZ] at h;obtain⟨o,h1,h2⟩:=g l _ x _ y h;have q:j % 2=0:=DZ hj;refine⟨_,h1,fun u => ?_⟩;cases u with
     | zero=>rw[Aw (by omega),<- c];rfl
     | succ u =>
      rw[<- c,KI,KI,h2];cases a:DF (u % 2) 0
      ·have d:u % 2=1:=by
        have:¬ u % 2=0:=fun e=>by rw[e] at a;cases a
        omega
       simp only[cond_false];rw[Aw (by omega)]
      ·have d:u % 2=0:=DZ a;simp only[cond_true];show (if u / 2=j / 2 then _ else _)=_;by_cases b:u / 2=j / 2
       ·have:u=j:=iB (by omega) b;rw[Ar b,Ar (by omega)]
       ·rw[Aw b,Aw (by omega)]
  cases t with
  | e =>
   refine m .e .e .dead (fun u => ?_) (by cases i <;> exact h);cases u with
   | zero=>rfl
   | succ u=>rw[KI];cases DF (u % 2) 0 <;> rfl
  | n l v r=>exact m l r v (fun _=>rfl) (by cases i <;> exact h)
def Ox(t:Tr)(s:Az):Prop:=∀ u,t.get u=AR s u
noncomputable def ZJ (m:Nat) (t:Tr) (d:Nat) (r:Reg) (k:Tr->Option α):Option α:=cond (Gx d m) (SQ r fun r=>Vs 12 t d r k) none
theorem ZK{m:Nat}{t:Tr}{s:Az}{d:Nat}{r:Reg}{k:Tr->Option α}{y:α}(hs:F s=m)(b:Ox t s)(h:ZJ m t d r k=some y):∃ t',k t'=some y/\Ox t' (s.set d r):=by
 unfold ZJ at h;cases hd:Gx d m
 ·rw[hd] at h;cases h
 ·rw[hd] at h;simp only[cond_true,nF] at h;obtain⟨t',h1,h2⟩:=sQ 12 t d r k y h;refine⟨t',h1,fun u => ?_⟩;simp only[Mf,AZ] at hd;rw[h2,Ef];by_cases a:u=d
  ·subst a;rw[Ar rfl,Ar ⟨rfl,by omega⟩]
  ·rw[Aw a,Aw (fun e=>a e.1.symm)];exact b u
noncomputable def nI (m:Nat) (l:List (Nat × Reg)):Tr->(Tr->Option α)->Option α :=
 rF (motive:=fun _=>Tr->(Tr->Option α)->Option α) (fun t k=>k t) (fun p _ a t k=>ZJ m t p.1 p.2 fun t=>a t k) l
theorem WI{m:Nat}:∀ {l:List (Nat × Reg)} {t:Tr} {s:Az} {k:Tr->Option α} {y:α},F s=m->Ox t s->nI m l t k=some y->∃ t',k t'=some y/\Ox t' (CE s l)
 | [],t,s,k,y,_,a,h=>⟨t,h,a⟩
 | (d,r)::l,t,s,k,y,hs,a,h=>by
  obtain⟨t',h1,h2⟩:=ZK hs a h;exact WI (l:=l) (by simp[hs]) h2 (show nI m l t' k=some y from h1)
noncomputable def A0n (m:Nat) (t:Tr) (d:Option Nat) (r:Reg) (k:Tr->Option α):Option α :=
 match d with
 | none=>k t
 | some d=>ZJ m t d r k
theorem sR{m:Nat}{t:Tr}{s:Az}{d:Option Nat}{r:Reg}{k:Tr->Option α}{y:α}(hs:F s=m)(a:Ox t s)(h:A0n m t d r k=some y):∃ t',k t'=some y/\Ox t' (EI s d r):=by
 cases d with
 | none=>exact⟨t,h,a⟩
 | some d=>exact ZK hs a h
def A0o(g:Nat->Reg):Option (Nat × Bool)->Option Bool
 | none=>some true
 | some (t,b)=>match g t with
  | .val (.bool c)=>some (c==b)
  | .val .undef=>some false
  | _=>none
theorem Aml(s:Az)(g:Option (Nat × Bool)):A0o (AR s) g=IR s g:=by cases g <;> rfl
noncomputable def fOp (a:C4) (m:Nat) (o:IOp) (t:Tr) (k:Tr->Option α):Option α :=
 nI m (o.ks.map fun u=>(u,Reg.dead)) t fun t =>
  match A0o t.get o.g with
  | none=>none
  | some false=>A0n m t o.dst (.val .undef) k
  | some true=>match A0l a t.get o.k with
   | none=>none
   | some (r,l)=>nI m l t fun t=>A0n m t o.dst r k
theorem ACg{a:C4}{m:Nat}{o:IOp}{t:Tr}{s:Az}{k:Tr->Option α}{y:α}(hs:F s=m)(n:Ox t s)(h:fOp a m o t k=some y):∃ c t',HE a o s=some c/\F c=m/\Ox t' c/\k t'=some y:=by
 unfold fOp at h;obtain⟨p,h1,h2⟩:=WI hs n h;have b:F (kill s o.ks)=m:=by rw[kill,Hy];exact hs
 have q:p.get=AR (kill s o.ks):=funext h2;rw[q,Aml] at h1;simp only[HE,KB];have i:∀ (s:Az) (d:Option Nat) (r:Reg),F (EI s d r)=F s:=by intro s d r;cases d <;> simp[EI]
 split at h1
 ·cases h1
 next e=>rw[e];obtain⟨j,f,g⟩:=sR b h2 h1;exact⟨_,j,rfl,by rw[i];exact b,g,f⟩
 ·rename_i e;rw[e];rw[A0m] at h1;split at h1
  ·cases h1
  next r l u=>obtain⟨j,f,g⟩:=WI b h2 h1;obtain⟨v,w,x⟩:=sR (by rw[Hy];exact b) g f;refine⟨_,v,by simp only[u],by rw[i,Hy];exact b,x,w⟩
noncomputable def AGw (a:C4) (m:Nat) (l:List IOp):Tr->(Tr->Option α)->Option α :=
 rF (motive:=fun _=>Tr->(Tr->Option α)->Option α) (fun t k=>k t) (fun o _ b t k=>fOp a m o t fun t=>b t k) l
theorem sS{a:C4}{m:Nat}:∀ {l:List IOp} {t:Tr} {s:Az} {k:Tr->Option α} {y:α},F s=m->Ox t s->AGw a m l t k=some y->∃ b t',Fw a l s=some b/\F b=m/\Ox t' b/\k t'=some y
 | [],t,s,k,y,hs,c,h=>⟨s,t,rfl,hs,c,h⟩
 | o::l,t,s,k,y,hs,c,h=>by
  obtain⟨q,r,h1,h2,d,e⟩:=ACg hs c h;obtain⟨f,g,i,j,n,p⟩:=sS h2 d e;exact⟨f,g,by simp only[Fw,h1];exact i,j,n,p⟩
noncomputable def fC (e:C4) (m:Nat) (n:Nat):ICode->Tr->(Ex->Tr->Option α)->Option α :=
 PP (motive:=fun _=>ICode->Tr->(Ex->Tr->Option α)->Option α) (fun _ _ _=>none) (fun _ d c t k =>
  match c with
  | .skip=>k .norm t
  | .region _ ops=>AGw e m ops t fun t=>k .norm t
  | .seq a b=>d a t fun ex t=>(match ex with | .norm=>d b t k | .exit i=>k (.exit i) t | .ret=>k .ret t)
  | .cond c a b=>(match Ki t.get c with | some (.bool true)=>d a t k | some (.bool false)=>d b t k | _=>none)
  | .block id c=>d c t fun ex t=>(match ex with | .norm=>k .norm t | .exit i=>cond (DF i id) (k .norm t) (k (.exit i) t) | .ret=>k .ret t)
  | .loop c=>d c t fun ex t=>(match ex with | .norm=>d (.loop c) t k | .exit i=>k (.exit i) t | .ret=>k .ret t)
  | .scope c=>d c t k
  | .exit id=>k (.exit id) t
  | .ret=>k .ret t) n
theorem AIm{e:C4}{m:Nat}:∀ (n:Nat) {c:ICode} {t:Tr} {s:Az} {k:Ex->Tr->Option α} {y:α},F s=m->Ox t s->fC e m n c t k=some y->∃ ex u t',g e n c s=some (ex,u)/\F u=m/\Ox t' u/\k ex t'=some y:=by
 intro n;induction n with
 | zero=>intro c t s k y _ _ h;cases h
 | succ n r =>
  intro c t s k y hs q h;cases c with
  | skip=>exact⟨.norm,s,t,rfl,hs,q,h⟩
  | region d ops =>
   obtain⟨u,t',h1,h2,j,f⟩:=sS hs q h;exact⟨.norm,u,t',by simp only[g,h1,AY],h2,j,f⟩
  | seq a b =>
   obtain⟨ex,l,p,h1,h2,j,f⟩:=r (c:=a) hs q h;cases ex with
   | norm =>
    obtain⟨ex,w,x,z,A,B,C⟩:=r (c:=b) h2 j f;exact⟨ex,w,x,by simp only[g,h1];exact z,A,B,C⟩
   | exit i=>exact⟨.exit i,l,p,by simp only[g,h1],h2,j,f⟩
   | ret=>exact⟨.ret,l,p,by simp only[g,h1],h2,j,f⟩
  | cond o a b =>
   have D:t.get=AR s:=funext q;have v:(match Ki t.get o with | some (.bool true)=>fC e m n a t k | some (.bool false)=>fC e m n b t k | _=>none)=some y:=h
   rw[D,Vp] at v;split at v
   next hc=>obtain⟨ex,l,p,h1,h2,j,f⟩:=r (c:=a) hs q v;exact⟨ex,l,p,by simp only[g,My,hc];exact h1,h2,j,f⟩
   next hc=>obtain⟨ex,l,p,h1,h2,j,f⟩:=r (c:=b) hs q v;exact⟨ex,l,p,by simp only[g,My,hc];exact h1,h2,j,f⟩
   ·cases v
  | block id c =>
   obtain⟨ex,l,p,h1,h2,j,f⟩:=r (c:=c) hs q h;cases ex with
   | norm=>exact⟨.norm,l,p,by simp only[g,h1],h2,j,f⟩
   | ret=>exact⟨.ret,l,p,by simp only[g,h1],h2,j,f⟩
   | exit i =>
    by_cases hi:i=id
    ·subst hi;have:DF i i=true:=Nat.beq_refl i;simp only[this,cond_true] at f;exact⟨.norm,l,p,by simp only[g,h1,if_true],h2,j,f⟩
    ·have:DF i id=false:=by cases E:DF i id with | false=>rfl | true=>exact absurd (DZ E) hi
     simp only[this,cond_false] at f;exact⟨.exit i,l,p,by simp only[g,h1,Aw hi],h2,j,f⟩
  | loop c =>
   obtain⟨ex,l,p,h1,h2,j,f⟩:=r (c:=c) hs q h;cases ex with
   | norm =>
    obtain⟨ex,w,x,z,A,B,C⟩:=r (c := .loop c) h2 j f;exact⟨ex,w,x,by simp only[g,h1];exact z,A,B,C⟩
   | exit i=>exact⟨.exit i,l,p,by simp only[g,h1],h2,j,f⟩
   | ret=>exact⟨.ret,l,p,by simp only[g,h1],h2,j,f⟩
  | scope c =>
   obtain⟨ex,l,p,h1,h2,j,f⟩:=r (c:=c) hs q h;exact⟨ex,l,p,by simp only[g];exact h1,h2,j,f⟩
  | exit id=>exact⟨.exit id,s,t,rfl,hs,q,h⟩
  | ret=>exact⟨.ret,s,t,rfl,hs,q,h⟩
end
def AGx(g:Nat->Reg):IRes->Option AV
 | .tmp t=>match g t with
  | .val x=>some x
  | .own _ n cs=>some (.sl n cs)
  | _=>none
 | .cell t n one=>match g t with
  | .box cs=>BQ cs 0 n one
  | _=>none
def nJ(g:Nat->Reg):List IRes->Option (AK)
 | []=>some []
 | r::l=>match AGx g r with
  | none=>none
  | some x=>match nJ g l with
   | none=>none
   | some xs=>some (x::xs)
def Ajv(g:Nat->Reg):List IRes->Option AV
 | [.tmp t]=>match g t with
  | .own k n cs=>some (.fresh k n cs)
  | .agn b k n cs=>some (.frs b k n cs)
  | _=>none
 | [.tmp t,.tmp u]=>match g t with
  | .own k n cs=>(match g u with
   | .val (.bool b)=>some (.frs (.tp b) k n cs)
   | _=>none)
  | _=>none
 | [.cell t n one]=>match g t with
  | .bxl d=>(match g d with
   | .agn (.st b) k m cs=>if n=2/\one=false then some (.frs (.st b) k m cs) else none
   | _=>none)
  | _=>none
 | _=>none
def Px(g:Nat->Reg)(l:List IRes):Option AV :=
 match Ajv g l with
 | some x=>some x
 | none=>match nJ g l with
  | some [x]=>some x
  | some xs=>some (.tup xs)
  | none=>none
theorem A0p(s:Az)(r:IRes):AGx (AR s) r=Gt s r:=by cases r <;> rfl
theorem iC(s:Az):∀ l,nJ (AR s) l=E' s l
 | []=>rfl
 | r::l=>by simp only[nJ,E',A0p,iC s l];rfl
theorem Abh(s:Az)(l:List IRes):Ajv (AR s) l=JT s l:=by
 cases l with
 | nil=>rfl
 | cons r l=>cases r <;> cases l <;> rfl
theorem XN(s:Az)(l:List IRes):Px (AR s) l=In s l:=by simp only [Px,In,Abh,iC];rfl
noncomputable def nN {α:Type} (m:Nat) (l:AK):Nat->Tr->(Tr->Option α)->Option α :=
 rF (motive:=fun _=>Nat->Tr->(Tr->Option α)->Option α) (fun _ t k=>k t) (fun x _ a i t k=>ZJ m t i (Oq x) fun t=>a (Ra i) t k) l
theorem iD{α:Type}{m:Nat}:∀ {l:AK} {i:Nat} {t:Tr} {s:Az} {k:Tr->Option α} {y:α},F s=m->Ox t s->nN m l i t k=some y->∃ t' a,k t'=some y/\Ox t' a/\F a=m/\(l=[]\/i+F l<=m)/\∀ u,AR a u=if h:i<=u/\u-i<F l then Oq (l[u-i]'h.2) else AR s u
 | [],i,t,s,k,y,hs,b,h=>⟨t,s,h,b,hs,.inl rfl,fun u=>by rw[dif_neg (by simp)]⟩
 | x::l,i,t,s,k,y,hs,b,h=>by
  have r:i<m:=by
   have c:ZJ m t i (Oq x) (fun t=>nN m l (Ra i) t k)=some y:=h;unfold ZJ at c;cases hd:Gx i m
   ·rw[hd] at c;cases c
   ·simpa [Mf] using hd
  obtain⟨v,h1,h2⟩:=ZK hs b h;obtain⟨g,j,n,o,p,d,q⟩:=iD (l:=l) (i:=Ra i) (by simp[hs]) h2 h1;refine⟨g,j,n,o,p,.inr ?_,fun u => ?_⟩
  ·rcases d with rfl | d
   ·simp;omega
   ·simp;omega
  rw[q];by_cases f:u=i
  ·subst f;rw[dif_neg (by omega),dif_pos ⟨A2 _,by simp⟩,Ef,Ar ⟨rfl,by omega⟩];simp
  ·rw[Ef,Aw (fun e=>f e.1.symm)];by_cases hc:Ra i<=u/\u-Ra i<F l
   ·rw[dif_pos hc,dif_pos ⟨by omega,by simp;omega⟩];have:u-i=(u-Ra i)+1:=by omega
    simp[this]
   ·rw[dif_neg hc,dif_neg (by simp;omega)]
theorem Abi{s a:Az}(b:F s=F a)(h:∀ u,AR s u=AR a u):s=a:=by
 apply On b;intro i h1 h2;have:=h i;simp only[AR,Ad,Am h1,Am h2,H3] at this;exact this
noncomputable def fF (a:Nat->Option IFunc) (M:C4) (n:Nat):C4 :=
 PP (motive:=fun _=>C4) (fun _ _=>none) (fun n c f b =>
  match M f b with
  | some r=>some r
  | none=>match a f with
   | none=>none
   | some fn=>cond (DF (F b) fn.params) (nN fn.slots b 0 .e fun t=>fC c fn.slots n fn.body t fun ex t=>(match ex with
    | .exit _=>none
    | .norm=>(Px t.get fn.res).bind fun x=>Mh x some
    | .ret=>(Px t.get fn.res).bind fun x=>Mh x some)) none) n
theorem Cy{a:Nat->Option IFunc}{M:C4}(q:RA a M):∀ n,RA a (fF a M n):=by
 intro n;induction n with
 | zero=>intro f b r h;cases h
 | succ n v =>
  intro f b r h;have c:(match M f b with
   | some r=>some r
   | none=>match a f with
    | none=>none
    | some fn=>cond (DF (F b) fn.params) (nN fn.slots b 0 .e fun t=>fC (fF a M n) fn.slots n fn.body t fun ex t=>(match ex with
     | .exit _=>none
     | .norm=>(Px t.get fn.res).bind fun x=>Mh x some
     | .ret=>(Px t.get fn.res).bind fun x=>Mh x some)) none)=some r:=h
  split at c
  next E hr=>cases c;exact q f b r hr
  ·split at c
   ·cases c
   ·rename_i fn j;cases hp:DF (F b) fn.params
    ·rw[hp] at c;cases c
    ·rw[hp] at c;simp only[cond_true] at c;have k:F b=fn.params:=DZ hp;obtain⟨G,w,h1,h2,l,m,y⟩:=iD (s:=AI fn.slots .dead) (by simp) (fun u=>by
      simp only[Amk,AR,Ad,Oe];split <;> rfl) c
     obtain⟨ex,z,A,B,H,C,d⟩:=AIm n l h2 h1;have I:F b<=fn.slots:=by
      rcases m with rfl | m
      ·simp
      ·omega
     have D:w=I5 fn b:=by
      refine Abi (by rw[l];simp[I5];omega) (fun u => ?_);rw[y];simp only[A_,true_and,Lb];simp only[AR,I5,Ad];by_cases g:u<F b
      ·rw[dif_pos g,B2 (by simpa using g)];simp[g]
      ·rw[dif_neg g,BN (by simpa using g)];simp only[Oe];split <;> split <;> rfl
     subst D;have o:A.get=AR z:=funext C;have p:=Zz v n B;cases ex with
     | exit i=>cases d
     | norm =>
      dsimp only at d;rw[o,XN] at d;simp only[RM] at d;exact JL (j) k p (fun i e=>by cases e) (by simpa using d)
     | ret =>
      dsimp only at d;rw[o,XN] at d;simp only[RM] at d;exact JL (j) k p (fun i e=>by cases e) (by simpa using d)
def XO(f:AV->AV->Bool):AK->AK->Bool
 | [],[]=>true
 | x::xs,y::a=>f x y&&XO f xs a
 | _,_=>false
def Un:Nat->AV->AV->Bool
 | 0,_,_=>false
 | n+1,x,y=>match x,y with
  | .int k a,.int d b=>isK k d&&eR a b
  | .bool a,.bool b=>a==b
  | .nil,.nil=>true
  | .undef,.undef=>true
  | .agg xs,.agg c=>XO (Un n) xs c
  | .tup xs,.tup c=>XO (Un n) xs c
  | .sl a xs,.sl b c=>DF a b&&XO (Un n) xs c
  | _,_=>false
theorem RN{f:AV->AV->Bool}(h:∀ x y,f x y=true->x=y):∀ {xs b:AK},XO f xs b=true->xs=b
 | [],[],_=>rfl
 | x::xs,y::b,a=>by
  simp only[XO,At] at a;rw[h x y a.1,RN h a.2]
 | [],_::_,a=>by cases a
 | _::_,[],a=>by cases a
theorem Amm:∀ (n:Nat) (x y:AV),Un n x y=true->x=y:=by
 intro n;induction n with
 | zero=>intro x y h;cases h
 | succ n a =>
  intro x y h;cases x <;> cases y <;> simp only[Un,At,CI,Ajt,Ajs,AZ,BJ] at h
  ·rw[h.1,h.2]
  ·rw[h]
  ·rw[RN a h]
  ·rfl
  ·rw[DZ h.1,RN a h.2]
  ·rw[RN a h]
  ·rfl
def AGy(f:Nat)(c:AK)(r:AV)(M:C4):C4:=fun a b=>cond (DF a f&&XO (Un 9) b c) (some r) (M a b)
theorem k{prog:Nat->Option IFunc}{f:Nat}{args:AK}{r:AV}{M:C4}(h:Io prog f args r)(d:RA prog M):RA prog (AGy f args r M):=by
 intro b c e a;unfold AGy at a;cases hc:(DF b f&&XO (Un 9) c args)
 ·rw[hc] at a;exact d b c e a
 ·rw[hc] at a;cases a;rw[At] at hc;rw[DZ hc.1,RN (Amm 9) hc.2];exact h
def ACh:C4:=fun _ _=>none
theorem c(prog:Nat->Option IFunc):RA prog ACh:=fun _ _ _ h=>by cases h
end Go.Ai
namespace Go.Ai
open Bool renaming false_eq_true->CI,true_and->ABe
open Classical renaming byContradiction->A6
open Decidable renaming decide->E
open Function renaming comp->AGe
open Go.Ai.AV renaming int->J
open Int renaming add_mul->H2,add_zero->Cx,dvd_add_right->Axx,dvd_mul_right->Wx,dvd_trans->TS,ediv_lt_of_lt_mul->N4,ediv_nonneg->Kr,emod_eq_of_lt->HR,emod_lt_of_pos->FH,emod_nonneg->Hu,eq_of_mul_eq_mul_left->GA,le_of_dvd->AGz,le_of_eq->JG,le_of_lt->A9,le_of_mul_le_mul_left->Fu,le_of_mul_le_mul_right->CR,le_refl->DO,le_trans->FC,lt_of_lt_of_le->yZ,lt_or_gt_of_ne->Hd,lt_trichotomy->G8,mul_add->DJ,mul_assoc->Bm,mul_comm->AT,mul_ediv_add_emod->Ik,mul_ediv_cancel'->Lh,mul_ediv_cancel_left->CL,mul_eq_zero->F5,mul_le_mul->Fk,mul_le_mul_of_nonneg_left->Ax,mul_le_mul_of_nonneg_right->Ap,mul_lt_mul_of_pos_left->J0,mul_ne_zero->Bv,mul_neg->F8,mul_neg_of_neg_of_pos->IN,mul_neg_of_pos_of_neg->It,mul_nonneg->A8,mul_one->DQ,mul_pos->Br,mul_pow->aH,mul_right_comm->BE,mul_sub->Gs,mul_zero->Be,natAbs->I,natAbs_dvd->ACm,natAbs_mul->C1,natAbs_natCast->C9,natAbs_of_nonneg->Ol,natCast_add->MT,natCast_mul->Eg,natCast_nonneg->JI,natCast_pow->Ea,neg_mul->O',not_le->FI,not_lt->Ma,ofNat_dvd_left->Il,ofNat_le->AHn,ofNat_lt->Axr,one_mul->D0,pos_of_mul_pos_right->nT,pow_add->Cc,pow_nonneg->Og,pow_pos->FP,pow_succ->AD,pow_zero->DC,sub_mul->yR,sub_self->TA,sub_zero->FV,toNat->Y,toNat_of_nonneg->V9,zero_add->E7,zero_mul->Cs
open List renaming all->Aio,all_cons->ABd,all_eq_true->CG,append_assoc->Iu,cons_append->Ks,countP_eq_length_filter->JJ,drop->AL,drop_drop->Mx,drop_eq_getElem_cons->BL,drop_succ_cons->Abt,drop_zero->DA,eq_nil_of_length_eq_zero->AU,eq_of_mem_replicate->ABr,ext_getElem->On,ext_getElem?->HP,flatMap_cons->eG,getD->H,getD_cons_succ->MQ,getD_cons_zero->LG,getD_eq_getElem?_getD->Ad,getElem?_drop->Cb,getElem?_eq_getElem->Am,getElem?_eq_none->Bi,getElem?_map->CC,getElem?_range->AJj,getElem?_replicate->Oe,getElem?_replicate_of_lt->Axq,getElem?_set_ne->H5,getElem?_take_of_lt->Cr,length->F,length_append->B0,length_cons->BM,length_drop->CX,length_eq_countP_add_countP->Ain,length_eq_zero_iff->Zl,length_map->Ac,length_nil->IP,length_pos_iff->Av,length_range->CF,length_replicate->GJ,length_set->BH,length_singleton->Rj,length_tail->WW,length_take->AX,map_append->D_,map_congr_left->GP,map_cons->CW,map_drop->ABf,map_map->Rr,map_nil->HC,map_set->Ww,map_take->Od,mem_cons->BW,mem_cons_of_mem->Bg,mem_cons_self->Ba,mem_filter->DR,mem_iff_getElem->AHq,mem_map->DI,mem_of_getElem?->X8,mem_of_mem_drop->E3,mem_of_mem_take->C5,mem_range->Hf,nodup_cons->Qg,nodup_iff_pairwise_ne->eE,not_mem_nil->Y6,range->Ay,range_succ->Jw,replicate->AI,replicate_succ->GO,set_append_right->AHm,set_cons_succ->AJn,set_cons_zero->AJm,set_eq_take_append_cons_drop->Rq,take->BF,take_append_drop->Ft,take_sublist->AJu
open Nat renaming add_assoc->E1,add_comm->H0,add_mul->DU,add_sub_cancel->HQ,add_zero->Gb,blt->Gx,div_add_mod->yO,div_div_eq_div_mul->tR,div_lt_of_lt_mul->Abv,eq_zero_or_pos->Gk,gcd->FO,le_add_right->TC,le_max_right->A0y,le_mul_of_pos_left->gB,le_mul_of_pos_right->Dn,le_of_dvd->V4,le_of_lt->Abm,le_of_not_lt->QY,le_refl->A2,le_trans->B6,lt_of_le_of_lt->Ey,lt_of_lt_of_le->Dg,lt_or_ge->CN,lt_pow_self->YL,max->Ajz,min_eq_left->Kh,mod_eq_of_lt->Hc,mod_lt->IV,mul_add->AJr,mul_add_mod->ABl,mul_assoc->Gj,mul_comm->Du,mul_le_mul->Ck,mul_le_mul_left->Bu,mul_le_mul_right->Bf,mul_one->H9,mul_pos->HW,mul_succ->TB,mul_zero->rD,not_lt_zero->Pk,one_mul->Gi,pow_add->Dw,pow_le_pow_right->B_,pow_pos->E5,pow_succ->GV,strongRecOn->Y4,sub_add_cancel->O1,sub_self->T9,succ_mul->Om,zero_add->Cv,zero_le->A_
open Or renaming inl->Alo,inr->TQ
open Rat renaming div_def->ABh,intCast_add->MV,intCast_le_intCast->C6,intCast_mul->DL,intCast_natCast->EG,intCast_neg->Axy,intCast_sub->yP,inv_pos->ABj,le_of_lt->Jh,mul_le_mul_of_nonneg_left->YO,mul_le_mul_of_nonneg_right->LP,mul_lt_mul_of_pos_right->Nw,mul_nonneg->G6,mul_pos->JH,natCast_add->UV,natCast_le_natCast->tY,natCast_mul->IL,one_mul->ABi,pow_succ->AIo
def A(xs:G):AK:=xs.map (J .u32)
def B9(xs:G):Prop:=∀ x∈xs,0<=x/\x<4294967296
def An:G->Int
 | []=>0
 | x::xs=>x+4294967296*An xs
theorem RO(xs:G):F (A xs)=F xs:=by simp [A]
section
variable{xs:G}{i:Nat}
theorem sT(h:i<F xs):(A xs)[i]? = some (.int .u32 (H xs i 0)):=by
 simp[A,CC,Am h,Ad]
theorem Fo(h:i<F xs):BQ (AL (i*1) (A xs)) 0 1 true=some (.int .u32 (H xs i 0)):=by
 simp only[BQ,if_true,H9,Cb,Gb];exact sT h
theorem ZL(h:i<F xs):BQ (A xs) (i*1) 1 true=some (.int .u32 (H xs i 0)):=by
 simp only[BQ,if_true,H9];exact sT h
theorem KJ{v:Int}(h:i<F xs):Di (A xs) (i*1) [.int .u32 v]=some (A (xs.set i v)):=by
 unfold Di;rw[Ar (by simp[RO];omega)];congr 1;simp only[A,Ww,H9,Rj];rw[Rq,Ar (by simpa using h)];simp
end
theorem G4(n:Nat):C_ [.int .u32 0] n=A (AI n 0):=by
 induction n with
 | zero=>rfl
 | succ n a=>simp only[C_,a,A,GO,CW];rfl
theorem Bn{xs:G}(h:B9 xs)(i:Nat):0<=H xs i 0/\H xs i 0<4294967296:=by
 rw[Ad];cases hx:xs[i]? with
 | none=>simp
 | some x=>exact h x (X8 hx)
theorem BK{xs:G}(h:B9 xs):0<=An xs:=by
 induction xs with
 | nil=>exact DO _
 | cons x xs a =>
  have h1:=h x Ba;have h2:=a fun y hy=>h y (Bg _ hy);simp only[An];omega
theorem H'(xs a:G):An (xs++a)=An xs+4294967296^F xs*An a:=by
 induction xs with
 | nil=>simp[An]
 | cons x xs b =>
  simp only[Ks,An,b,BM,AD];rw[DJ,<- Int.add_assoc];congr 1;rw[<- Bm,AT 4294967296 (4294967296^F xs)]
theorem FX(n:Nat):An (AI n 0)=0:=by
 induction n with
 | zero=>rfl
 | succ n a=>simp[GO,An,a]
theorem EP{xs:G}(h:B9 xs):An xs<4294967296^F xs:=by
 induction xs with
 | nil=>simp[An]
 | cons x xs a =>
  have h1:=h x Ba;have h2:=a fun y hy=>h y (Bg _ hy);simp only[An,BM,AD];omega
theorem EW(xs:G)(i:Nat)(v:Int)(h:i<F xs):An (xs.set i v)=An xs+4294967296^i*(v-H xs i 0):=by
 induction xs generalizing i with
 | nil=>simp at h
 | cons x xs a =>
  cases i with
  | zero=>simp only[AJm,An,DC,LG];omega
  | succ i =>
   simp only[AJn,An,MQ];rw[a i (by simpa using h),AD,DJ,<- Bm,AT 4294967296 (4294967296^i)];omega
theorem Ds{xs:G}(h:B9 xs){i:Nat}{v:Int}(hv:0<=v/\v<4294967296):B9 (xs.set i v):=by
 intro x hx;rcases List.mem_or_eq_of_mem_set hx with h1 | h1
 ·exact h x h1
 ·rw[h1];exact hv
def p(xs:G):Nat->Nat
 | 0=>0
 | n+1=>if H xs n 0=0 then p xs n else n+1
section
variable(xs:G)
def Af:G:=xs.take (p xs (F xs))
theorem Mi(n:Nat):p xs n<=n:=by
 induction n with
 | zero=>exact A2 _
 | succ n a=>simp only[p];split <;> omega
theorem iE(n:Nat):p xs n=0\/H xs (p xs n-1) 0 ≠ 0:=by
 induction n with
 | zero=>exact .inl rfl
 | succ n a =>
  simp only[p];split
  ·exact a
  ·exact .inr (by simpa)
theorem Uo(n:Nat):∀ i,p xs n<=i->i<n->H xs i 0=0:=by
 induction n with
 | zero=>intro i _ h;omega
 | succ n a =>
  intro i h1 h2;simp only[p] at h1;split at h1
  ·rename_i b;by_cases hi:i=n
   ·subst hi;exact b
   ·exact a i h1 (by omega)
  ·omega
def G_:Prop:=B9 xs/\(xs=[]\/H xs (F xs-1) 0 ≠ 0)
end
theorem Hk{xs:G}(h:B9 xs):G_ (Af xs):=by
 have c:=Mi xs (F xs);have a:F (Af xs)=p xs (F xs):=by simp[Af];omega
 refine⟨fun x hx=>h x (C5 hx),?_⟩;by_cases hz:p xs (F xs)=0
 ·left;simp[Af,hz]
 ·right;have b:=(iE xs (F xs)).resolve_left hz;rw[a,Ad,Af,Cr (by omega),<- Ad];exact b
theorem Y9{xs:G}(h:∀ i,i<F xs->H xs i 0=0):An xs=0:=by
 induction xs with
 | nil=>rfl
 | cons x xs b =>
  have a:=h 0 (by simp);simp only[LG] at a;subst a;simp only[An];rw[b fun i hi=>by simpa using h (i+1) (by simpa using hi)];rfl
theorem Fz(xs:G):An (Af xs)=An xs:=by
 have e:An xs=An (xs.take (p xs (F xs))++xs.drop (p xs (F xs))):=by rw[Ft]
 rw[e,H'];have:An (xs.drop (p xs (F xs)))=0:=by
  apply Y9;intro i hi;have hi':p xs (F xs)+i<F xs:=by simp at hi;omega
  have:=Uo xs (F xs) (p xs (F xs)+i) (by omega) hi';rw[Ad,Cb,<- Ad];exact this
 rw[this,Be,Cx];rfl
theorem Oy{x:Int}{xs:G}(h:G_ (x::xs)):G_ xs:=by
 refine⟨fun y hy=>h.1 y (Bg _ hy),?_⟩;cases xs with
 | nil=>exact .inl rfl
 | cons y b =>
  right;rcases h.2 with a | a
  ·cases a
  ·simpa using a
theorem Lo:∀ {xs:G},G_ xs->xs ≠ []->0<An xs
 | [],_,h=>absurd rfl h
 | [x],h,_=>by
  have h1:=h.1 x Ba;rcases h.2 with a | a
  ·cases a
  ·simp only[Rj,T9,LG] at a;simp only[An];omega
 | x::y::b,h,_=>by
  have h1:=h.1 x Ba;have h2:=Lo (Oy h) (by simp);simp only[An] at h2 |-;omega
theorem WJ:∀ {xs a:G},G_ xs->G_ a->An xs=An a->xs=a
 | [],[],_,_,_=>rfl
 | [],y::a,_,h2,h=>by
  have:=Lo h2 (by simp);rw[<- h] at this;simp[An] at this
 | x::xs,[],h1,_,h=>by
  have:=Lo h1 (by simp);rw[h] at this;simp[An] at this
 | x::xs,y::a,h1,h2,h=>by
  have d:=h1.1 x Ba;have e:=h2.1 y Ba;simp only[An] at h;have b:x=y:=by omega
  have c:An xs=An a:=by omega
  rw[b,WJ (Oy h1) (Oy h2) c]
def Qd:Nat->Nat->G
 | 0,_=>[]
 | f+1,n=>if n=0 then [] else ((n % 4294967296:Nat):Int)::Qd f (n / 4294967296)
def o(n:Nat):G:=Qd (n+1) n
theorem Up:∀ (f n:Nat),n<f->G_ (Qd f n)/\An (Qd f n)=n/\(Qd f n=[]↔n=0):=by
 intro f;induction f with
 | zero=>intro n h;omega
 | succ f c =>
  intro n h;simp only[Qd];by_cases a:n=0
  ·subst a;simp[An,G_,B9]
  ·rw[Aw a];obtain⟨c1,d,e⟩:=c (n / 4294967296) (by omega);have g:=IV n (show 0<4294967296 by omega);refine⟨⟨?_,?_⟩,?_,by simp[a]⟩
   ·intro x hx;rcases BW.1 hx with rfl | hx
    ·omega
    ·exact c1.1 x hx
   ·right;cases b:Qd f (n / 4294967296) with
    | nil =>
     have:=e.1 b;simp;omega
    | cons y i =>
     rcases c1.2 with h1 | h1
     ·rw[b] at h1;cases h1
     ·rw[b] at h1;simpa using h1
   ·simp only[An,d];omega
theorem Da(n:Nat):G_ (o n):=(Up _ n (by omega)).1
theorem Do(n:Nat):An (o n)=n:=(Up _ n (by omega)).2.1
theorem Lp(n:Nat):o n=[]↔n=0:=(Up _ n (by omega)).2.2
theorem Lq{xs:G}(h:B9 xs):Af xs=o (An xs).toNat:=by
 apply WJ (Hk h) (Da _);rw[Fz,Do];have:=BK h;omega
def M(n:Int):AV := .agg [.bool (E (n<0)),sL A (o (I n))]
def Dk(n:Int):AV := .frs (.st (E (n<0))) 1 (F (o (I n))) (A (o (I n)))
theorem Dx(n:Nat):(0:Int)<4294967296^n:=FP (by decide)
theorem SR:∀ {xs:G},G_ xs->xs ≠ []->(4294967296:Int)^(F xs-1)<=An xs
 | [],_,h=>absurd rfl h
 | [x],h,_=>by
  have:=Lo h (by simp);simp only[Rj,T9,DC];omega
 | x::y::a,h,_=>by
  have h1:=h.1 x Ba;have h2:=SR (Oy h) (by simp);simp only[BM,HQ] at h2 |-;rw[AD];show _<=x+4294967296*An (y::a);omega
theorem         HT {a b : Nat} (h : a <= b) : (4294967296 : Int) ^ a <= 4294967296 ^ b := by
  induction b with
  | zero => have : a = 0 := by omega
            subst this; exact          DO _
  | succ b ih =>
    by_cases hh : a = b + 1
    · subst hh; exact          DO _
    · have := ih (by omega)
      have hp :=        Dx b
      rw [          AD]; omega
theorem NC{xs:G}(h:G_ xs){k:Nat}(hv:An xs<4294967296^k):F xs<=k:=by
 by_cases hn:xs=[]
 ·subst hn;simp
 ·have h1:=SR h hn;rcases CN k (F xs) with h2 | h2
  ·have:=HT (show k<=F xs-1 by omega);omega
  ·exact h2
theorem Qe{n k:Nat}(h:(n:Int)<4294967296^k):F (o n)<=k:=NC (Da n) (by rw [Do];exact h)
def u(k:Nat)(n:Int):Prop:=I n<4294967296^k
theorem u.len{k:Nat}{n:Int}(h:u k n):F (o (I n))<=k:=by
 apply Qe;have h1:(I n:Int)<((4294967296^k:Nat):Int):=Axr.mpr h;rwa [Ea] at h1
theorem u.mono{j k:Nat}{n:Int}(h:u j n)(a:j<=k):u k n:=Dg h (B_ (by decide) a)
theorem u.mul{j k:Nat}{a b:Int}(c:u j a)(hb:u k b):u (j+k) (a*b):=by
 unfold u at *
 rw[C1,Dw];exact Nat.mul_lt_mul'' c hb
theorem u.add{j:Nat}{a b:Int}(c:u j a)(hb:u j b):u (j+1) (a+b):=by
 unfold u at *
 rw[GV];have:=Int.natAbs_add_le a b;omega
theorem u.neg{j:Nat}{a:Int}(b:u j a):u j (-a):=by
 unfold u at *
 rwa [Int.natAbs_neg]
theorem SS{n:Int}(h : -9223372036854775808<=n/\n<=9223372036854775807):u 2 n:=by
 unfold u;have:(4294967296:Nat)^2=18446744073709551616:=by decide
 omega
def v(neg:Bool)(xs:G):Int:=if neg then -An xs else An xs
theorem nO{neg:Bool}{xs:G}(a:B9 xs):I (v neg xs)=(An xs).toNat:=by
 have:=BK a;unfold v;cases neg <;> simp <;> omega
theorem SU{neg:Bool}{xs:G}(a:B9 xs):Af xs=o (I (v neg xs)):=by
 rw[nO a,Lq a]
theorem GT(n:Int):v (E (n<0)) (o (I n))=n:=by
 unfold v;rw[Do];by_cases h:n<0 <;> simp[h] <;> omega
theorem Em(n:Nat):F (o n)=0↔n=0:=by rw [Zl,Lp]
theorem Ajw{neg:Bool}{xs:G}(a:B9 xs):(neg&&decide (0<F (o (I (v neg xs)))))=decide (v neg xs<0):=by
 have h1:=Em (I (v neg xs));have h2:=BK a;have b:=nO (neg:=neg) a;unfold v at *
 cases neg
 ·simp;omega
 ·simp only[ABe,if_true] at *
  rw[decide_eq_decide];omega
theorem Ct(xs:G):F (Af xs)<=F xs:=by simp [Af];omega
theorem Gc{neg:Bool}{xs:G}(a:B9 xs):F (o (I (v neg xs)))<=F xs:=by rw [<- SU a];exact Ct xs
theorem ZM{neg:Bool}{xs:G}(a:B9 xs):u (F xs) (v neg xs):=by
 unfold u;rw[nO a];have h1:=BK a;have h2:=EP a;have b:((4294967296^F xs:Nat):Int)=(4294967296:Int)^F xs:=by rw[Ea];rfl
 omega
theorem CB(n:Nat):B9 (o n):=(Da n).1
def f(xs : List Int) : Reg := .val (.sl (F xs) (A xs))
def N(n : Int) : Reg := .val (.int .i64 n)
theorem D4:∀ (xs:G) (i:Nat),An (xs.drop i)=H xs i 0+4294967296*An (xs.drop (i+1))
 | [],i=>by simp[An]
 | x::xs,0=>by simp[An]
 | x::xs,i+1=>by
  have:=D4 xs i;simpa using this
theorem Dp{xs:G}{i j:Nat}{v:Int}(h:i ≠ j):H (xs.set i v) j 0=H xs j 0:=by
 simp only[Ad,H5 h]
theorem Cp{xs:G}{i:Nat}(h:F xs<=i):H xs i 0=0:=by
 simp[Ad,Bi h]
theorem EX{xs:G}{i:Nat}(h:F xs<=i):An (xs.drop i)=0:=by
 rw[List.drop_eq_nil_of_le h];rfl
def KK(xs a:G):Nat->Nat->G->Int->G × Int
 | 0,_,o,c=>(o,c)
 | r+1,i,o,c=>KK xs a r (i+1) (o.set i ((H xs i 0+c+H a i 0) % 4294967296)) ((H xs i 0+c+H a i 0) / 4294967296)
theorem Amn{xs d:G}(hx:B9 xs)(hy:B9 d)(k:F d<=F xs):∀ (r i:Nat) (o:G) (c:Int),r+i=F xs->F xs<F o->B9 o->0<=c/\c<=1->(∀ j,i<=j->H o j 0=0) ->
  F (KK xs d r i o c).1=F o/\B9 (KK xs d r i o c).1/\(0<=(KK xs d r i o c).2/\(KK xs d r i o c).2<=1) /\
  An (KK xs d r i o c).1+4294967296^F xs*(KK xs d r i o c).2=An o+4294967296^i*(c+An (xs.drop i)+An (d.drop i)) /\
  ∀ j,F xs<=j->H (KK xs d r i o c).1 j 0=0:=by
 intro r;induction r with
 | zero =>
  intro i o c hi _ h hc hz;have hi':i=F xs:=by omega
  subst hi';refine⟨rfl,h,hc,?_,fun j hj=>hz j hj⟩;rw[EX (A2 _),EX k];simp[KK]
 | succ r l =>
  intro i o c hi n h hc hz;have h1:=Bn hx i;have h2:=Bn hy i;simp only[KK];have ex:=D4 xs i;have s:=D4 d i;have t:=hz i (A2 _);generalize C:H xs i 0+c+H d i 0=g at *
  have u:0<=g % 4294967296/\g % 4294967296<4294967296:=by omega
  obtain⟨v,w,x,y,z⟩:=l (i+1) (o.set i (g % 4294967296)) (g / 4294967296) (by omega) (by simpa using n) (Ds h u) (by omega) (fun j hj=>by rw[Dp (by omega)];exact hz j (by omega));refine⟨by simpa using v,w,x,?_,z⟩;rw[y,EW o i _ (by omega),ex,s,t,AD];generalize (4294967296:Int)^i=p at *
  generalize An (xs.drop (i+1))=f at *
  generalize An (d.drop (i+1))=e at *
  have A:g=4294967296*(g / 4294967296)+g % 4294967296:=by omega
  have B:c=g-H xs i 0-H d i 0:=by omega
  rw[B];generalize g / 4294967296=q at *
  generalize g % 4294967296=m at *
  generalize H xs i 0=a at *
  generalize H d i 0=b at *
  subst A;grind
def Lr(xs a:G):Nat->Nat->G->Int->G × Int
 | 0,_,o,c=>(o,c)
 | r+1,i,o,c=>Lr xs a r (i+1) (o.set i ((H xs i 0-c-H a i 0) % 4294967296)) (-((H xs i 0-c-H a i 0) / 4294967296))
theorem Amo{xs d:G}(hx:B9 xs)(hy:B9 d)(k:F d<=F xs):∀ (r i:Nat) (o:G) (c:Int),r+i=F xs->F xs<=F o->B9 o->0<=c/\c<=1->(∀ j,i<=j->H o j 0=0) ->
  F (Lr xs d r i o c).1=F o/\B9 (Lr xs d r i o c).1/\(0<=(Lr xs d r i o c).2/\(Lr xs d r i o c).2<=1) /\
  An (Lr xs d r i o c).1=An o+4294967296^i*(An (xs.drop i)-An (d.drop i)-c)+4294967296^F xs*(Lr xs d r i o c).2:=by
 intro r;induction r with
 | zero =>
  intro i o c hi _ h hc hz;have hi':i=F xs:=by omega
  subst hi';refine⟨rfl,h,hc,?_⟩;rw[EX (A2 _),EX k];simp only[Lr];generalize (4294967296:Int)^F xs=p;grind
 | succ r l =>
  intro i o c hi n h hc hz;have h1:=Bn hx i;have h2:=Bn hy i;simp only[Lr];have ex:=D4 xs i;have s:=D4 d i;have t:=hz i (A2 _);generalize B:H xs i 0-c-H d i 0=g at *
  have u:0<=g % 4294967296/\g % 4294967296<4294967296:=by omega
  obtain⟨v,w,x,y⟩:=l (i+1) (o.set i (g % 4294967296)) (-(g / 4294967296)) (by omega) (by simpa using n) (Ds h u) (by omega) (fun j hj=>by rw[Dp (by omega)];exact hz j (by omega));refine⟨by simpa using v,w,x,?_⟩;rw[y,EW o i _ (by omega),ex,s,t,AD];generalize (4294967296:Int)^i=p at *
  generalize An (xs.drop (i+1))=f at *
  generalize An (d.drop (i+1))=e at *
  have z:g=4294967296*(g / 4294967296)+g % 4294967296:=by omega
  have A:c=H xs i 0-H d i 0-g:=by omega
  rw[A];generalize g / 4294967296=q at *
  generalize g % 4294967296=m at *
  generalize H xs i 0=a at *
  generalize H d i 0=b at *
  subst z;grind
theorem EB(n j:Nat):H (AI n (0:Int)) j 0=0:=by
 simp[Ad,Oe];split <;> rfl
theorem Gp(n:Nat):B9 (AI n 0):=fun x hx=>by rw [ABr hx];omega
theorem Abj{xs a:G}(hx:B9 xs)(hy:B9 a)(i:F a<=F xs)(o:G)(c:Int)(e:KK xs a (F xs) 0 (AI (F xs+1) 0) 0=(o,c)) :
  F o=F xs+1/\B9 o/\(0<=c/\c<=1)/\B9 (o.set (F xs) c)/\An (o.set (F xs) c)=An xs+An a:=by
 obtain⟨d,b,f,g,h⟩:=Amn hx hy i (F xs) 0 (AI (F xs+1) 0) 0 (by omega) (by simp) (Gp _) (by omega) (fun j _=>EB _ j);rw[e] at d b f g h;dsimp only at d b f g h;have k:F o=F xs+1:=by simpa using d
 refine⟨k,b,f,Ds b (by omega),?_⟩;rw[EW o _ _ (by omega),h _ (A2 _),FV,g,FX];simp
theorem Abk{xs b:G}(hx:B9 xs)(hy:B9 b)(k:F b<=F xs)(hv:An b<=An xs)(o:G)(c:Int)(e:Lr xs b (F xs) 0 (AI (F xs) 0) 0=(o,c)) :
  F o=F xs/\B9 o/\An o=An xs-An b:=by
 obtain⟨f,d,g,a⟩:=Amo hx hy k (F xs) 0 (AI (F xs) 0) 0 (by omega) (by simp) (Gp _) (by omega) (fun j _=>EB _ j);rw[e] at f d g a;dsimp only at f d g a;have i:F o=F xs:=by simpa using f
 refine⟨i,d,?_⟩;rw[FX] at a;simp at a;have h1:=EP d;rw[i] at h1;have hp:=Dx (F xs);rcases (show c=0\/c=1 by omega) with h | h
 ·rw[a,h];simp
 ·rw[h,DQ] at a;omega
abbrev Rn:=Bool × G
def B(r:Rn):Int:=v r.1 r.2
def V(n:Int):Rn:=(E (n<0),o (I n))
def S(rs:List Rn):AK:=rs.flatMap fun r=>[.bool r.1,.sl (F r.2) (A r.2)]
def Al(rs:List Rn):G:=rs.map B
def pk(ps:G):AK:=S (ps.map V)
def z0:Rn:=(false,[])
def BC(K:Nat)(r:Rn):Prop:=B9 r.2/\F r.2<=K
def AB(r:Rn):AV := .agg [.bool r.1,.sl (F r.2) (A r.2)]
theorem AO(n:Int):B (V n)=n:=GT n
theorem A0q:B z0=0:=rfl
theorem Bs(ps:G):Al (ps.map V)=ps:=by
 unfold Al;rw[Rr];have:(B ∘ V)=id:=funext AO;rw[this,List.map_id]
theorem BB{k:Nat}{n:Int}(h:u k n):BC k (V n):=⟨CB _,h.len⟩
theorem Py(k:Nat):BC k z0:=⟨fun x hx=>(by cases hx),A_ _⟩
theorem BC.mono{j k:Nat}{r:Rn}(h:BC j r)(a:j<=k):BC k r:=⟨h.1,B6 h.2 a⟩
theorem BC.fits{k:Nat}{r:Rn}(h:BC k r):u k (B r):=(ZM h.1).mono h.2
theorem Uq(rs:List Rn):F (S rs)=F rs*2:=by
 induction rs with
 | nil=>rfl
 | cons r rs a=>simp only[S,eG,B0,BM,IP] at a |-;omega
theorem Pz(r:Rn)(rs:List Rn):S (r::rs) = .bool r.1 :: .sl (F r.2) (A r.2)::S rs:=rfl
theorem Qf(rs ss:List Rn):S (rs++ss)=S rs++S ss:=by simp [S]
theorem Vt:∀ (i:Nat) (rs:List Rn),(S rs).drop (i*2)=S (rs.drop i)
 | 0,rs=>by simp
 | i+1,[]=>by simp[S]
 | i+1,r::rs=>by
  rw[Pz,DU,Gi];show (S rs).drop (i*2)=_;rw[Vt i rs];rfl
theorem sU:∀ (i:Nat) (rs:List Rn),(S rs).take (i*2)=S (rs.take i)
 | 0,rs=>by simp[S]
 | i+1,[]=>by simp[S]
 | i+1,r::rs=>by
  rw[Pz,DU,Gi];show _::_::(S rs).take (i*2)=_;rw[sU i rs];rfl
section
variable{rs:List Rn}{i:Nat}
theorem RP(h:i<F rs):BQ (AL (i*2) (S rs)) 0 2 false=some (AB (H rs i z0)):=by
 rw[Vt,BL h,Pz];simp[BQ,AB,Ad,Am h]
theorem ACi(h:i<F rs):BQ (S rs) (i*2) 2 false=some (AB (H rs i z0)):=by
 have h1:=RP h;have a:=Uq rs;simp only[BQ,CI,if_false,Cv,DA,CX] at h1 |-;rw[Ar (by omega)] at h1;rw[Ar (by omega)];exact h1
theorem nP{r:Rn}(h:i<F rs):Di (S rs) (i*2) [.bool r.1,.sl (F r.2) (A r.2)]=some (S (rs.set i r)):=by
 have a:=Uq rs;simp only[Di,BM,IP];rw[Ar (by omega)];congr 1;have hs:rs.set i r=rs.take i++r::rs.drop (i+1):=by rw[Rq,Ar h]
 rw[hs,Qf,Pz,sU];have:(S rs).drop (i*2+(0+1+1))=S (rs.drop (i+1)):=by rw[<- Vt];congr 1;omega
 simp only[Cv] at this;rw[this];simp
end
theorem Vu(n:Nat):C_ [.bool false,.sl 0 []] n=S (AI n z0):=by
 induction n with
 | zero=>rfl
 | succ n a=>rw[GO,Pz,<- a];rfl
theorem Ajx(rs:List Rn):Aio (S rs) (fun c => !Zm c)=true:=by
 rw[CG];intro c hc;simp only[S,List.mem_flatMap,BW,Y6,or_false] at hc;obtain⟨r,_,rfl | rfl⟩:=hc <;> rfl
theorem A0r(xs:G):Aio (A xs) Zm=true:=by
 rw[CG];intro c hc;simp only[A,DI] at hc;obtain⟨x,_,rfl⟩:=hc;rfl
theorem TP(n:Int):Iw (M n)=true:=by
 simp only[M,Iw,ABd,Pn,A0r,List.all_nil,Bool.and_self]
theorem B1(rs:List Rn):F (Al rs)=F rs:=by simp [Al]
theorem Eh(rs:List Rn)(i:Nat):H (Al rs) i 0=B (H rs i z0):=by
 simp only[Al,Ad,CC];cases rs[i]? <;> rfl
theorem Cm{K:Nat}{rs:List Rn}(h:∀ r∈rs,BC K r)(i:Nat):BC K (H rs i z0):=by
 rw[Ad];cases e:rs[i]? with
 | none=>exact Py K
 | some r=>exact h r (X8 e)
theorem WK{k:Nat}{ps:G}(h:∀ x∈ps,u k x):∀ r∈ps.map V,BC k r:=fun r hr=>by
 obtain⟨x,hx,rfl⟩:=DI.1 hr;exact BB (h x hx)
theorem DW{k:Nat}{rs:List Rn}(h:∀ r∈rs,BC k r):∀ x∈Al rs,u k x:=fun x hx=>by
 obtain⟨r,hr,rfl⟩:=DI.1 hx;exact (h r hr).fits
theorem iG{xs a:G}(h:∀ i,H xs i 0=H a i 0):∀ n,p xs n=p a n:=by
 intro n;induction n with
 | zero=>rfl
 | succ n b=>simp only[p,h n,b]
theorem ZN(xs:G):∀ d,p xs (F xs+d)=p xs (F xs):=by
 intro d;induction d with
 | zero=>rfl
 | succ d a =>
  rw[<- E1];simp only[p];rw[Cp (by omega),Ar rfl,a]
theorem Ei(xs:G)(i:Nat):H (Af xs) i 0=H xs i 0:=by
 unfold Af;rcases CN i (p xs (F xs)) with h | h
 ·simp only[Ad,List.getElem?_take,Ar h]
 ·have e:H (xs.take (p xs (F xs))) i 0=0:=Cp (by simp;omega);rw[e];rcases CN i (F xs) with h2 | h2
  ·exact (Uo xs (F xs) i h h2).symm
  ·exact (Cp h2).symm
theorem Nn{xs a:G}(b:F xs=F a)(h:∀ i,H xs i 0=H a i 0):xs=a:=by
 apply On b;intro i h1 h2;have:=h i;simpa [Ad,Am h1,Am h2] using this
theorem HI{xs a:G}(h:∀ i,H xs i 0=H a i 0):Af xs=Af a:=by
 have c:F (Af xs)=F (Af a):=by
  have h1:∀ b:G,F (Af b)=p b (F b):=fun b=>by have:=Mi b (F b);simp[Af];omega
  rw[h1,h1];rcases Nat.le_total (F xs) (F a) with g | g
  ·have:=ZN xs (F a-F xs);rw[show F xs+(F a-F xs)=F a by omega] at this;rw[<- this,iG h]
  ·have:=ZN a (F xs-F a);rw[show F a+(F xs-F a)=F xs by omega] at this;rw[<- this,iG h]
 refine Nn c fun i => ?_;rw[Ei,Ei,h i]
theorem MR(xs:G):F (Af xs)=p xs (F xs):=by have:=Mi xs (F xs);simp [Af];omega
theorem Amp{xs:G}{x:Int}(h:x∈Af xs):x∈xs:=C5 h
theorem GG(xs:G):Af (Af xs)=Af xs:=HI (Ei xs)
def Ah:G->Int->Int
 | [],_=>0
 | p::ps,x=>p+x*Ah ps x
theorem XP{xs:G}(h:∀ i,H xs i 0=0)(x:Int):Ah xs x=0:=by
 induction xs with
 | nil=>rfl
 | cons p ps b =>
  have a:=h 0;simp at a;have:=b (fun i=>by simpa using h (i+1));simp[Ah,a,this]
theorem H_:∀ {xs a:G},(∀ i,H xs i 0=H a i 0)->∀ x,Ah xs x=Ah a x
 | [],a,h,x=>(XP (fun i=>(h i).symm) x).symm
 | p::ps,[],h,x=>XP (fun i=>h i) x
 | p::ps,q::c,h,x=>by
  have b:=h 0;simp at b;simp only[Ah,b];rw[H_ (fun i=>by simpa using h (i+1)) x]
theorem EU(xs:G)(x:Int):Ah (Af xs) x=Ah xs x:=H_ (Ei xs) x
section
variable(g:Nat->Rn)
def Ia(i r:Nat):List Rn:=(Ay i).map g++AI r z0
theorem RR(i r:Nat):F (Ia g i r)=i+r:=by simp [Ia]
theorem Vv(r:Nat):Ia g 0 r=AI r z0:=by simp [Ia]
theorem Vw(i:Nat):Ia g i 0=(Ay i).map g:=by simp [Ia]
theorem XQ(i r:Nat):(Ia g i (r+1)).set i (g i)=Ia g (i+1) r:=by
 unfold Ia;rw[AHm _ _ (by simp),Jw,D_,GO];simp
theorem Oz(n i:Nat):H (Al ((Ay n).map g)) i 0=if i<n then B (g i) else 0:=by
 rw[Eh,Ad];by_cases h:i<n
 ·simp[h]
 ·simp[h,A0q]
end
theorem SV(xs:G):(Ay (F xs)).map (fun i=>V (H xs i 0))=xs.map V:=by
 apply On (by simp);intro i h1 h2;have a:i<F xs:=by simpa using h2
 simp[Ad,Am a]
theorem Ur{K:Nat}{g:Nat->Rn}{n:Nat}(h:∀ i,i<n->BC K (g i)):∀ r∈(Ay n).map g,BC K r:=fun r hr=>by
 obtain⟨i,hi,rfl⟩:=DI.1 hr;exact h i (Hf.1 hi)
theorem Ib(k:Nat):u k 0:=by unfold u;simp;exact E5 (by decide)
theorem ZO{k:Nat}{xs:G}(h:∀ x∈xs,u k x)(i:Nat):u k (H xs i 0):=by
 rw[Ad];cases e:xs[i]? with
 | none=>exact Ib k
 | some x=>exact h x (X8 e)
def EQ(ps a:G):G:=Af ((Ay (max (F ps) (F a))).map fun i=>H ps i 0+H a i 0)
def z(ps:G):G:=ps.map fun x => -x
theorem EC(ps a:G)(i:Nat):H (EQ ps a) i 0=H ps i 0+H a i 0:=by
 unfold EQ;rw[Ei,Ad];by_cases h:i<max (F ps) (F a)
 ·simp[h]
 ·have h1:F ps<=i:=by omega
  have h2:F a<=i:=by omega
  rw[Cp h1,Cp h2];simp[h]
theorem IW(ps:G)(i:Nat):H (z ps) i 0 = -(H ps i 0):=by
 unfold z;simp only[Ad,CC];cases ps[i]? <;> simp
theorem Abl(ps a:G):Af (EQ ps a)=EQ ps a:=GG _
theorem RS(xs:G)(x:Int):Ah xs x=H xs 0 0+x*Ah (xs.drop 1) x:=by
 cases xs <;> simp[Ah]
theorem YA:∀ (n:Nat) (us bs cs:G),F us<=n->F bs<=n->F cs<=n->(∀ i,H cs i 0=H us i 0+H bs i 0)->∀ x,Ah cs x=Ah us x+Ah bs x:=by
 intro n;induction n with
 | zero =>
  intro us bs cs h1 h2 a _ x;rw[AU (by omega:F us=0),AU (by omega:F bs=0),AU (by omega:F cs=0)];rfl
 | succ n b =>
  intro us bs cs h1 h2 a h x;rw[RS us,RS bs,RS cs,h 0,b (us.drop 1) (bs.drop 1) (cs.drop 1) (by simp;omega) (by simp;omega) (by simp;omega) (fun i=>by
   have:=h (i+1);simpa [Ad,H0] using this) x]
  rw[DJ];omega
theorem CD(ps a:G)(x:Int):Ah (EQ ps a) x=Ah ps x+Ah a x :=
 YA (max (max (F ps) (F a)) (F (EQ ps a))) ps a _ (by omega) (by omega) (by omega) (EC ps a) x
theorem Mj(ps:G)(x:Int):Ah (z ps) x = -Ah ps x:=by
 induction ps with
 | nil=>rfl
 | cons p ps ih =>
  have:z (p::ps) = -p::z ps:=rfl;rw[this];simp only[Ah,ih];rw[F8];omega
def vp(rs : List Rn) : Reg := .val (.sl (F rs) (S rs))
def bR(r : Rn) : Reg := .box [.bool r.1, .sl (F r.2) (A r.2)]
def bN(n : Int) : Reg := .box [.bool (decide (n < 0)), sL A (o (I n))]
abbrev D:=List Rn
section
variable {prog:Nat->Option IFunc}
section
variable{c:Opd}{a b:ICode}{s t:Az}{ex:Ex}
theorem eV(h:c.av s=some (.bool true))(h1:EL prog a s ex t):EL prog (.cond c a b) s ex t:=by
 obtain⟨n,h1⟩:=h1;refine⟨n+1,?_⟩;have d:=Hj (FR prog (show n<=n+1 by omega)) (A2 n) h1;simp only[g,My,h,d]
theorem eX(h:c.av s=some (.bool false))(h1:EL prog b s ex t):EL prog (.cond c a b) s ex t:=by
 obtain⟨n,h1⟩:=h1;refine⟨n+1,?_⟩;have d:=Hj (FR prog (show n<=n+1 by omega)) (A2 n) h1;simp only[g,My,h,d]
theorem LL{x:Bool}(h:c.av s=some (.bool x))(hx:x=true)(h1:Dj prog a s ex t):Dj prog (.cond c a b) s ex t:=by
 subst hx;obtain⟨u,e,f⟩:=h1;exact⟨u,eV h e,f⟩
theorem LM{x:Bool}(h:c.av s=some (.bool x))(hx:x=false)(h1:Dj prog b s ex t):Dj prog (.cond c a b) s ex t:=by
 subst hx;obtain⟨u,e,f⟩:=h1;exact⟨u,eX h e,f⟩
end
theorem P0{id:Nat}{c:ICode}{s t:Az}{i:Nat}(h:Dj prog c s (.exit i) t)(hi:i ≠ id):Dj prog (.block id c) s (.exit i) t:=by
 obtain⟨u,a,b⟩:=h;exact⟨u,Pt a hi,b⟩
theorem Et{c:ICode}{ex:Ex}{fin:Az}(st:Nat->Az)(n:Nat)(a:ex ≠ .norm)(step:∀ i,i<n->Dj prog c (st i) .norm (st (i+1)))(out:Dj prog c (st n) ex fin):∀ i,i<=n->Dj prog (.loop c) (st i) ex fin:=by
 have b:∀ r i,i+r=n->Dj prog (.loop c) (st i) ex fin:=by
  intro r;induction r with
  | zero =>
   intro i hi;have:i=n:=by omega
   subst this;exact Aq out a
  | succ r d =>
   intro i hi;exact Bk (step i (by omega)) (d (i+1) (by omega))
 intro i hi;exact b (n-i) i (by omega)
theorem Dj.to{c:ICode}{ex:Ex}{s t a t':Az}(h:Dj prog c s ex t)(hs:s=a)(b:t=t'):Dj prog c a ex t':=hs ▸ b ▸ h
end
theorem FK{a:Int}{n:Nat}(h:0<=a/\a<n):Y a<n:=by omega
theorem B7{xs:G}{a:Int}(h:0<=a/\a<F xs):BQ (AL (Y a*1) (A xs)) 0 1 true=some (.int .u32 (H xs (Y a) 0)):=Fo (FK h)
theorem iH(ws:G)(l h:Nat):BF ((h-l)*1) (AL (l*1) (A ws))=A ((ws.drop l).take (h-l)):=by
 simp[A,Od,ABf]
theorem XR{ws:G}{l h m:Nat}{c:Int}{a b:Bool}(hx:0<=c/\c<((h-l:Nat):Int))(d:l<=h/\h<=m/\m<=F ws/\(a=true->b=true)):BQ (AL (Y c*1) (BF ((h-l)*1) (AL (l*1) (A ws)))) 0 1 true=some (.int .u32 (H ((ws.drop l).take (h-l)) (Y c) 0)):=by
 rw[iH];exact Fo (by have:=FK hx;simp;omega)
theorem Dc{xs:G}{n:Nat}(b:F xs=n){a:Int}(h:0<=a/\a<n):BQ (A xs) (Y a*1) 1 true=some (.int .u32 (H xs (Y a) 0)):=ZL (b ▸ FK h)
theorem DX{xs:G}{n:Nat}(b:F xs=n){a:Int}(h:0<=a/\a<n){v:Int}:Di (A xs) (Y a*1) [.int .u32 v]=some (A (xs.set (Y a) v)):=KJ (b ▸ FK h)
section
variable{rs:D}
theorem BZ{a:Int}(h:0<=a/\a<F rs):BQ (AL (Y a*2) (S rs)) 0 2 false=some (AB (H rs (Y a) z0)):=RP (FK h)
theorem GH{n:Nat}(b:F rs=n){a:Int}(h:0<=a/\a<n):BQ (S rs) (Y a*2) 2 false=some (AB (H rs (Y a) z0)):=ACi (b ▸ FK h)
theorem HJ{n:Nat}(b:F rs=n){a:Int}(h:0<=a/\a<n){r:Rn}:Di (S rs) (Y a*2) [.bool r.1,.sl (F r.2) (A r.2)]=some (S (rs.set (Y a) r)):=nP (b ▸ FK h)
theorem eY{i:Nat}(h:i<F rs):AL (i*2) (S rs) = .bool (H rs i z0).1 :: sL A ((H rs i z0).2)::S (rs.drop (i+1)):=by
 rw[Vt,BL h,Pz];simp[Ad,Am h]
theorem iI{a:Int}(h:0<=a/\a<F rs):BQ (AL 1 (AL (Y a*2) (S rs))) 0 1 true=some (sL A ((H rs (Y a) z0).2)):=by
 rw[eY (FK h)];rfl
end
def pp(ps:List D):AK:=ps.map fun rs => sL S rs
theorem ACj{ps:List D}{i:Nat}(h:i<F ps):(pp ps)[i]? = some (sL S (H ps i [])):=by
 simp[pp,CC,Am h,Ad]
theorem B3{ps:List D}{a:Int}(h:0<=a/\a<F ps):BQ (AL (Y a*1) (pp ps)) 0 1 true=some (sL S (H ps (Y a) [])):=by
 simp only[BQ,if_true,H9,Cb,Gb];exact ACj (FK h)
def ER(l:List (List D)):AK:=l.map fun ps => sL pp ps
theorem A0s{l:List (List D)}{i:Nat}(h:i<F l):(ER l)[i]? = some (sL pp (H l i [])):=by
 simp[ER,CC,Am h,Ad]
theorem Cn{l:List (List D)}{a:Int}(h:0<=a/\a<F l):BQ (AL (Y a*1) (ER l)) 0 1 true=some (sL pp (H l (Y a) [])):=by
 simp only[BQ,if_true,H9,Cb,Gb];exact A0s (FK h)
theorem ZP(xs:G)(i:Nat)(v x:Int)(h:i<F xs):Ah (xs.set i v) x=Ah xs x+x^i*(v-H xs i 0):=by
 induction xs generalizing i with
 | nil=>simp at h
 | cons p ps a =>
  cases i with
  | zero=>simp only[AJm,Ah,DC,LG];omega
  | succ i =>
   simp only[AJn,Ah,MQ];rw[a i (by simpa using h),AD];generalize x^i=q;generalize Ah ps x=y;generalize H ps i 0=z;grind
theorem Vx(n:Nat)(x:Int):Ah (AI n 0) x=0:=by
 induction n with
 | zero=>rfl
 | succ n a=>simp[GO,Ah,a]
theorem A0t:∀ (d:G) (b:Int),(∀ x,b<=x->Ah d x=0)->∀ i,H d i 0=0
 | [],_,_,i=>by simp
 | c::d,b,h,i=>by
  have hc:c=0:=by
   have h1:=h (max b (I c+1)) (by omega);simp only[Ah] at h1;have h2:(max b ((I c:Int)+1))∣c:=⟨-(Ah d (max b ((I c:Int)+1))),by rw[F8];omega⟩;rcases G8 c 0 with g | g | g
   ·have:=AGz (a:=max b ((I c:Int)+1)) (b := -c) (by omega) ((Int.dvd_neg).2 h2);omega
   ·exact g
   ·have:=AGz (a:=max b ((I c:Int)+1)) (b:=c) (by omega) h2;omega
  cases i with
  | zero=>simpa using hc
  | succ i =>
   have:=A0t d (max b 1) (fun x hx=>by
    have h1:=h x (by omega);simp only[Ah,hc,E7] at h1;rcases F5.1 h1 with g | g
    ·omega
    ·exact g) i
   simpa using this
theorem Eb{p q:G}(h:∀ x,Ah p x=Ah q x)(i:Nat):H p i 0=H q i 0:=by
 have:=A0t (EQ p (z q)) 0 (fun x _=>by rw[CD,Mj,h x];omega) i;rw[EC,IW] at this;omega
theorem Ic{p q:G}(h:∀ x,Ah p x=Ah q x):Af p=Af q:=HI (Eb h)
def ND(p q:G):G:=EQ p (z q)
theorem G1(p q:G)(x:Int):Ah (ND p q) x=Ah p x-Ah q x:=by rw [ND,CD,Mj];omega
theorem Us(p q:G)(i:Nat):H (ND p q) i 0=H p i 0-H q i 0:=by rw [ND,EC,IW];omega
section
variable(a:Int)(q:G)
def AM:G:=q.map fun x=>a*x
theorem AN(x:Int):Ah (AM a q) x=a*Ah q x:=by
 induction q with
 | nil=>simp[AM,Ah]
 | cons c q b =>
  have:AM a (c::q)=a*c::AM a q:=rfl;rw[this];simp only[Ah,b];generalize Ah q x=y;grind
theorem Bt(i:Nat):H (AM a q) i 0=a*H q i 0:=by
 unfold AM;simp only[Ad,CC];cases q[i]? <;> simp
end
def Cg:G->G->G
 | [],_=>[]
 | a::p,q=>EQ (AM a q) (0::Cg p q)
theorem B8(p q:G)(x:Int):Ah (Cg p q) x=Ah p x*Ah q x:=by
 induction p with
 | nil=>simp[Cg,Ah]
 | cons a p b =>
  simp only[Cg,CD,AN,Ah,b];generalize Ah q x=y;generalize Ah p x=z;grind
theorem ZQ(p q:G):Af (Cg p q)=Cg p q:=by
 cases p with
 | nil=>rfl
 | cons a p=>exact Abl _ _
theorem NE{k:Nat}{p:G}(hp:∀ x∈p,u k x):∀ x∈Af p,u k x:=fun x hx=>hp x (Amp hx)
theorem iJ(p q:G):F (EQ p q)<=max (F p) (F q):=by
 have:=Ct ((Ay (max (F p) (F q))).map fun i=>H p i 0+H q i 0);simpa [EQ] using this
theorem EY(p:G):F (z p)=F p:=by simp [z]
def hv:G->Int->Int->Int
 | [],_,_=>0
 | t::ts,x,d=>t*d^F ts+x*hv ts x d
theorem ACk(ts:G)(x:Int):hv ts x 1=Ah ts x:=by
 induction ts with
 | nil=>rfl
 | cons t ts a =>
  have h1:∀ n:Nat,(1:Int)^n=1:=fun n=>by induction n with
   | zero=>rfl
   | succ n a=>rw[AD,a];rfl
  simp only[hv,Ah,a,h1,DQ]
section
variable {prog:Nat->Option IFunc}
theorem XT{c:ICode}{ex:Ex}{s t t':Az}(ks:List Nat)(h:Dj prog c s ex t)(e:ZE ks t=t'):Dj prog c s ex t':=e ▸ Dj.weak h (IT.refl _) (gR ks t)
theorem Hl{c:ICode}{ex:Ex}{fin:Az}(st:Nat->Az)(n:Nat)(a:ex ≠ .norm)(out:Dj prog c (st n) ex fin):∀ i,i<=n->(∀ t,i<=t->t<n->Dj prog c (st t) .norm (st (t+1)))->Dj prog (.loop c) (st i) ex fin:=by
 intro i hi;obtain⟨r,hr⟩:∃ r,i+r=n:=⟨n-i,by omega⟩;induction r generalizing i with
 | zero =>
  intro _;have:i=n:=by omega
  subst this;exact Aq out a
 | succ r b =>
  intro hs;exact Bk (hs i (A2 _) (by omega)) (b (i+1) (by omega) (by omega) (fun t h1 h2=>hs t (by omega) h2))
theorem HU(f:Nat->Bool)(m:Nat):∀ r i,i+r=m->(∀ j,i<=j->j<m->f j=false)\/∃ j,i<=j/\j<m/\f j=true/\∀ t,i<=t->t<j->f t=false:=by
 intro r;induction r with
 | zero=>intro i hi;left;intro j h1 h2;omega
 | succ r b =>
  intro i hi;cases a:f i with
  | true=>right;exact⟨i,A2 _,by omega,a,fun t h1 h2=>by omega⟩
  | false =>
   rcases b (i+1) (by omega) with h | ⟨j,h1,h2,c,d⟩
   ·left;intro j h1 h2;by_cases e:j=i
    ·rw[e];exact a
    ·exact h j (by omega) h2
   ·right;refine⟨j,by omega,h2,c,fun t k g => ?_⟩;by_cases e:t=i
    ·rw[e];exact a
    ·exact d t (by omega) g
end
theorem Eu(us:G){j:Nat}(h:j<=F us):An us=An (us.take j)+4294967296^j*An (us.drop j):=by
 have:=H' (us.take j) (us.drop j);rw[Ft,AX,Kh h] at this;exact this
theorem Amq{us ws:G}{j:Nat}(a:F ws=F us)(h:∀ t,t<j->H ws t 0=H us t 0):ws.take j=us.take j:=by
 apply HP;intro t;rcases CN t j with g | g
 ·rw[Cr g,Cr g];have:=h t g;rw[Ad,Ad] at this;rcases CN t (F us) with k | k
  ·rw[Am k,Am (by omega)] at this |-;simpa using this
  ·rw[Bi k,Bi (by omega)]
 ·rw[Bi (by simp;omega),Bi (by simp;omega)]
theorem G5{us:G}(h:B9 us)(j:Nat):B9 (us.drop j):=fun x hx=>h x (E3 hx)
theorem EZ{us:G}(h:B9 us)(j:Nat):B9 (us.take j):=fun x hx=>h x (C5 hx)
theorem Mk{us:G}(a:B9 us){n:Nat}{V:Int}(c:V<=4294967296^n)(h:An us<V):An (us.drop n)=0:=by
 have b:=BK (G5 a n);rcases CN n (F us) with g | g
 ·have e:=Eu us (Abm g);have h1:=BK (EZ a n);have hp:=Dx n;apply Int.le_antisymm ?_ b;apply Ma.1;intro hc;have:=Ax (show 1<=An (us.drop n) by omega) (show (0:Int)<=4294967296^n by omega);omega
 ·exact EX g
theorem HK{us:G}(a:B9 us)(n:Nat):An (us.take n)<4294967296^n:=by
 have h:=EP (EZ a n);exact yZ h (HT (by simp;omega))
def H1(g:Int)(vs:G)(j:Nat):Nat->Nat->G->Int->Int->G × Int × Int
 | 0,_,us,b,c=>(us,b,c)
 | r+1,i,us,b,c=>H1 g vs j r (i+1) (us.set (i+j) ((H us (i+j) 0-(g*H vs i 0+c) % 4294967296-b) % 4294967296))
   (if H us (i+j) 0-(g*H vs i 0+c) % 4294967296-b<0 then 1 else 0) ((g*H vs i 0+c) / 4294967296)
theorem ZR{g v c:Int}(a:0<=g/\g<4294967296)(hv:0<=v/\v<4294967296)(hc:0<=c/\c<4294967296):0<=g*v+c/\g*v+c<18446744073709551616:=by
 have h1:=A8 a.1 hv.1;have h2:=Fk (show g<=4294967295 by omega) (show v<=4294967295 by omega) hv.1 (by omega);omega
theorem ZS{g:Int}{vs:G}{j:Nat}(f:0<=g/\g<4294967296)(hv:B9 vs):∀ (r i:Nat) (us:G) (b c:Int),r+i=F vs->j+F vs<=F us->B9 us->0<=b/\b<=1->0<=c/\c<4294967296 ->
  F (H1 g vs j r i us b c).1=F us/\B9 (H1 g vs j r i us b c).1/\(0<=(H1 g vs j r i us b c).2.1/\(H1 g vs j r i us b c).2.1<=1)/\(0<=(H1 g vs j r i us b c).2.2/\(H1 g vs j r i us b c).2.2<4294967296) /\
  An (H1 g vs j r i us b c).1=An us-4294967296^(i+j)*(g*An (vs.drop i)+b+c)+4294967296^(j+F vs)*((H1 g vs j r i us b c).2.1+(H1 g vs j r i us b c).2.2) /\
  ∀ t,t<i+j\/j+F vs<=t->H (H1 g vs j r i us b c).1 t 0=H us t 0:=by
 intro r;induction r with
 | zero =>
  intro i us b c hi _ a hb hc;refine⟨rfl,a,hb,hc,?_,fun t _=>rfl⟩;have:i=F vs:=by omega
  subst this;rw[EX (A2 _),H0];simp only[H1,Be,E7];omega
 | succ r h =>
  intro i us b c hi l a hb hc;have m:=Bn hv i;have B:=Bn a (i+j);have C:=ZR f m hc;simp only[H1];generalize hp:g*H vs i 0+c=p at *
  generalize hd:H us (i+j) 0-p % 4294967296-b=d at *
  obtain⟨n,o,q,s,w,x⟩:=h (i+1) (us.set (i+j) (d % 4294967296)) (if d<0 then 1 else 0) (p / 4294967296) (by omega) (by simpa using l) (Ds a (by omega)) (by split <;> omega) (by omega);refine⟨by simpa using n,o,q,s,?_,fun t D => ?_⟩
  ·rw[w,EW _ _ _ (by omega),D4 vs i,show i+1+j=(i+j)+1 by omega,AD];generalize (4294967296:Int)^(i+j)=P at *
   generalize An (vs.drop (i+1))=V at *
   have y:d % 4294967296=d+4294967296*(if d<0 then 1 else 0):=by split <;> omega
   rw[y];generalize (if d<0 then (1:Int) else 0)=k at *
   have E:p=4294967296*(p / 4294967296)+p % 4294967296:=by omega
   generalize p / 4294967296=ph at *
   generalize p % 4294967296=e at *
   generalize H us (i+j) 0=u at *
   generalize H vs i 0=v at *
   have z:d=u-e-b:=by omega
   have A:c=4294967296*ph+e-g*v:=by omega
   subst z;rw[A];grind
  ·rw[x t (by omega),Dp (by omega)]
def Kx(vs:G)(j:Nat):Nat->Nat->G->Int->G × Int
 | 0,_,us,c=>(us,c)
 | r+1,i,us,c=>Kx vs j r (i+1) (us.set (i+j) ((H us (i+j) 0+H vs i 0+c) % 4294967296)) ((H us (i+j) 0+H vs i 0+c) / 4294967296)
theorem ZT{vs:G}{j:Nat}(hv:B9 vs):∀ (r i:Nat) (us:G) (c:Int),r+i=F vs->j+F vs<=F us->B9 us->0<=c/\c<=1 ->
  F (Kx vs j r i us c).1=F us/\B9 (Kx vs j r i us c).1/\(0<=(Kx vs j r i us c).2/\(Kx vs j r i us c).2<=1) /\
  An (Kx vs j r i us c).1=An us+4294967296^(i+j)*(An (vs.drop i)+c)-4294967296^(j+F vs)*(Kx vs j r i us c).2 /\
  ∀ t,t<i+j\/j+F vs<=t->H (Kx vs j r i us c).1 t 0=H us t 0:=by
 intro r;induction r with
 | zero =>
  intro i us c hi _ a hc;refine⟨rfl,a,hc,?_,fun t _=>rfl⟩;have:i=F vs:=by omega
  subst this;rw[EX (A2 _),H0];simp only[Kx,E7];omega
 | succ r b =>
  intro i us c hi e a hc;have o:=Bn hv i;have p:=Bn a (i+j);simp only[Kx];generalize hd:H us (i+j) 0+H vs i 0+c=d at *
  obtain⟨f,g,h,k,l⟩:=b (i+1) (us.set (i+j) (d % 4294967296)) (d / 4294967296) (by omega) (by simpa using e) (Ds a (by omega)) (by omega);refine⟨by simpa using f,g,h,?_,fun t q => ?_⟩
  ·rw[k,EW _ _ _ (by omega),D4 vs i,show i+1+j=(i+j)+1 by omega,AD];generalize (4294967296:Int)^(i+j)=P at *
   generalize An (vs.drop (i+1))=V at *
   have s:d=4294967296*(d / 4294967296)+d % 4294967296:=by omega
   generalize d / 4294967296=ph at *
   generalize d % 4294967296=m at *
   generalize H us (i+j) 0=u at *
   generalize H vs i 0=v at *
   have n:c=4294967296*ph+m-u-v:=by omega
   rw[n];grind
  ·rw[l t (by omega),Dp (by omega)]
structure Dig (n:Nat) (V W top nxt x y z:Int):Prop where
 vlow:0<=V-(top*4294967296+nxt)*4294967296^n/\V-(top*4294967296+nxt)*4294967296^n<4294967296^n
 wlow:0<=W-((x*4294967296+y)*4294967296+z)*4294967296^n/\W-((x*4294967296+y)*4294967296+z)*4294967296^n<4294967296^n
 htop:2147483648<=top/\top<4294967296
 hnxt:0<=nxt/\nxt<4294967296
 hx:0<=x/\x<4294967296
 hy:0<=y/\y<4294967296
 hz:0<=z/\z<4294967296
 small:W<4294967296*V
structure DigI (V W top num g r:Int):Prop where
 sum:g*top+r=num
 r0:0<=r
 g0:0<=g
 up:W<(g+1)*V
 gle:g<=4294967297
section
variable {n:Nat} {V W top nxt x y z:Int}
theorem Dig.x_le(h:Dig n V W top nxt x y z):x<=top:=by
 have hp:=Dx n;obtain⟨h1,h2⟩:=h.vlow;obtain⟨c,d⟩:=h.wlow;have:=h.hnxt;have:=h.hy;have:=h.hz;have hs:=h.small;apply Ma.1;intro hx;generalize (4294967296:Int)^n=P at *
 have a:(x*4294967296+y)*4294967296+z>=(top+1)*4294967296*4294967296:=by omega
 have e:=Ap a (show 0<=P by omega);have b:top*4294967296+nxt+1<=(top+1)*4294967296:=by omega
 have f:=Ap b (show 0<=P by omega);have g:(top+1)*4294967296*4294967296*P=4294967296*((top+1)*4294967296*P):=by grind
 have i:(top*4294967296+nxt+1)*P=(top*4294967296+nxt)*P+P:=by grind
 omega
theorem Dig.Vpos(h:Dig n V W top nxt x y z):4294967296*4294967296^n<=V:=by
 have hp:=Dx n;obtain⟨h1,h2⟩:=h.vlow;have:=h.hnxt;have:=h.htop;generalize (4294967296:Int)^n=P at *
 have:=Ap (show (4294967296:Int)<=top*4294967296+nxt by omega) (show 0<=P by omega);omega
theorem Dig.init(h:Dig n V W top nxt x y z):DigI V W top (x*4294967296+y) ((x*4294967296+y) / top) ((x*4294967296+y) % top):=by
 have i:=h.x_le;have j:=h.htop;have hx:=h.hx;have hy:=h.hy;have e:=Ik (x*4294967296+y) top;have r0:=Hu (x*4294967296+y) (show top ≠ 0 by omega);have k:=FH (x*4294967296+y) (show 0<top by omega);have g0:0<=(x*4294967296+y) / top:=Kr (by omega) (by omega);have a:(x*4294967296+y) / top<=4294967297:=by
  apply Int.lt_add_one_iff.1;apply N4 (by omega);omega
 generalize l:(x*4294967296+y) / top=g at *
 generalize hr:(x*4294967296+y) % top=r at *
 refine⟨by rw[AT];exact e,r0,g0,?_,a⟩;have hp:=Dx n;obtain⟨h1,h2⟩:=h.vlow;obtain⟨m,o⟩:=h.wlow;have b:=h.hnxt;have hz:=h.hz;generalize (4294967296:Int)^n=P at *
 have c:x*4294967296+y+1<=(g+1)*top:=by
  have:(g+1)*top=top*g+top:=by grind
  omega
 have d:(x*4294967296+y)*4294967296+z+1<=(x*4294967296+y+1)*4294967296:=by omega
 have p:=Ap d (show 0<=P by omega);have q:=Ap c (show 0<=4294967296*P by omega);have f:top*(4294967296*P)<=V:=by
  have:(top*4294967296+nxt)*P=top*(4294967296*P)+nxt*P:=by grind
  have:=A8 b.1 (show 0<=P by omega);omega
 have s:=Ax f (show 0<=g+1 by omega);have t:(g+1)*(top*(4294967296*P))=(g+1)*top*(4294967296*P):=by grind
 have u:((x*4294967296+y)*4294967296+z+1)*P=((x*4294967296+y)*4294967296+z)*P+P:=by grind
 have v:(x*4294967296+y+1)*4294967296*P=(x*4294967296+y+1)*(4294967296*P):=by grind
 omega
theorem Dig.step(h:Dig n V W top nxt x y z){g r:Int}(i:DigI V W top (x*4294967296+y) g r)(hc:4294967296<=g\/r*4294967296+z<g*nxt):DigI V W top (x*4294967296+y) (g-1) (r+top):=by
 have f:=h.htop;have j:=h.Vpos;have hp:=Dx n;have e0:(g-1)*top+(r+top)=g*top+r:=by grind
 have k:1<=g:=by
  rcases hc with h1 | h1
  ·omega
  ·apply Ma.1;intro l;have:g=0:=by have:=i.g0;omega
   subst this;have:=i.r0;have:=h.hz;omega
 refine⟨by rw[e0];exact i.sum,by have:=i.r0;omega,by omega,?_,by have:=i.gle;omega⟩;rw[Int.sub_add_cancel];obtain⟨h1,h2⟩:=h.vlow;obtain⟨a,b⟩:=h.wlow;have hs:=h.small;rcases hc with hc | hc
 ·have:=Ap hc (show 0<=V by omega);omega
 ·have c:=i.sum;rw[<- c] at a b;generalize (4294967296:Int)^n=P at *
  have d:(g*top+r)*4294967296+z+1<=g*(top*4294967296+nxt):=by
   have:g*(top*4294967296+nxt)=g*top*4294967296+g*nxt:=by grind
   omega
  have m:=Ap d (show 0<=P by omega);have e:(top*4294967296+nxt)*P<=V:=by omega
  have o:=Ax e (show 0<=g by omega);have p:g*(top*4294967296+nxt)*P=g*((top*4294967296+nxt)*P):=by grind
  have q:((g*top+r)*4294967296+z+1)*P=((g*top+r)*4294967296+z)*P+P:=by grind
  omega
theorem Dig.small_g(h:Dig n V W top nxt x y z){g r:Int}(i:DigI V W top (x*4294967296+y) g r)(hr:4294967296<=r):g<4294967296:=by
 have b:=h.x_le;have c:=h.htop;have hy:=h.hy;apply FI.1;intro a;have:=Ap a (show 0<=top by omega);have:=i.sum;omega
theorem Dig.out(h:Dig n V W top nxt x y z){g r:Int}(i:DigI V W top (x*4294967296+y) g r)(a:g<4294967296)(hc:4294967296<=r\/g*nxt<=r*4294967296+z):g*V<W+V:=by
 have k:=h.htop;have l:=h.Vpos;have hp:=Dx n;have b:=h.hnxt;have hz:=h.hz;have m:g*nxt<=r*4294967296+z:=by
  rcases hc with hc | hc
  ·have:=Fk (show g<=4294967295 by omega) (show nxt<=4294967295 by omega) b.1 (by omega);omega
  ·exact hc
 obtain⟨h1,h2⟩:=h.vlow;obtain⟨c,d⟩:=h.wlow;have e:=i.sum;have f:=i.g0;rw[<- e] at c d;generalize (4294967296:Int)^n=P at *
 have j:g*(top*4294967296+nxt)<=(g*top+r)*4294967296+z:=by
  have:g*(top*4294967296+nxt)=g*top*4294967296+g*nxt:=by grind
  omega
 have o:=Ap j (show 0<=P by omega);have p:g*(top*4294967296+nxt)*P=g*((top*4294967296+nxt)*P):=by grind
 have s:=Fk (A9 a) (show V-(top*4294967296+nxt)*P<=P by omega) (by omega) (show (0:Int)<=4294967296 by omega);have t:g*(V-(top*4294967296+nxt)*P)=g*V-g*((top*4294967296+nxt)*P):=by grind
 have u:g*(V-(top*4294967296+nxt)*P)<4294967296*P:=by
  rcases Int.lt_or_eq_of_le f with q | q
  ·have:=J0 h2 q;have:=Ap (A9 a) (show 0<=P by omega);omega
  ·rw[<- q,Cs];omega
 omega
end
theorem Ajy{us vs:G}{j m:Nat}(a:B9 us)(hv:B9 vs)(e:F vs=m+2)(hj:j+m+2<F us)(f:2147483648<=H vs (m+1) 0)(g:An (us.drop (j+1))<An vs) :
  Dig m (An vs) (An (us.drop j)) (H vs (m+1) 0) (H vs m 0) (H us (j+m+2) 0) (H us (j+m+1) 0) (H us (j+m) 0):=by
 have h:=EP hv;have z:=Mk (G5 a (j+1)) (n:=m+2) (V:=An vs) (by rw[e] at h;omega) g;rw[Mx] at z;have b:=Eu (us.drop j) (j:=m) (by simp;omega);rw[Mx] at b;have k:=D4 us (j+m);have l:=D4 us (j+m+1);have c:=D4 us (j+m+2);rw[show j+m+2+1=j+1+(m+2) by omega,z] at c;have q:=HK (G5 a j) m;have r:=BK (EZ (G5 a j) m);have o:=Eu vs (j:=m) (by omega);have c1:=D4 vs m;have d:=D4 vs (m+1);have p:=EX (xs:=vs) (i:=m+1+1) (by omega);rw[p] at d;have s:=HK hv m;have t:=BK (EZ hv m);have u:=D4 us j;have v:=Bn a j;refine⟨?_,?_,⟨f,(Bn hv _).2⟩,Bn hv _,Bn a _,Bn a _,Bn a _,by omega⟩
 ·rw[o,c1,d,AT (_+_) (4294967296^m)];simp only[Be,Cx];rw[show H vs (m+1) 0*4294967296+H vs m 0=H vs m 0+4294967296*H vs (m+1) 0 by omega];omega
 ·rw[b,k,l,c,AT (_+_) (4294967296^m)];simp only[Be,Cx];rw[show (H us (j+m+2) 0*4294967296+H us (j+m+1) 0)*4294967296+H us (j+m) 0=H us (j+m) 0+4294967296*(H us (j+m+1) 0+4294967296*H us (j+m+2) 0) by omega];omega
structure StepOk (us vs ws:List Int) (j:Nat) (q:Int):Prop where
 len:ws.length=us.length
 u32:B9 ws
 val:An ws=An us-4294967296^j*(q*An vs)
 low:An (ws.drop j)<An vs
theorem sV{j:Nat}{a b:Int}(h:4294967296^j*a=4294967296^j*b):a=b:=GA (by have:=Dx j;omega) h
theorem ZU{us ws:G}{j:Nat}{k:Int}(a:F ws=F us)(hj:j<=F us)(h:∀ t,t<j->H ws t 0=H us t 0)(hv:An ws=An us+4294967296^j*k):An (ws.drop j)=An (us.drop j)+k:=by
 have c:=Eu us hj;have b:=Eu ws (j:=j) (by omega);rw[Amq a h] at b;apply sV (j:=j);rw[DJ];omega
theorem sW{us:G}{j n:Nat}(hj:j+n<F us)(hz:An (us.drop (j+n+1))=0):An (us.drop j)=An ((us.drop j).take n)+4294967296^n*H us (j+n) 0:=by
 have a:=Eu (us.drop j) (j:=n) (by simp;omega);rw[Mx] at a;have b:=D4 us (j+n);rw[hz,Be,Cx] at b;rw[a,b]
theorem XU{us vs:G}{j:Nat}(s:B9 us)(hv:B9 vs)(hj:j+F vs<F us)(S:An (us.drop (j+1))<An vs){g:Int}(T:0<=g/\g<4294967296)
  (h1:An (us.drop j)<(g+1)*An vs) (h2:g*An vs<An (us.drop j)+An vs) :
  let m:=H1 g vs j (F vs) 0 us 0 0
  let d:=H m.1 (j+F vs) 0-m.2.2-m.2.1
  (d>=0->StepOk us vs (m.1.set (j+F vs) (d % 4294967296)) j g) /\
  (d<0->StepOk us vs ((Kx vs j (F vs) 0 (m.1.set (j+F vs) (d % 4294967296)) 0).1.set (j+F vs) ((H (Kx vs j (F vs) 0 (m.1.set (j+F vs) (d % 4294967296)) 0).1 (j+F vs) 0+(Kx vs j (F vs) 0 (m.1.set (j+F vs) (d % 4294967296)) 0).2) % 4294967296)) j (g-1)/\1<=g):=by
 intro m d;have b3:=EP hv;have z:=Mk (G5 s (j+1)) (n:=F vs) (V:=An vs) (by omega) S;rw[Mx,show j+1+F vs=j+F vs+1 by omega] at z;obtain⟨m1,l,U,W,p,o⟩:=ZS T hv (F vs) 0 us 0 0 (by omega) (show j+F vs<=F us by omega) s (by omega) (by omega);change (F m.1)=F us at m1;change B9 m.1 at l;change 0<=m.2.1/\m.2.1<=1 at U;change 0<=m.2.2/\m.2.2<4294967296 at W;change An m.1=An us-4294967296^(0+j)*(g*An (vs.drop 0)+0+0)+4294967296^(j+F vs)*(m.2.1+m.2.2) at p;change ∀ t,t<0+j\/j+F vs<=t->H m.1 t 0=H us t 0 at o;have hd:d=H m.1 (j+F vs) 0-m.2.2-m.2.1:=rfl;clear_value d;generalize b4:m.1=h at *
 generalize m.2.1=b at *
 generalize m.2.2=c at *
 rw[Cv,DA,Cx,Cx] at p;have b5:=o (j+F vs) (by omega);have X:An (h.drop j)=An (us.drop j)+(4294967296^F vs*(b+c)-g*An vs):=by
  apply ZU m1 (by omega) (fun t D=>o t (by omega));rw[p,Cc,Gs,Bm];omega
 have E:An (h.drop (j+F vs+1))=0:=by
  have:h.drop (j+F vs+1)=us.drop (j+F vs+1):=by
   apply HP;intro t;rw[Cb,Cb];have:=o (j+F vs+1+t) (by omega);rw[Ad,Ad] at this;rcases CN (j+F vs+1+t) (F us) with k | k
   ·rw[Am k,Am (by omega)] at this |-;simpa using this
   ·rw[Bi k,Bi (by omega)]
  rw[this];exact z
 have I:=sW (us:=h) (j:=j) (n:=F vs) (by omega) E;have lo:=HK (G5 l j) (F vs);have b6:=BK (EZ (G5 l j) (F vs));have hx:=Bn l (j+F vs);have hX:H h (j+F vs) 0=d+b+c:=by omega
 rw[hX] at I;have hp:=Dx (F vs);generalize q:(4294967296:Int)^F vs=P at *
 generalize hL:An ((h.drop j).take (F vs))=a at *
 have Y:An (us.drop j)-g*An vs=a+P*d:=by
  rw[X] at I;have e:P*(d+b+c)=P*d+P*(b+c):=by grind
  omega
 have e2:(g+1)*An vs=g*An vs+An vs:=by grind
 have u:∀ v:Int,An (h.set (j+F vs) v)=An us-4294967296^j*(g*An vs)+4294967296^j*(P*(v-d)):=by
  intro v;rw[EW _ _ _ (by omega),p,hX,Cc,q];grind
 refine⟨fun J => ?_,fun b7 => ?_⟩
 ·have b8:d=0\/1<=d:=by omega
  have K:d<4294967296:=by omega
  refine⟨by simpa using m1,Ds l (by omega),?_,?_⟩
  ·rw[u,HR J K,TA,Be,Be,Cx]
  ·rw[ZU (us:=us) (k := -(g*An vs)) (by simpa using m1) (by omega) (fun t D=>by rw[Dp (by omega)];exact o t (by omega)) (by rw[u,HR J K,TA,Be,Be,Cx,F8];omega)];omega
 ·have Z:1<=g:=by
   apply Ma.1;intro hh;have a7:g=0:=by omega
   have:=BK (G5 s j);rw[a7,Cs] at Y;have:=Ax (show d <= -1 by omega) (show 0<=P by omega);omega
  refine⟨?_,Z⟩;have a8:B9 (h.set (j+F vs) (d % 4294967296)):=Ds l (by omega);obtain⟨a1,w,a3,L,x⟩:=ZT hv (F vs) 0 (h.set (j+F vs) (d % 4294967296)) 0 (by omega) (show j+F vs<=_ by rw[BH];omega) a8 (by omega);generalize Kx vs j (F vs) 0 (h.set (j+F vs) (d % 4294967296)) 0=A at *
  have y:=x (j+F vs) (by omega);have M:F A.1=F us:=by rw[a1,BH,m1]
  have a9:H (h.set (j+F vs) (d % 4294967296)) (j+F vs) 0=d % 4294967296:=by
   simp[Ad,show j+F vs<F h by omega]
  rw[a9] at y;rw[y];rw[Cv,DA,Cx,u,Cc,q] at L;have N:∀ v:Int,An (A.1.set (j+F vs) v)=An us-4294967296^j*((g-1)*An vs)+4294967296^j*(P*(v-d-A.2)):=by
   intro v;rw[EW _ _ _ (by omega),L,y,Cc,q];grind
  have O:∀ v:Int,An ((A.1.set (j+F vs) v).drop j)=An (us.drop j)-(g-1)*An vs+P*(v-d-A.2):=by
   intro v;have:=ZU (us:=us) (ws:=A.1.set (j+F vs) v) (j:=j) (k:=P*(v-d-A.2)-(g-1)*An vs) (by simpa using M) (by omega) (fun t D=>by rw[Dp (by omega),x t (by omega),Dp (by omega)];exact o t (by omega)) (by rw[N];grind);omega
  have b9:0<=An (us.drop j)-(g-1)*An vs:=by
   have:(g-1)*An vs=g*An vs-An vs:=by grind
   omega
  have b0:An (us.drop j)-(g-1)*An vs<An vs:=by
   have h3:(g-1)*An vs=g*An vs-An vs:=by grind
   have h4:=Ax (show d <= -1 by omega) (show 0<=P by omega);omega
  have c0:A.2 = -d:=by
   have q0:=O 0;have Q:=BK (G5 (Ds w (i:=j+F vs) (v:=0) (by omega)) j);have b1:An ((A.1.set (j+F vs) 0).drop (j+F vs+1))=0:=by
    have:(A.1.set (j+F vs) 0).drop (j+F vs+1)=h.drop (j+F vs+1):=by
     apply HP;intro t;rw[Cb,Cb];have R:=x (j+F vs+1+t) (by omega);rw[Dp (by omega)] at R;have B:H (A.1.set (j+F vs) 0) (j+F vs+1+t) 0=H h (j+F vs+1+t) 0:=by rw[Dp (by omega)];exact R
     rw[Ad,Ad] at B;rcases CN (j+F vs+1+t) (F us) with k | k
     ·rw[Am (by simp;omega),Am (by omega)] at B |-;simpa using B
     ·rw[Bi (by simp;omega),Bi (by omega)]
    rw[this];exact E
   have r:=sW (us:=A.1.set (j+F vs) 0) (j:=j) (n:=F vs) (by simp;omega) b1;have q3:H (A.1.set (j+F vs) 0) (j+F vs) 0=0:=by simp[Ad,show j+F vs<F A.1 by omega]
   have C:=HK (G5 (Ds w (i:=j+F vs) (v:=0) (by omega)) j) (F vs);rw[q] at r C;rw[q3,Be,Cx] at r;rw[q0] at Q r;rw[<- r] at C;generalize An (us.drop j)-(g-1)*An vs=f at *
   have e5:P*(0-d-A.2)=P*(-d-A.2):=by rw[Int.zero_sub]
   rw[e5] at Q C;have c1 : -d-A.2<1:=by
    apply FI.1;intro hc;have:=Ax hc (show 0<=P by omega);omega
   have c2 : -1 < -d-A.2:=by
    apply FI.1;intro hc;have:=Ax hc (show 0<=P by omega);omega
   omega
  have b2:(d % 4294967296+A.2) % 4294967296=0:=by omega
  rw[b2];refine⟨by simpa using M,Ds w (by omega),?_,?_⟩
  ·rw[N,show (0:Int)-d-A.2=0 by omega,Be,Be,Cx]
  ·rw[O,show (0:Int)-d-A.2=0 by omega,Be,Cx];exact b0
def B5:G->Nat
 | []=>0
 | x::xs=>FO (I x) (B5 xs)
theorem No(d:Nat):∀ xs:G,d∣B5 xs↔∀ i,(d:Int)∣H xs i 0
 | []=>by simp[B5]
 | x::xs=>by
  have a:=No d xs;simp only[B5,Nat.dvd_gcd_iff,a];constructor
  ·rintro⟨h1,h2⟩ i;cases i with
   | zero=>simpa using Il.2 h1
   | succ i=>simpa using h2 i
  ·intro h;refine⟨Il.1 (by simpa using h 0),fun i=>by simpa using h (i+1)⟩
theorem Jl(xs:G)(i:Nat):(B5 xs:Int)∣H xs i 0:=(No _ xs).1 (Nat.dvd_refl _) i
theorem SW{xs ys:G}(h:∀ i,H xs i 0=H ys i 0):B5 xs=B5 ys :=
 Nat.dvd_antisymm ((No _ _).2 fun i=>h i ▸ Jl xs i) ((No _ _).2 fun i=>h i ▸ Jl ys i)
theorem ZV(xs:G):B5 (Af xs)=B5 xs:=SW (Ei xs)
theorem Ls{xs:G}:B5 xs=0↔∀ i,H xs i 0=0:=by
 constructor
 ·intro h i;have:=Jl xs i;rw[h] at this;exact Int.zero_dvd.1 this
 ·intro h;have:B5 xs=B5 []:=SW fun i=>by rw[h i];simp
  rw[this];rfl
theorem Ky(k:Int):∀ xs:G,B5 (AM k xs)=I k*B5 xs
 | []=>rfl
 | x::xs=>by
  have a:=Ky k xs;simp only[AM,CW,B5] at *
  rw[a,C1,Nat.gcd_mul_left]
theorem DY{xs:G}:Af xs=[]↔∀ i,H xs i 0=0:=by
 constructor
 ·intro h i;rw[<- Ei,h];simp
 ·intro h;have:Af xs=Af []:=HI fun i=>by rw[h i];simp
  rw[this];rfl
theorem Lt{xs:G}(h:Af xs ≠ []):0<B5 xs:=by
 rcases Gk (B5 xs) with g | g
 ·exact absurd (DY.2 (Ls.1 g)) h
 ·exact g
theorem Ml{k:Int}(a:k ≠ 0)(xs:G):Af (AM k xs)=AM k (Af xs):=by
 have e:∀ n,p (AM k xs) n=p xs n:=by
  intro n;induction n with
  | zero=>rfl
  | succ n b =>
   simp only[p,b,Bt];by_cases h:H xs n 0=0
   ·rw[h,Be]
   ·rw[Aw h,Aw (Bv a h)]
 simp only[Af];rw[e,show F (AM k xs)=F xs by simp[AM]];simp[AM,Od]
def prim(xs:G):G:=(Af xs).map fun x=>x / (B5 xs:Int)
theorem Lu(xs:G)(i:Nat):H (prim xs) i 0=H xs i 0 / (B5 xs:Int):=by
 rw[<- Ei xs i];simp only[prim,Ad,CC];cases (Af xs)[i]? <;> simp
theorem CO(xs:G):F (prim xs)=F (Af xs):=by simp [prim]
theorem SX(xs:G)(i:Nat):(B5 xs:Int)*H (prim xs) i 0=H xs i 0:=by
 rw[Lu];exact Lh (Jl xs i)
theorem Np{xs a:G}(h:∀ i,H xs i 0=H a i 0):prim xs=prim a:=by
 simp only[prim];rw[HI h,SW h]
theorem EM{xs:G}:prim xs=[]↔∀ i,H xs i 0=0:=by
 rw[<- DY];simp[prim]
theorem RT{k:Int}(a:0<k)(xs:G):prim (AM k xs)=prim xs:=by
 simp only[prim];rw[Ml (by omega),Ky];simp only[AM,Rr];apply GP;intro x _;simp only[AGe];rw[Eg,Ol (by omega),Int.mul_ediv_mul_of_pos _ _ a]
theorem nQ{k:Int}(b:0<k){xs a:G}(h:∀ i,H a i 0=k*H xs i 0):prim a=prim xs:=by
 rw[<- RT b xs];exact Np fun i=>by rw[h,Bt]
theorem Abn{xs:G}(h:p xs (F xs)=F xs):Af xs=xs:=by simp [Af,h]
def Cw(xs:G):Prop:=Af xs=xs
theorem GI(xs:G):Cw (Af xs):=GG xs
theorem EN{xs:G}(h:Cw xs)(hn:xs ≠ []):H xs (F xs-1) 0 ≠ 0:=by
 have e:=congrArg F h;rw[MR] at e;rcases iE xs (F xs) with g | g
 ·rw[g] at e;exact absurd (AU e.symm) hn
 ·rw[e] at g;exact g
theorem Vy{xs:G}(h:xs=[]\/H xs (F xs-1) 0 ≠ 0):Cw xs:=by
 rcases h with rfl | h
 ·rfl
 ·cases a:F xs with
  | zero=>rw[AU a];rfl
  | succ n =>
   apply Abn;rw[a];simp only[p];rw[Aw (by rw[a] at h;simpa using h)]
theorem sX{k:Int}(a:k ≠ 0){xs:G}(h:Cw xs):Cw (AM k xs):=by
 unfold Cw;rw[Ml a,h]
theorem O0(xs:G):AM (B5 xs) (prim xs)=Af xs:=by
 apply Nn
 ·simp[AM,CO]
 ·intro i;rw[Bt,SX,Ei]
theorem De(xs:G):Cw (prim xs):=by
 by_cases h:Af xs=[]
 ·rw[EM.2 (DY.1 h)];rfl
 ·have hc:=Lt h;have h1:=GI xs;rw[<- O0] at h1;unfold Cw at h1 |-;rw[Ml (by omega)] at h1;have e:∀ a b:G,AM (B5 xs) a=AM (B5 xs) b->a=b:=by
   intro a b c;have d:=congrArg F c;simp only[AM,Ac] at d;apply Nn d;intro i;have:=congrArg (fun l:G=>H l i 0) c;simp only[Bt] at this;exact GA (by omega) this
  exact e _ _ h1
theorem NF{xs:G}(h:Af xs ≠ []):B5 (prim xs)=1:=by
 have hc:=Lt h;have h1:=Ky (B5 xs) (prim xs);rw[O0,ZV,C9] at h1;have h2:B5 xs*1=B5 xs*B5 (prim xs):=by rw[H9];exact h1
 exact (Nat.eq_of_mul_eq_mul_left hc h2).symm
theorem WL{xs:G}(h:B5 xs=1):prim xs=Af xs:=by
 simp only[prim,h];rw[show (fun x:Int=>x / ((1:Nat):Int))=id by funext x;simp];simp
theorem CP(xs:G):prim (prim xs)=prim xs:=by
 by_cases h:Af xs=[]
 ·rw[EM.2 (DY.1 h)];rfl
 ·rw[WL (NF h)];exact De xs
theorem WM{K:Nat}{x:Int}(h:u K x)(c:Nat):u K (x / (c:Int))\/¬ (c:Int)∣x:=by
 by_cases hd:(c:Int)∣x
 ·left;obtain⟨y,rfl⟩:=hd;rcases Gk c with a | a
  ·subst a;simpa using h
  ·rw[CL _ (by omega)];unfold u at *
   rw[C1,C9] at h;have:=gB (I y) a;omega
 ·exact TQ hd
theorem Abo{K:Nat}{xs:G}(h:∀ i,u K (H xs i 0))(i:Nat):u K (H (prim xs) i 0):=by
 rw[Lu];rcases WM (h i) (B5 xs) with g | g
 ·exact g
 ·exact absurd (Jl xs i) g
def Kb(K:Nat)(r:G):Prop:=∀ i,u K (H r i 0)
theorem Kb.mono{a K:Nat}{r:G}(h:Kb a r)(b:a<=K):Kb K r:=fun i=>(h i).mono b
section
variable{K:Nat}{r:G}
theorem Kb.mem(h:Kb K r):∀ x∈r,u K x:=fun x hx=>by
 obtain⟨i,hi,rfl⟩:=AHq.1 hx;have:=h i;rwa [Ad,Am hi] at this
theorem KL(h:∀ x∈r,u K x):Kb K r:=ZO h
theorem Kb.prim(h:Kb K r):Kb K (prim r):=Abo h
theorem Kb.trim(h:Kb K r):Kb K (Af r):=fun i=>by rw [Ei];exact h i
end
def top(r:G):Int:=H r (F r-1) 0
section
variable(r d:G)(a b:Int)(n:Nat)
def D7:G:=(Ay n).map fun i=>if F r-F d<=i then a*H r i 0-b*H d (i-(F r-F d)) 0 else a*H r i 0
theorem F1:F (D7 r d a b n)=n:=by simp [D7]
end
theorem HV(f:Nat->Int)(n i:Nat):H ((Ay n).map f) i 0=if i<n then f i else 0:=by
 rw[Ad,CC];by_cases h:i<n
 ·rw[AJj h,Ar h];rfl
 ·rw[Bi (by simpa using h),Aw h];rfl
theorem Ie(r d:G)(a b:Int)(n i:Nat):H (D7 r d a b n) i 0=if i<n then (if F r-F d<=i then a*H r i 0-b*H d (i-(F r-F d)) 0 else a*H r i 0) else 0:=HV _ _ _
theorem Vz{c K:Nat}{r d:G}{a b:Int}(hr:Kb c r)(hd:Kb K d)(e:u K a)(hb:u c b)(n:Nat):Kb (c+K+1) (D7 r d a b n):=by
 intro i;rw[Ie];have h1:=(u.mul e (hr i));have h2:=(u.mul hb (hd (i-(F r-F d))));rw[H0] at h1;split
 ·split
  ·exact h1.add h2.neg
  ·exact h1.mono (by omega)
 ·exact Ib _
theorem ZW{r d:G}{a b:Int}(hd:d ≠ [])(c:F d<=F r)(h:a*top r=b*top d)(i:Nat):H (D7 r d a b (F r)) i 0=H (D7 r d a b (F r-1)) i 0:=by
 have:=Av.2 hd;rw[Ie,Ie];by_cases h1:i<F r-1
 ·rw[Ar h1,Ar (by omega)]
 ·rw[Aw h1];split
  ·have:i=F r-1:=by omega
   subst this;rw[Ar (by omega),show F r-1-(F r-F d)=F d-1 by omega];unfold top at h;omega
  ·rfl
theorem sY(r d:G)(k a b:Int)(n i:Nat):H (D7 r d (k*a) (k*b) n) i 0=k*H (D7 r d a b n) i 0:=by
 rw[Ie,Ie];split
 ·split
  ·rw[Gs,Bm,Bm]
  ·rw[Bm]
 ·simp
theorem sZ(r d:G)(c a b:Int)(n:Nat):D7 r (AM c d) a b n=D7 r d a (b*c) n:=by
 apply Nn (by rw[F1,F1]);intro i;rw[Ie,Ie,Bt,show F (AM c d)=F d by simp[AM]];rw[Bm]
def sg(n:Int):Int:=if n<0 then -1 else 1
theorem ACl(n:Int):sg n*n=(I n:Int):=by unfold sg;split <;> omega
def EO(r d:G):G:=prim (D7 r d (I (top d)) (sg (top d)*top r) (F r))
def Fi:Nat->G->G->G
 | 0,r,_=>r
 | f+1,r,d=>if F d<=F r then Fi f (EO r d) d else r
theorem eZ(r d:G):(I (top d):Int)*top r=sg (top d)*top r*top d:=by
 rw[<- ACl];grind
theorem ZX{r d:G}(hd:d ≠ [])(a:F d<=F r):EO r d=prim (D7 r d (I (top d)) (sg (top d)*top r) (F r-1)) :=
 Np (ZW hd a (eZ r d))
theorem LN{r d:G}(hd:d ≠ [])(a:F d<=F r):F (EO r d)<F r:=by
 have:=Av.2 hd;rw[ZX hd a,CO];have:=Ct (D7 r d (I (top d)) (sg (top d)*top r) (F r-1));rw[F1] at this;omega
theorem Abp(c:Int)(d:G):top (AM c d)=c*top d:=by
 unfold top;rw[Bt,show F (AM c d)=F d by simp[AM]]
theorem tA{c:Int}(hc:0<c)(n:Int):sg (c*n)=sg n:=by
 unfold sg;have:c*n<0↔n<0:=by
  constructor
  ·intro h;apply FI.1;intro hn;have:=A8 (show 0<=c by omega) hn;omega
  ·intro h;exact It hc h
 simp only[this]
theorem XV{r d:G}{c g a b:Int}(hc:0<c)(e:0<g)(f:g*a=(I (top d):Int))(hb:g*b=sg (top d)*top r):EO r (AM c d)=prim (D7 r d a b (F r)):=by
 unfold EO;rw[sZ,Abp,tA hc,C1];apply nQ (k:=c*g) (Br hc e);intro i;rw[<- sY];congr 2
 ·rw[Bm,f,Eg,Ol (by omega)]
 ·rw[Bm c g b,hb];grind
theorem nR{c:Int}(hc:0<c)(r d:G):EO r (AM c d)=EO r d:=by
 rw[XV (g:=1) (a:=(I (top d):Int)) (b:=sg (top d)*top r) hc (by decide) (by omega) (by omega)];rfl
theorem nS{c:Int}(hc:0<c)(d:G):∀ (f:Nat) (r:G),Fi f r (AM c d)=Fi f r d:=by
 intro f;induction f with
 | zero=>intro r;rfl
 | succ f a =>
  intro r;simp only[Fi];rw[show F (AM c d)=F d by simp[AM],nR hc,a]
theorem XW(r d:G):Cw (EO r d):=De _
theorem FT{K:Nat}{d:G}(h:Kb K d):u K (top d):=h _
theorem SY{K:Nat}{n:Int}(h:u K n):u K (I n):=by unfold u at *;rwa [C9]
theorem A0u{K:Nat}{m n:Int}(h:u K n):u K (sg m*n):=by
 unfold u sg at *;split <;> simpa using h
theorem WN{a K:Nat}{r d:G}(hr:Kb a r)(hd:Kb K d):Kb (a+K+1) (EO r d) :=
 (Vz hr hd (SY (FT hd)) (A0u (FT hr)) _).prim
theorem WO{d:G}(hd:d ≠ []){K:Nat}(c:Kb K d):∀ (f:Nat) (r:G) (a:Nat),F r<=f->Cw r->Kb a r ->
  Cw (Fi f r d)/\F (Fi f r d)<F d/\Kb (a+(F r+1-F d)*(K+1)) (Fi f r d):=by
 have l:=Av.2 hd;intro f;induction f with
 | zero =>
  intro r a h1 h2 b;exact⟨h2,by simp only[Fi];omega,b.mono (TC _ _)⟩
 | succ f g =>
  intro r a h1 h2 b;simp only[Fi];split
  ·rename_i h;have hp:=LN hd h;obtain⟨i,j,k⟩:=g (EO r d) (a+K+1) (by omega) (XW r d) (WN b c);refine⟨i,j,k.mono ?_⟩;have e:(F (EO r d)+1-F d)+1<=F r+1-F d:=by omega
   have:=Bf (K+1) e;rw[DU,Gi] at this;omega
  ·exact⟨h2,by omega,b.mono (TC _ _)⟩
def t(x y:G):G:=Fi (F x) x y
def Kj:Nat->G->G->G
 | 0,x,_=>x
 | f+1,x,y=>if y=[] then x else Kj f y (t x y)
def y(x:G):G:=if top x<0 then z x else x
theorem Kz(d:G):∀ (f:Nat) (r:G),prim r=r->prim (Fi f r d)=Fi f r d:=by
 intro f;induction f with
 | zero=>intro r h;exact h
 | succ f a =>
  intro r h;simp only[Fi];split
  ·exact a _ (CP _)
  ·exact h
theorem Dm{r:G}(h:prim r=r):Cw r:=h ▸ De r
theorem Abq{m l:Nat}(h:l<m):(m-l+2)*3^l<=3^m:=by
 obtain⟨k,rfl⟩:∃ k,m=l+1+k:=⟨m-l-1,by omega⟩;rw[show l+1+k-l+2=k+3 by omega,show l+1+k=(k+1)+l by omega,Dw];apply Bf;clear h;induction k with
 | zero=>decide
 | succ k a=>rw[GV];omega
def Lv(n m:Nat):Nat:=(n-m+2)*3^m
theorem Nq{x y:G}{M:Nat}(d:0<M)(hx:Cw x)(hy:y ≠ [])(e:Kb (M-1) x)(f:Kb (M-1) y)(g:F y<=F x) :
  Cw (t x y)/\F (t x y)<F y/\Kb (M*(F x-F y+2)-1) (t x y):=by
 obtain⟨a,b,c⟩:=WO hy f (F x) x (M-1) (A2 _) hx e;refine⟨a,b,c.mono ?_⟩;rw[O1 d,show F x+1-F y=F x-F y+1 by omega,Du _ M];have:M*(F x-F y+2)=M*(F x-F y+1)+M:=by rw[<- TB]
 omega
theorem Nr{n m l M a:Nat}(b:l<m)(h:M*Lv n m<=a):M*(n-m+2)*Lv m l<=a:=by
 refine B6 ?_ h;unfold Lv;rw[Gj];apply Bu;apply Bu;exact Abq b
theorem RU{n m c:Nat}(h:m<=n)(hn:n<=c):Lv n m<=2*3^c:=by
 have h1:Lv n m<=2*3^n:=by
  unfold Lv;obtain⟨k,rfl⟩:∃ k,n=m+k:=⟨n-m,by omega⟩;rw[show m+k-m+2=k+2 by omega,Dw,Du (3^m),<- Gj];apply Bf;clear h hn;induction k with
  | zero=>decide
  | succ k a=>rw[GV];omega
 exact B6 h1 (Bu _ (B_ (by decide) hn))
def AE(p:G):G:=Af ((Ay (F p-1)).map fun j=>H p (j+1) 0*((j+1:Nat):Int))
theorem Ej(p:G)(i:Nat):H (AE p) i 0=H p (i+1) 0*((i+1:Nat):Int):=by
 unfold AE;rw[Ei,HV];split
 ·rfl
 ·rw[Cp (xs:=p) (by omega),Cs]
theorem ZY{a b:Int}{us bs cs:G}(h:∀ i,H cs i 0=a*H us i 0+b*H bs i 0)(x:Int):Ah cs x=a*Ah us x+b*Ah bs x:=by
 have e:Ah cs x=Ah (EQ (AM a us) (AM b bs)) x:=H_ (fun i=>by rw[h,EC,Bt,Bt]) x;rw[e,CD,AN,AN]
section
variable(k:Nat)(q:G)
def Ek:G:=AI k 0++q
theorem Db(i:Nat):H (Ek k q) i 0=if k<=i then H q (i-k) 0 else 0:=by
 simp only[Ek,Ad,List.getElem?_append,GJ];split
 next h=>rw[Aw (by omega),Axq h];rfl
 next h=>rw[Ar (by omega)]
theorem Er(x:Int):Ah (Ek k q) x=x^k*Ah q x:=by
 induction k with
 | zero=>simp[Ek]
 | succ k a =>
  have:Ek (k+1) q=0::Ek k q:=by simp[Ek,GO]
  rw[this];simp only[Ah];rw[a,AD];grind
end
theorem Ut{r d:G}(c:F d<=F r)(a b x:Int):Ah (D7 r d a b (F r)) x=a*Ah r x-b*(x^(F r-F d)*Ah d x):=by
 rw[<- Er];have:=ZY (a:=a) (b := -b) (us:=r) (bs:=Ek (F r-F d) d) (cs:=D7 r d a b (F r)) (fun i=>by
  rw[Ie,Db];by_cases h:i<F r
  ·rw[Ar h];split
   ·rw[O'];omega
   ·simp
  ·rw[Aw h,Cp (show F r<=i by omega)];have:H d (i-(F r-F d)) 0=0:=Cp (by omega);split
   ·rw[this];simp
   ·simp) x
 rw[this,O'];omega
theorem Gq(a:Int)(p q:G)(i:Nat):H (Cg (a::p) q) i 0=a*H q i 0+H (Ek 1 (Cg p q)) i 0:=by
 simp only[Cg];rw[EC,Bt];rfl
theorem SZ:∀ (p q:G),p ≠ []->q ≠ []->H (Cg p q) (F p+F q-2) 0=top p*top q/\∀ i,F p+F q-1<=i->H (Cg p q) i 0=0
 | [],q,h,_=>absurd rfl h
 | [a],q,_,c=>by
  have d:=Av.2 c;refine⟨?_,fun i hi => ?_⟩
  ·rw[Gq,Db,show F [a]+F q-2=F q-1 by simp;omega];simp[Cg,top]
  ·rw[Gq,Db,Cp (show F q<=i by simp at hi;omega)];simp[Cg]
 | a::b::p,q,_,c=>by
  have d:=Av.2 c;obtain⟨h1,h2⟩:=SZ (b::p) q (by simp) c;refine⟨?_,fun i hi => ?_⟩
  ·rw[Gq,Db,Ar (by simp;omega)];simp only[BM] at *
   rw[Cp (show F q<=F p+1+1+F q-2 by omega),show F p+1+1+F q-2-1=F p+1+F q-2 by omega,h1];simp[top]
  ·rw[Gq,Db];simp only[BM] at *
   rw[Cp (show F q<=i by omega)];split
   ·rw[h2 _ (by omega)];simp
   ·simp
theorem ES{p:G}(h:Af p=[])(x:Int):Ah p x=0:=by rw [<- EU,h];rfl
theorem V0{p q o1 e o2 r2:G}{c1 c2:Int}(h:Cw q)(f:q ≠ [])(h1:∀ x,c1*Ah p x=Ah q x*Ah o1 x+Ah e x)(h2:∀ x,c2*Ah p x=Ah q x*Ah o2 x+Ah r2 x)
  (j:∀ i,F q-1<=i->H e i 0=0) (k:∀ i,F q-1<=i->H r2 i 0=0) (i:Nat):c2*H o1 i 0=c1*H o2 i 0:=by
 have s:=Av.2 f;have d:Af (ND (AM c2 o1) (AM c1 o2))=[]:=by
  apply A6;intro d;have l:∀ x,Ah (Cg q (Af (ND (AM c2 o1) (AM c1 o2)))) x=Ah (ND (AM c1 r2) (AM c2 e)) x:=by
   intro x;rw[B8,EU,G1,G1,AN,AN,AN,AN];have a:=h1 x;have b:=h2 x;grind
  generalize m:Af (ND (AM c2 o1) (AM c1 o2))=c at *
  have n:Cw c:=m ▸ GI _;have t:=Av.2 d;have g:=(SZ q c f d).1;rw[Eb l,Us,Bt,Bt,j _ (by omega),k _ (by omega)] at g;have o:=EN h f;have r:=EN n d;rw[Be,Be,FV] at g;exact Bv o r g.symm
 have:=DY.1 d i;rw[Us,Bt,Bt] at this;omega
theorem V3{o1 o2:G}{c1 c2:Int}(a:0<c1)(b:0<c2)(h:∀ i,c2*H o1 i 0=c1*H o2 i 0):prim o1=prim o2:=by
 rw[<- RT b o1,<- RT a o2];exact Np fun i=>by rw[Bt,Bt];exact h i
section
variable(r q:G)(l:Int)
def IX(k:Nat):G:=(Ay (F r)).map fun i=>if k<=i then H r i 0-l*H q (i-k) 0 else H r i 0
theorem O2(k i:Nat)(a:k+F q<=F r):H (IX r q l k) i 0=H r i 0-l*H (Ek k q) i 0:=by
 rw[IX,HV,Db];split
 ·split <;> simp
 ·rw[Cp (show F r<=i by omega),Cp (xs:=q) (show F q<=i-k by omega)];simp
theorem I0(k:Nat):F (IX r q l k)=F r:=by simp [IX]
end
def IY(q:G):Nat->G->G->G
 | 0,_,out=>out
 | k+1,r,out=>IY q k (IX (AM (top q) r) q (H r (k+F q-1) 0) k) ((AM (top q) out).set k (H r (k+F q-1) 0))
theorem BR(a:Int)(q:G):F (AM a q)=F q:=by simp [AM]
theorem A0v{p q:G}(m:q ≠ [])(n:0<top q):∀ (k:Nat) (r out:G) (c:Int),0<c->k<=F out->F out+F q=F r+1->(∀ i,k+F q-1<=i->H r i 0=0)->(∀ i,i<k->H out i 0=0) ->
  (∀ x,c*Ah p x=Ah q x*Ah out x+Ah r x) ->
  ∃ d f,0<d/\(∀ i,F q-1<=i->H f i 0=0)/\F (IY q k r out)=F out/\∀ x,d*Ah p x=Ah q x*Ah (IY q k r out) x+Ah f x:=by
 have z:=Av.2 m;intro k;induction k with
 | zero =>
  intro r out c hc _ _ hz _ g;exact⟨c,r,hc,fun i hi=>hz i (by omega),rfl,g⟩
 | succ k o =>
  intro r out c hc A s hz h g;simp only[IY];generalize t:H r (k+F q-1) 0=l at *
  have j:k+F q<=F (AM (top q) r):=by rw[BR];omega
  obtain⟨d,f,u,v,w,y⟩:=o (IX (AM (top q) r) q l k) ((AM (top q) out).set k l) (top q*c) (Br n hc) (by rw[BH,BR];omega) (by rw[BH,BR,I0,BR];exact s)
   (fun i hi=>by
    rw[O2 _ _ _ _ _ j,Bt,Db];by_cases h1:i=k+F q-1
    ·subst h1;rw[t,Ar (by omega),show k+F q-1-k=F q-1 by omega];unfold top;grind
    ·rw[hz i (by omega),Cp (xs:=q) (show F q<=i-k by omega)];simp)
   (fun i hi=>by rw[Dp (by omega),Bt,h i (by omega),Be])
   (fun x=>by
    rw[ZP _ _ _ _ (by rw[BR];omega),Bt,h k (by omega),AN];have e:=ZY (a:=1) (b := -l) (us:=AM (top q) r) (bs:=Ek k q) (cs:=IX (AM (top q) r) q l k) (fun i=>by rw[O2 _ _ _ _ _ j,O'];omega) x;rw[e,AN,Er];have:=g x;grind)
  exact⟨d,f,u,v,by rw[w,BH,BR],y⟩
theorem XX{p q:G}(a:q ≠ [])(d:0<top q)(e:F q<=F p):∃ b c,0<b/\(∀ i,F q-1<=i->H c i 0=0)/\F (IY q (F p-F q+1) p (AI (F p-F q+1) 0))=F p-F q+1 /\
  ∀ x,b*Ah p x=Ah q x*Ah (IY q (F p-F q+1) p (AI (F p-F q+1) 0)) x+Ah c x:=by
 have f:=Av.2 a;have h:=A0v (p:=p) a d (F p-F q+1) p (AI (F p-F q+1) 0) 1 (by decide) (by simp) (by simp;omega) (fun i hi=>Cp (by omega)) (fun i _=>EB _ _) (fun x=>by rw[Vx];omega);rw[GJ] at h;exact h
def NG(d:G):Nat->G->G->G
 | 0,_,out=>out
 | f+1,r,out=>if F d<=F r then NG d f (Af (D7 r d (top d) (top r) (F r-1))) ((AM (top d) out).set (F r-F d) (top r)) else out
theorem P1{r d:G}(a:d ≠ [])(b:F d<=F r):F (Af (D7 r d (top d) (top r) (F r-1)))<F r:=by
 have:=Av.2 a;have:=Ct (D7 r d (top d) (top r) (F r-1));rw[F1] at this;omega
theorem A0w{p d:G}(h:d ≠ [])(j:0<top d):∀ (f:Nat) (r out:G) (c:Int),F r<=f->0<c->F r+1<=F out+F d->(∀ i,i+F d<=F r->H out i 0=0) ->
  (∀ x,c*Ah p x=Ah d x*Ah out x+Ah r x) ->
  ∃ a b,0<a/\(∀ i,F d-1<=i->H b i 0=0)/\F (NG d f r out)=F out/\∀ x,a*Ah p x=Ah d x*Ah (NG d f r out) x+Ah b x:=by
 have t:=Av.2 h;intro f;induction f with
 | zero =>
  intro r out c k hc _ _ e;exact⟨c,r,hc,fun i hi=>Cp (by omega),rfl,e⟩
 | succ f l =>
  intro r out c k hc u hz e;simp only[NG];split
  ·rename_i g;have v:=P1 h g;obtain⟨a,b,m,n,o,q⟩:=l (Af (D7 r d (top d) (top r) (F r-1))) ((AM (top d) out).set (F r-F d) (top r)) (top d*c) (by omega) (Br j hc) (by rw[BH,BR];omega)
    (fun i hi=>by rw[Dp (by omega),Bt,hz i (by omega),Be])
    (fun x=>by
     rw[ZP _ _ _ _ (by rw[BR];omega),Bt,hz _ (by omega),AN,EU];have s:Ah (D7 r d (top d) (top r) (F r-1)) x=Ah (D7 r d (top d) (top r) (F r)) x:=H_ (fun i=>(ZW h g (AT _ _) i).symm) x;rw[s,Ut g];have:=e x;grind)
   exact⟨a,b,m,n,by rw[o,BH,BR],q⟩
  next g=>exact⟨c,r,hc,fun i hi=>Cp (by omega),rfl,e⟩
theorem RV{p d:G}(c:d ≠ [])(e:0<top d)(f:F d<=F p):∃ a b,0<a/\(∀ i,F d-1<=i->H b i 0=0)/\F (NG d (F p) p (AI (F p-F d+1) 0))=F p-F d+1 /\
  ∀ x,a*Ah p x=Ah d x*Ah (NG d (F p) p (AI (F p-F d+1) 0)) x+Ah b x:=by
 have h:=A0w (p:=p) c e (F p) p (AI (F p-F d+1) 0) 1 (A2 _) (by decide) (by simp;omega) (fun i _=>EB _ _) (fun x=>by rw[Vx];omega);rw[GJ] at h;exact h
theorem A0x{p q:G}(d:Cw q)(a:q ≠ [])(b:0<top q)(c:F q<=F p):prim (IY q (F p-F q+1) p (AI (F p-F q+1) 0))=prim (NG q (F p) p (AI (F p-F q+1) 0)):=by
 obtain⟨c1,k,e,f,_,g⟩:=XX a b c;obtain⟨l,m,h,i,_,j⟩:=RV a b c;exact V3 e h (V0 d a g j f i)
theorem iK{p q o r:G}{c:Int}(hc:0<c)(hp:0<top p)(a:q ≠ [])(e:0<top q)(m:F q<=F p)(b:F o=F p-F q+1)(h:∀ x,c*Ah p x=Ah q x*Ah o x+Ah r x)(z:∀ i,F q-1<=i->H r i 0=0):0<top o:=by
 have n:=Av.2 a;have f:o ≠ []:=by intro g;rw[g] at b;simp at b
 have j:=(SZ q o a f).1;have k:∀ x,Ah (AM c p) x=Ah (EQ (Cg q o) r) x:=fun x=>by rw[AN,CD,B8];exact h x
 have d:=Eb k (F p-1);rw[Bt,EC,z _ (by omega),show F p-1=F q+F o-2 by omega,j,Cx] at d;have l:0<top q*top o:=by
  rw[<- d,show F q+F o-2=F p-1 by omega];exact Br hc hp
 exact nT l e |> fun h=>h
theorem TR{o:G}(h:0<top o):0<top (prim o):=by
 have a:Cw o:=Vy (TQ (by unfold top at h;omega));unfold top;rw[CO,a,Lu];have hc:0<B5 o:=Lt (by rw[a];intro b;rw[b] at h;simp[top] at h);have hd:=SX o (F o-1);rw[Lu] at hd;unfold top at h;rw[<- hd] at h;exact nT h (by omega)
theorem Abr(c:Nat)(hc:1<c):∃ p,1<p/\p∣c/\∀ d,d∣p->d=1\/d=p:=by
 have h:∀ n,∀ m,m<=n->1<m->m∣c->∃ p,1<p/\p∣c/\∀ d,d∣p->d=1\/d=p:=by
  intro n;induction n with
  | zero=>intro m h1 h2;omega
  | succ n e =>
   intro m h1 h2 b;by_cases h:∀ d,d∣m->d=1\/d=m
   ·exact⟨m,h2,b,h⟩
   ·obtain⟨d,hd⟩:=Classical.not_forall.1 h;obtain⟨a,g⟩:=Classical.not_imp.1 hd;have i:=V4 (by omega) a;have j:d ≠ 0:=by intro f;subst f;have:=Nat.zero_dvd.1 a;omega
    exact e d (by omega) (by omega) (Nat.dvd_trans a b)
 exact h c c (A2 _) hc (Nat.dvd_refl _)
theorem Abs{p:Nat}(hp:∀ d,d∣p->d=1\/d=p){a b:Int}(h:(p:Int)∣a*b):(p:Int)∣a\/(p:Int)∣b:=by
 rcases hp (FO p (I a)) (Nat.gcd_dvd_left _ _) with g | g
 ·right;have h1:p∣I a*I b:=by rw[<- C1];exact Il.1 h
  exact Il.2 (Nat.Coprime.dvd_of_dvd_mul_left g h1)
 ·left;have:p∣I a:=by rw[<- g];exact Nat.gcd_dvd_right _ _
  exact Il.2 this
theorem WP(g:G)(b:Int)(k:G)(i:Nat):H (Cg g (b::k)) i 0=b*H g i 0+H (Ek 1 (Cg g k)) i 0:=by
 have h:=Eb (p:=Cg g (b::k)) (q:=EQ (AM b g) (Ek 1 (Cg g k))) (fun x=>by
  rw[B8,CD,AN,Er,B8];simp only[Ah,AD,DC];grind) i
 rw[h,EC,Bt]
theorem V5{p:Nat}(hp:∀ d,d∣p->d=1\/d=p):∀ (g k:G),(∀ i,(p:Int)∣H (Cg g k) i 0)->(¬ ∀ i,(p:Int)∣H g i 0)->∀ i,(p:Int)∣H k i 0
 | [],k,_,h=>absurd (fun i=>by simp) h
 | a::g,k,h,hn=>by
  by_cases c:(p:Int)∣a
  ·refine V5 hp g k (fun i => ?_) (fun h2=>hn fun i => ?_)
   ·have h1:=h (i+1);rw[Gq,Db,Ar (by omega)] at h1;exact (Axx (TS c (Wx _ _))).1 h1
   ·cases i with
    | zero=>simpa using c
    | succ i=>simpa using h2 i
  ·clear hn;induction k with
   | nil=>intro i;simp
   | cons b k j =>
    have f:=h 0;rw[Gq,Db,Aw (by omega),Cx] at f;have hb:(p:Int)∣b:=by
     rcases Abs hp f with e | e
     ·exact absurd e c
     ·simpa using e
    have h2:=j (fun i=>by
     have h1:=h (i+1);rw[WP,Db,Ar (by omega)] at h1;exact (Axx (TS hb (Wx _ _))).1 h1)
    intro i;cases i with
    | zero=>simpa using hb
    | succ i=>simpa using h2 i
theorem AIn{g:G}(j:B5 g=1):∀ (c:Nat) (k:G),0<c->(∀ i,(c:Int)∣H (Cg g k) i 0)->∀ i,(c:Int)∣H k i 0:=by
 intro c;induction c using Y4 with
 | ind c l =>
  intro k hc h;by_cases h1:c=1
  ·intro i;rw[h1];exact Int.one_dvd _
  ·obtain⟨p,m,⟨d,hd⟩,n⟩:=Abr c (by omega);have b:0<d:=by
    rcases Gk d with g | g
    ·rw[g,rD] at hd;omega
    ·exact g
   have o:d<c:=by rw[hd];exact (Nat.lt_mul_iff_one_lt_left b).2 m
   have q:=V5 n g k (fun i=>TS ⟨(d:Int),by rw[hd];push_cast;rfl⟩ (h i)) (fun h2=>by
    have:=(No p g).2 h2;rw[j] at this;have:=V4 (by decide) this;omega)
   have f:AM p (k.map fun x=>x / (p:Int))=k:=by
    apply Nn (by simp[AM]);intro i;rw[Bt];have e:H (k.map fun x=>x / (p:Int)) i 0=H k i 0 / (p:Int):=by
     simp only[Ad,CC];cases k[i]? <;> simp
    rw[e];exact Lh (q i)
   generalize k.map (fun x=>x / (p:Int))=a at f;subst f;have r:=l d o a b (fun i=>by
    have h2:=h i;have e:H (Cg g (AM p a)) i 0=(p:Int)*H (Cg g a) i 0:=by
     rw[<- Bt];exact Eb (fun x=>by rw[B8,AN,AN,B8];grind) i
    rw[e,hd,Eg] at h2;exact Int.dvd_of_mul_dvd_mul_left (by omega) h2)
   intro i;rw[Bt,hd,Eg];exact Int.mul_dvd_mul_left _ (r i)
def RW:G->Int->G
 | [],_=>[]
 | _::p,a=>EQ p (AM a (RW p a))
theorem S':∀ (p:G) (a x:Int),Ah p x-Ah p a=(x-a)*Ah (RW p a) x
 | [],a,x=>by simp[RW,Ah]
 | c::p,a,x=>by
  have b:=S' p a x;simp only[RW,Ah];rw[CD,AN];grind
theorem ZZ:∀ (p:G) (a:Int),F (RW p a)<=F p-1
 | [],a=>by simp[RW]
 | c::p,a=>by
  have b:=ZZ p a;have:=iJ p (AM a (RW p a));rw[BR] at this;simp only[RW,BM];omega
theorem iL(p:G)(a:Int)(i:Nat):H p i 0=H (Ah p a::RW p a) i 0-a*H (RW p a) i 0:=by
 have h:=Eb (p:=p) (q:=ND (Ah p a::RW p a) (AM a (RW p a))) (fun x=>by
  rw[G1,AN];simp only[Ah];have:=S' p a x;grind) i
 rw[h,Us,Bt]
theorem Z':∀ (n:Nat) (p:G) (l:G),F p<=n->l.Nodup->(∀ x∈l,Ah p x=0)->n<=F l->∀ i,H p i 0=0:=by
 intro n;induction n with
 | zero =>
  intro p l h _ _ _ i;rw[AU (by omega:F p=0)];simp
 | succ n j =>
  intro p l h1 h2 b c i;cases l with
  | nil=>simp at c
  | cons a l =>
   have d:=b a Ba;have e:=j (RW p a) l (by have:=ZZ p a;omega) (Qg.1 h2).2 (fun x hx=>by
    have f:=S' p a x;rw[d,b x (Bg _ hx)] at f;rcases F5.1 (f.symm.trans (by omega)) with g | g
    ·have k:x=a:=by omega
     subst k;exact absurd hx (Qg.1 h2).1
    ·exact g) (by simp at c;omega)
   rw[iL p a i,d,e i];cases i with
   | zero=>simp
   | succ i=>simpa using e i
theorem XY{R:Nat}:∀ (n:Nat) (g:G) (l:G) (M:Nat),F g<=n+1->l.Nodup->F l=n+1->(∀ x∈l,I x<=R/\I (Ah g x)<=M)->(∀ x∈l,∀ y∈l,x ≠ y->1<=I (x-y))->∀ i,I (H g i 0)<=M*(2*R+3)^n:=by
 intro n;induction n with
 | zero =>
  intro g l M h1 h2 d h _ i;cases l with
  | nil=>simp at d
  | cons a l =>
   have j:=h a Ba;cases g with
   | nil=>simp
   | cons c g =>
    have:g=[]:=by simpa using h1
    subst this;simp only[Ah,Be,Cx] at j;rw[Nat.pow_zero,H9];cases i with
    | zero=>simpa using j.2
    | succ i=>simp
 | succ n m =>
  intro g l M h1 h2 d h o i;cases l with
  | nil=>simp at d
  | cons a l =>
   obtain⟨p,v⟩:=h a Ba;have k:=m (RW g a) l (2*M) (by have:=ZZ g a;omega) (Qg.1 h2).2 (by simpa using d) (fun x hx=>by
    obtain⟨q,w⟩:=h x (Bg _ hx);refine⟨q,?_⟩;have r:=congrArg I (S' g a x);rw[C1] at r;have z:x ≠ a:=by intro e;subst e;exact absurd hx (Qg.1 h2).1
    have s:1<=I (x-a):=by omega
    have B:=gB (I (Ah (RW g a) x)) s;have C:I (Ah g x-Ah g a)<=2*M:=by omega
    omega) (fun x hx y hy=>o x (Bg _ hx) y (Bg _ hy))
   rw[iL g a i];have hX:1<=(2*R+3)^n:=E5 (by omega);have t:M*(2*R+3)^(n+1)=R*(2*M*(2*R+3)^n)+2*M*(2*R+3)^n+M*(2*R+3)^n:=by rw[GV];grind
   have D:M*1<=M*(2*R+3)^n:=Bu _ hX;have u:=k i;have E:I (a*H (RW g a) i 0)<=R*(2*M*(2*R+3)^n):=by rw[C1];exact Ck p u
   have J:I (H (Ah g a::RW g a) i 0)<=2*M*(2*R+3)^n+M*(2*R+3)^n:=by
    cases i with
    | zero=>simp only[LG];omega
    | succ i=>have:=k i;simp only[MQ];omega
   rw[t];generalize R*(2*M*(2*R+3)^n)=A at *
   generalize 2*M*(2*R+3)^n=b at *
   generalize M*(2*R+3)^n=f at *
   omega
theorem WQ{R a:Nat}:∀ (t:G) (x:Int),(∀ i,I (H t i 0)<=a)->I x<=R->I (Ah t x)<=a*(R+1)^F t
 | [],x,_,_=>by simp[Ah]
 | c::t,x,h,hx=>by
  have d:=WQ t x (fun i=>by simpa using h (i+1)) hx;have f:I c<=a:=by simpa using h 0
  simp only[Ah,BM];have h1:I (x*Ah t x)<=R*(a*(R+1)^F t):=by rw[C1];exact Ck hx d
  have h2:a*1<=a*(R+1)^F t:=Bu _ (E5 (by omega));have e:a*(R+1)^(F t+1)=R*(a*(R+1)^F t)+a*(R+1)^F t:=by rw[GV];grind
  rw[e];generalize R*(a*(R+1)^F t)=b at *
  omega
theorem Amr{t:G}{n:Nat}(c:Af t ≠ [])(d:F t<=n+1):∃ l:G,l.Nodup/\F l=n+1/\∀ x∈l,I x<=2*n/\Ah t x ≠ 0:=by
 have b:((Ay (2*n+1)).map fun i:Nat=>(i:Int)).Nodup:=by
  rw[eE,List.pairwise_map];exact (eE.1 List.nodup_range).imp (fun h=>by omega)
 have e:∀ x∈(Ay (2*n+1)).map fun i:Nat=>(i:Int),I x<=2*n:=by
  intro x hx;obtain⟨i,hi,rfl⟩:=DI.1 hx;have:=Hf.1 hi;omega
 have g:F ((Ay (2*n+1)).map fun i:Nat=>(i:Int))=2*n+1:=by simp
 generalize ((Ay (2*n+1)).map fun i:Nat=>(i:Int))=a at *
 have f:=Ain (fun x=>decide (Ah t x=0)) (l:=a);rw[JJ,JJ] at f;have j:F (a.filter fun x=>decide (Ah t x=0))<=n:=by
  apply QY;intro h;apply c;rw[DY];exact Z' (n+1) t (a.filter fun x=>decide (Ah t x=0)) d (b.filter _) (fun x hx=>by simpa using (DR.1 hx).2) (by omega)
 refine⟨(a.filter fun x=>decide ¬ (E (Ah t x=0))=true).take (n+1),(b.filter _).sublist (AJu _ _),?_,?_⟩
 ·rw[AX];omega
 ·intro x hx;obtain⟨h1,h2⟩:=DR.1 (C5 hx);exact⟨e x h1,by simpa using h2⟩
theorem Z_{t g k:G}{K:Nat}(e:Af t ≠ [])(d:F t<=9)(f:F g<=9)(j:Kb K t)(h:∀ x,Ah t x=Ah g x*Ah k x):Kb (K+3) g:=by
 obtain⟨l,m,o,p⟩:=Amr (n:=8) e d;have hb:∀ i,I (H t i 0)<=4294967296^K:=fun i=>Abm (j i);have h1:=XY (R:=16) 8 g l (4294967296^K*17^9) f m o (fun x hx=>by
  obtain⟨a,b⟩:=p x hx;refine⟨a,?_⟩;have h2:=WQ (R:=16) t x hb a;have c:=congrArg I (h x);rw[C1] at c;have q:1<=I (Ah k x):=by
   rcases Gk (I (Ah k x)) with g | g
   ·rw[g,rD] at c;omega
   ·exact g
  have r:=Dn (I (Ah g x)) q;have s:4294967296^K*17^F t<=4294967296^K*17^9:=Bu _ (B_ (by decide) d);exact B6 (B6 r (Nat.le_of_eq c.symm)) (B6 h2 s)) (fun x _ y _ v=>by omega)
 intro i;have h2:=h1 i;unfold u;refine Ey h2 ?_;rw[Gj,Dw];exact Nat.mul_lt_mul_of_pos_left (by decide) (E5 (by decide))
theorem RX{t g k:G}{c:Int}(hc:c ≠ 0)(b:B5 g=1)(h:∀ x,c*Ah t x=Ah g x*Ah k x):∃ d,∀ x,Ah t x=Ah g x*Ah d x:=by
 have h1:=Eb (p:=Cg g k) (q:=AM c t) (fun x=>by rw[B8,AN];exact (h x).symm);have h2:=AIn b (I c) k (by omega) (fun i=>by rw[h1,Bt];exact TS (ACm.2 (Int.dvd_refl _)) (Wx _ _));have f:AM c (k.map fun x=>x / c)=k:=by
  apply Nn (by simp[AM]);intro i;rw[Bt];have e:H (k.map fun x=>x / c) i 0=H k i 0 / c:=by
   simp only[Ad,CC];cases k[i]? <;> simp
  rw[e];exact Lh (ACm.1 (h2 i))
 refine⟨k.map fun x=>x / c,fun x => ?_⟩;have a:=h x;rw[<- f,AN] at a;apply GA hc;rw[a];grind
theorem V6{t g k:G}{c:Int}{K:Nat}(hc:c ≠ 0)(a:B5 g=1)(b:Af t ≠ [])(d:F t<=9)(e:F g<=9)(f:Kb K t)(h:∀ x,c*Ah t x=Ah g x*Ah k x):Kb (K+3) g:=by
 obtain⟨j,i⟩:=RX hc a h;exact Z_ b d e f i
def Dv(g t:G):Prop:=∃ (c:Int) (k:G),c ≠ 0/\∀ x,c*Ah t x=Ah g x*Ah k x
theorem Dv.refl(g:G):Dv g g:=⟨1,[1],by decide,fun x=>by simp [Ah]⟩
theorem Dv.zero(g:G):Dv g []:=⟨1,[],by decide,fun x=>by simp [Ah]⟩
theorem Dv.trans{a b c:G}(h1:Dv a b)(h2:Dv b c):Dv a c:=by
 obtain⟨m,k,d,h⟩:=h1;obtain⟨n,l,hn,g⟩:=h2;refine⟨m*n,Cg k l,Bv d hn,fun x => ?_⟩;have e:=h x;have f:=g x;rw[B8,Bm,f];rw[<- Bm,e];grind
theorem P2{g s t r:G}{m:Int}(u v:G)(f:m ≠ 0)(h1:Dv g s)(h2:Dv g t)(h:∀ x,m*Ah r x=Ah u x*Ah s x+Ah v x*Ah t x):Dv g r:=by
 obtain⟨c,k,hc,i⟩:=h1;obtain⟨d,l,hd,j⟩:=h2;refine⟨c*d*m,EQ (AM d (Cg u k)) (AM c (Cg v l)),Bv (Bv hc hd) f,fun x => ?_⟩;rw[CD,AN,AN,B8,B8];have a:=i x;have b:=j x;have e:=h x;rw[Bm,e];generalize Ah s x=s at *
 generalize Ah t x=t at *
 generalize Ah g x=g at *
 generalize Ah k x=k at *
 generalize Ah l x=l at *
 generalize Ah u x=u at *
 generalize Ah v x=v at *
 have n:c*d*(u*s+v*t)=d*u*(c*s)+c*v*(d*t):=by grind
 rw[n,a,b];grind
theorem Dv.scaled{g s r:G}{m n:Int}(a:m ≠ 0)(h1:Dv g s)(h:∀ x,m*Ah r x=n*Ah s x):Dv g r :=
 P2 [n] [] a h1 h1 fun x=>by rw[h x];simp[Ah]
theorem Dv.left{g f t:G}{m n:Int}(_:m ≠ 0)(hn:n ≠ 0)(h1:Dv g t)(h:∀ x,m*Ah f x=n*Ah g x):Dv f t:=by
 obtain⟨c,k,hc,d⟩:=h1;refine⟨n*c,AM m k,Bv hn hc,fun x => ?_⟩;have a:=d x;have b:=h x;rw[AN];have e:n*c*Ah t x=n*(c*Ah t x):=by grind
 rw[e,a];have i:n*(Ah g x*Ah k x)=(n*Ah g x)*Ah k x:=by grind
 rw[i,<- b];grind
theorem fA{g s:G}(t:G)(h:Dv g s){r:G}(hr:∀ x,Ah r x=Ah s x*Ah t x):Dv g r :=
 P2 (m:=1) t [] (by decide) h h fun x=>by rw[hr x];simp[Ah];grind
theorem Ca{p:G}(h:Cw p)(a:p ≠ []):Af p ≠ []:=by rw [h];exact a
theorem Mm{p q:G}(hp:Af p ≠ [])(b:Af q ≠ []):F (Af (Cg p q))=F (Af p)+F (Af q)-1:=by
 have e:Af (Cg p q)=Af (Cg (Af p) (Af q)):=Ic fun x=>by rw[B8,B8,EU,EU]
 rw[e];have c:=GI p;have d:=GI q;generalize Af p=P at *
 generalize Af q=a at *
 have h1:=Av.2 hp;have h2:=Av.2 b;obtain⟨f,g⟩:=SZ P a hp b;have i:H (Cg P a) (F P+F a-2) 0 ≠ 0:=by rw[f];exact Bv (EN c hp) (EN d b)
 rw[ZQ];have l:¬ F (Cg P a)<=F P+F a-2:=fun h=>i (Cp h);have m:¬ F P+F a-1<F (Cg P a):=fun h=>by
  have j:Cg P a ≠ []:=by intro k;rw[k] at h;simp at h
  exact EN (show Cw (Cg P a) from ZQ P a) j (g _ (by omega))
 omega
theorem Qh{p q:G}(hp:Af p ≠ [])(h:∀ x,Ah p x*Ah q x=0):∀ x,Ah q x=0:=by
 intro x;by_cases a:Af q=[]
 ·exact ES a x
 ·have h1:=Mm hp a;have h2:Af (Cg p q)=Af []:=Ic fun x=>by rw[B8,h x];rfl
  rw[h2] at h1;have:=Av.2 hp;have:=Av.2 a;have b:F (Af [])=0:=rfl;rw[b] at h1;omega
theorem Uu{p:G}(hp:Af p ≠ [])(q r:G)(h:∀ x,Ah p x*Ah q x=Ah p x*Ah r x):∀ x,Ah q x=Ah r x:=by
 intro x;have:=Qh (q:=ND q r) hp (fun x=>by rw[G1,Gs,h x];omega) x;rw[G1] at this;omega
theorem Dv.length{g t:G}(h:Dv g t)(i:Af t ≠ []):F (Af g)<=F (Af t)/\Af g ≠ []:=by
 obtain⟨c,k,hc,j⟩:=h;have e:Af (AM c t)=Af (Cg g k):=Ic fun x=>by rw[AN,B8];exact j x
 rw[Ml hc] at e;have a:=congrArg F e;rw[BR] at a;have l:=Av.2 i;by_cases b:Af g=[]
 ·have:Af (Cg g k)=Af []:=Ic fun x=>by rw[B8,ES b];simp[Ah]
  have d:F (Af [])=0:=rfl;rw[this,d] at a;omega
 ·by_cases f:Af k=[]
  ·have:Af (Cg g k)=Af []:=Ic fun x=>by rw[B8,ES f];simp[Ah]
   have d:F (Af [])=0:=rfl;rw[this,d] at a;omega
  ·rw[Mm b f] at a;have:=Av.2 f;exact⟨by omega,b⟩
def Gz(g s t:G):Prop:=Dv g s/\Dv g t/\∃ (c:Int) (u v:G),c ≠ 0/\∀ x,c*Ah g x=Ah u x*Ah s x+Ah v x*Ah t x
theorem Gz.comm{g s t:G}(h:Gz g s t):Gz g t s:=by
 obtain⟨a,b,c,u,v,hc,h⟩:=h;exact⟨b,a,c,v,u,hc,fun x=>by rw[h x];omega⟩
theorem Gz.dv{g s t f:G}(h:Gz g s t)(h1:Dv f s)(h2:Dv f t):Dv f g:=by
 obtain⟨_,_,c,u,v,hc,h⟩:=h;exact P2 u v hc h1 h2 h
theorem aA(s:G):Gz s s []:=⟨Dv.refl s,Dv.zero s,1,[1],[],by decide,fun x=>by simp [Ah]⟩
theorem Gz.length{f g s t:G}(h1:Gz f s t)(h2:Gz g s t)(c:Af f ≠ []):F (Af f)=F (Af g):=by
 have a:=(h1.dv h2.1 h2.2.1).length c;have b:=(h2.dv h1.1 h1.2.1).length a.2;omega
theorem Gz.step{g r d e q:G}{a m:Int}(b:a ≠ 0)(f:m ≠ 0)(hr:∀ x,a*Ah r x=Ah q x*Ah d x+m*Ah e x)(h:Gz g d e):Gz g r d:=by
 obtain⟨h1,h2,c,u,v,hc,h⟩:=h;refine⟨P2 q [m] b h1 h2 (fun x=>by rw[hr x];simp[Ah]),h1,c*m,AM a v,ND (AM m u) (Cg v q),Bv hc f,fun x => ?_⟩;have i:=hr x;have j:=h x;rw[AN,G1,AN,B8];generalize Ah g x=g at *
 generalize Ah d x=d at *
 generalize Ah e x=e at *
 generalize Ah r x=r at *
 generalize Ah q x=q at *
 generalize Ah u x=u at *
 generalize Ah v x=v at *
 have k:c*m*g=m*(c*g):=by grind
 rw[k,j];have l:a*v*r=v*(a*r):=by grind
 rw[l,i];grind
theorem Gz.scaled{g s t s' t':G}{m n k l:Int}(d:m ≠ 0)(hn:n ≠ 0)(e:k ≠ 0)(f:l ≠ 0)(h1:∀ x,m*Ah s' x=n*Ah s x)(h2:∀ x,k*Ah t' x=l*Ah t x)(h:Gz g s t):Gz g s' t':=by
 obtain⟨a,b,c,u,v,hc,h⟩:=h;refine⟨a.scaled d h1,b.scaled e h2,c*(n*l),AM (m*l) u,AM (k*n) v,Bv hc (Bv hn f),fun x => ?_⟩;have i:=h1 x;have j:=h2 x;have o:=h x;rw[AN,AN];generalize Ah g x=g at *
 generalize Ah s x=s at *
 generalize Ah t x=t at *
 generalize Ah s' x=s' at *
 generalize Ah t' x=t' at *
 generalize Ah u x=u at *
 generalize Ah v x=v at *
 have p:c*(n*l)*g=n*l*(c*g):=by grind
 rw[p,o];have q:m*l*u*s'=l*u*(m*s'):=by grind
 have r:k*n*v*t'=n*v*(k*t'):=by grind
 rw[q,r,i,j];grind
theorem Gz.gscaled{g e s t:G}{m n:Int}(d:m ≠ 0)(hn:n ≠ 0)(h1:∀ x,m*Ah e x=n*Ah g x)(h:Gz g s t):Gz e s t:=by
 obtain⟨a,b,c,u,v,hc,h⟩:=h;refine⟨a.left d hn h1,b.left d hn h1,c*m,AM n u,AM n v,Bv hc d,fun x => ?_⟩;have f:=h1 x;have i:=h x;rw[AN,AN,Bm,f];have j:c*(n*Ah g x)=n*(c*Ah g x):=by grind
 rw[j,i];grind
theorem Kk(p:G):∃ m:Int,m ≠ 0/\∀ x,Ah p x=m*Ah (prim p) x:=by
 by_cases h:Af p=[]
 ·refine⟨1,by decide,fun x => ?_⟩;rw[ES h,EM.2 (DY.1 h)];rfl
 ·have:=Lt h;refine⟨(B5 p:Int),by omega,fun x => ?_⟩;rw[<- AN,O0,EU]
theorem tB{r d:G}(b:F d<=F r)(f:top d ≠ 0):∃ (a m:Int) (q:G),a ≠ 0/\m ≠ 0/\∀ x,a*Ah r x=Ah q x*Ah d x+m*Ah (EO r d) x:=by
 obtain⟨m,c,h⟩:=Kk (D7 r d (I (top d)) (sg (top d)*top r) (F r));refine⟨(I (top d):Int),m,Ek (F r-F d) [sg (top d)*top r],by omega,c,fun x => ?_⟩;have h1:=h x;rw[Ut b] at h1;have e:Ah (EO r d) x=Ah (prim (D7 r d (I (top d)) (sg (top d)*top r) (F r))) x:=rfl;rw[e,<- h1,Er];simp only[Ah];grind
theorem tC{d:G}(c:top d ≠ 0):∀ (f:Nat) (r:G),∃ (a m:Int) (q:G),a ≠ 0/\m ≠ 0/\∀ x,a*Ah r x=Ah q x*Ah d x+m*Ah (Fi f r d) x:=by
 intro f;induction f with
 | zero=>intro r;exact⟨1,1,[],by decide,by decide,fun x=>by simp[Ah,Fi]⟩
 | succ f i =>
  intro r;simp only[Fi];split
  ·rename_i j;obtain⟨a,m,q,k,l,h⟩:=tB j c;obtain⟨b,n,s,hb,hn,g⟩:=i (EO r d);refine⟨b*a,m*n,EQ (AM b q) (AM m s),Bv hb k,Bv l hn,fun x => ?_⟩;have o:=h x;have p:=g x;rw[CD,AN,AN,Bm,o];generalize Ah (Fi f (EO r d) d) x=z at *
   generalize Ah (EO r d) x=y at *
   have e:b*(Ah q x*Ah d x+m*y)=b*(Ah q x*Ah d x)+m*(b*y):=by grind
   rw[e,p];grind
  ·exact⟨1,1,[],by decide,by decide,fun x=>by simp[Ah]⟩
theorem aB:∀ (f:Nat) (x y:G),F y<=f->F y<=F x->Cw x->Cw y->Gz (Kj f x y) x y:=by
 intro f;induction f with
 | zero =>
  intro x y h1 _ _ _;have:y=[]:=AU (by omega);subst this;exact aA x
 | succ f b =>
  intro x y h1 h2 l d;simp only[Kj];split
  next h=>subst h;exact aA x
  ·rename_i h;have g:top y ≠ 0:=EN d h;obtain⟨n,r,_⟩:=WO h (K:=Ajz 1 (y.map I).sum) (fun i=>by
    have j:I (H y i 0)<=(y.map I).sum:=by
     clear g h h1 h2 d b;induction y generalizing i with
     | nil=>simp
     | cons c y b => 
      cases i with
      | zero=>simp
      | succ i=>have:=b i;simp at this |-;omega
    unfold u;have k:(y.map I).sum<=Ajz 1 (y.map I).sum:=A0y _ _;exact Ey (B6 j k) (YL (by decide))) (F x) x (Ajz 1 (x.map I).sum) (A2 _) l (fun i=>by
    have j:I (H x i 0)<=(x.map I).sum:=by
     clear g h h1 h2 l b;induction x generalizing i with
     | nil=>simp
     | cons c y b => 
      cases i with
      | zero=>simp
      | succ i=>have:=b i;simp at this |-;omega
    unfold u;have k:(x.map I).sum<=Ajz 1 (x.map I).sum:=A0y _ _;exact Ey (B6 j k) (YL (by decide)))
   obtain⟨a,m,q,o,p,e⟩:=tC g (F x) x;exact Gz.step o p e (b y (t x y) (by unfold t;omega) (by unfold t;omega) d n)
def Rb(x y:G):G:=if F y<=F x then Kj (F y) x y else Kj (F x) y x
theorem Ams{x y:G}(a:Cw x)(b:Cw y):Gz (Rb x y) x y:=by
 unfold Rb;split
 ·exact aB _ _ _ (A2 _) (by assumption) a b
 ·exact (aB _ _ _ (A2 _) (by omega) b a).comm
theorem aC(p:G):∃ m:Int,m ≠ 0/\∀ x,Ah (y p) x=m*Ah p x:=by
 unfold y;split
 ·exact⟨-1,by decide,fun x=>by rw[Mj];omega⟩
 ·exact⟨1,by decide,fun x=>by omega⟩
theorem MS(p:G):F (y p)=F p:=by
 unfold y;split
 ·exact EY p
 ·rfl
def Ch(s t:G):G:=y (Rb (prim s) (prim t))
theorem Gd(s t:G):Gz (Ch s t) s t:=by
 have h:=Ams (De s) (De t);obtain⟨m,a,h1⟩:=Kk s;obtain⟨n,hn,h2⟩:=Kk t;obtain⟨k,b,c⟩:=aC (Rb (prim s) (prim t));have d:=h.scaled (s':=s) (t':=t) (m:=1) (n:=m) (k:=1) (l:=n) (by decide) a (by decide) hn (fun x=>by rw[h1 x];omega) (fun x=>by rw[h2 x];omega);exact d.gscaled (m:=1) (n:=k) (by decide) b (fun x=>by unfold Ch;rw[c x];omega)
theorem Kl{p:G}(h:Cw p):Cw (z p):=by
 have e:z p=AM (-1) p:=by
  unfold z AM;apply GP;intro x _;omega
 rw[e];exact sX (by decide) h
theorem Qi{p:G}(h:Cw p):Cw (y p):=by
 unfold y;split
 ·exact Kl h
 ·exact h
theorem O3:∀ (f:Nat) (x y:G),prim x=x->prim y=y->prim (Kj f x y)=Kj f x y:=by
 intro f;induction f with
 | zero=>intro x y h _;exact h
 | succ f a =>
  intro x y hx hy;simp only[Kj];split
  ·exact hx
  ·exact a y _ hy (Kz _ _ _ hx)
theorem Uv{x y:G}(hx:prim x=x)(hy:prim y=y):prim (Rb x y)=Rb x y:=by
 unfold Rb;split
 ·exact O3 _ _ _ hx hy
 ·exact O3 _ _ _ hy hx
theorem aD(p:G):B5 (z p)=B5 p:=by
 have e:z p=AM (-1) p:=by
  unfold z AM;apply GP;intro x _;omega
 rw[e,Ky];simp
theorem aE(p:G):B5 (y p)=B5 p:=by
 unfold y;split
 ·exact aD p
 ·rfl
theorem El(s t:G):Cw (Ch s t):=Qi (Dm (Uv (CP s) (CP t)))
theorem LO{p:G}(h:Cw p)(hc:B5 p=1):prim p=p:=by rw [WL hc];exact h
theorem Hm{s t:G}(h:Af s ≠ []):Ch s t ≠ []:=by
 have:=((Gd s t).1.length h).2;intro a;rw[a] at this;exact this rfl
theorem Lw{s t:G}(h:Af s ≠ []):B5 (Ch s t)=1:=by
 have h1:=Hm (t:=t) h;unfold Ch at *
 rw[aE];have h2:Rb (prim s) (prim t) ≠ []:=by
  intro b;rw[b] at h1;exact h1 rfl
 have a:=Uv (CP s) (CP t);rw[<- a];exact NF (by rw[Dm a];exact h2)
theorem iM{p:G}(h:Cw p)(a:p ≠ []):0<top (y p):=by
 have h1:=EN h a;unfold y;split
 ·rename_i hn;unfold top at *
  rw[EY,IW];omega
 next hn=>unfold top at *;omega
theorem Lx{s t:G}(h:Af s ≠ []):0<top (Ch s t):=by
 have h1:=Hm (t:=t) h;unfold Ch at *
 refine iM (Dm (Uv (CP s) (CP t))) ?_;intro a;rw[a] at h1;exact h1 rfl
theorem tD{s t:G}{K:Nat}(h:Af s ≠ [])(b:F s<=9)(d:Kb K s):Kb (K+3) (Ch s t)/\F (Ch s t)<=F (Af s):=by
 have a:=(Gd s t).1;have h1:=(a.length h).1;have e:=El s t;rw[e] at h1;obtain⟨c,k,hc,f⟩:=a;have:=Ct s;exact⟨V6 hc (Lw h) h b (by omega) d f,h1⟩
theorem A0z(y:G):∃ K,Kb K y:=⟨(y.map I).sum,fun i=>by
 have a:I (H y i 0)<=(y.map I).sum:=by
  induction y generalizing i with
  | nil=>simp
  | cons c y b => 
   cases i with
   | zero=>simp
   | succ i=>have:=b i;simp at this |-;omega
 unfold u;exact Ey a (YL (by decide))⟩
theorem tE{x y:G}(hx:Cw x)(d:y ≠ []):Cw (t x y)/\F (t x y)<F y:=by
 obtain⟨K,e⟩:=A0z y;obtain⟨c,f⟩:=A0z x;obtain⟨a,b,_⟩:=WO d e (F x) x c (A2 _) hx f;exact⟨a,b⟩
theorem iN{p q:G}(h:∀ x,Ah p x=Ah q x)(x:Int):Ah (AE p) x=Ah (AE q) x :=
 H_ (fun i=>by rw[Ej,Ej,Eb h]) x
theorem aF(a:Int)(p:G)(x:Int):Ah (AE (a::p)) x=Ah p x+x*Ah (AE p) x:=by
 have h:∀ i,H (AE (a::p)) i 0=H (EQ p (0::AE p)) i 0:=by
  intro i;rw[EC,Ej,MQ];cases i with
  | zero=>simp
  | succ i=>rw[MQ,Ej];push_cast;grind
 rw[H_ h x,CD];simp[Ah]
theorem Amt(p q:G)(x:Int):Ah (AE (EQ p q)) x=Ah (AE p) x+Ah (AE q) x:=by
 rw[<- CD];exact H_ (fun i=>by rw[EC,Ej,Ej,Ej,EC,H2]) x
theorem IZ(c:Int)(p:G)(x:Int):Ah (AE (AM c p)) x=c*Ah (AE p) x:=by
 rw[<- AN];exact H_ (fun i=>by rw[Bt,Ej,Ej,Bt,Bm]) x
theorem Amu:AE []=[]:=rfl
theorem iO(p q:G)(x:Int):Ah (AE (Cg p q)) x=Ah (AE p) x*Ah q x+Ah p x*Ah (AE q) x:=by
 induction p with
 | nil=>simp[Cg,Amu,Ah]
 | cons a p c =>
  simp only[Cg];rw[Amt,IZ,aF,aF,c,B8];simp only[Ah];generalize Ah (AE p) x=A at *
  generalize Ah (AE q) x=b at *
  grind
theorem NH{r p q:G}(h:∀ x,Ah r x=Ah p x*Ah q x)(x:Int):Ah (AE r) x=Ah (AE p) x*Ah q x+Ah p x*Ah (AE q) x:=by
 rw[<- iO];exact iN (fun x=>by rw[h x,B8]) x
theorem Qj{p q:G}{c d:Int}(h:∀ x,c*Ah p x=d*Ah q x)(x:Int):c*Ah (AE p) x=d*Ah (AE q) x:=by
 rw[<- IZ,<- IZ];exact iN (fun x=>by rw[AN,AN,h x]) x
theorem WR(p:G):F (AE p)<=F p-1:=by
 unfold AE;have:=Ct ((Ay (F p-1)).map fun j=>H p (j+1) 0*((j+1:Nat):Int));simpa using this
theorem aG{K:Nat}{p:G}(h:Kb K p)(a:F p<=1048576):Kb (K+2) (AE p):=fun i=>by
 rw[Ej];by_cases hi:i<1048576
 ·refine ((h (i+1)).mul (k:=1) ?_).mono (by omega);unfold u;rw[C9];omega
 ·rw[Cp (xs:=p) (by omega),Cs];exact Ib _
def I'(h:G):Nat->G
 | 0=>[1]
 | k+1=>Cg (I' h k) h
theorem iP(h:G):∀ (k:Nat) (x:Int),Ah (AE (I' h k)) x*Ah h x=(k:Int)*Ah (I' h k) x*Ah (AE h) x
 | 0,x=>by simp[I',AE,Ah,Af,p]
 | k+1,x=>by
  have d:=iP h k x;simp only[I'];rw[iO,B8];push_cast;generalize Ah (AE (I' h k)) x=A at *
  generalize Ah (I' h k) x=a at *
  generalize Ah (AE h) x=b at *
  generalize Ah h x=c at *
  have:(A*c+a*b)*c=(A*c)*c+a*b*c:=by grind
  rw[this,d];grind
theorem Qk{h:G}(c:Af h ≠ []):∀ k,Af (I' h k) ≠ []/\F (Af (I' h k))=k*(F (Af h)-1)+1
 | 0=>by
  have e:Af (I' h 0)=[1]:=rfl;rw[e];simp
 | k+1=>by
  obtain⟨a,b⟩:=Qk c k;have h1:=Av.2 c;have e:=Mm a c;have d:F (Af (I' h (k+1)))=(k+1)*(F (Af h)-1)+1:=by
   simp only[I'];rw[e,b,DU,Gi];omega
  refine⟨?_,d⟩;intro f;rw[f] at d;simp at d
theorem nU{a b f h:G}{c:Int}(N:Af a ≠ [])(V:Gz b a (AE a))(hc:c ≠ 0)(E:∀ x,c*Ah a x=Ah b x*Ah f x)(h1:Dv h f)(h2:Dv h (AE f)):F (Af h)=1:=by
 obtain⟨W,⟨j,e,X,O⟩,A,u,v,Y,hb⟩:=V;have Q:Af b ≠ []:=(W.length N).2;have Z:Af f ≠ []:=by
  intro H;have:Af a=Af []:=by
   apply Ic;intro x;have n:=E x;rw[ES H,Be] at n;rcases F5.1 n with g | g
   ·exact absurd g hc
   ·exact g
  exact N this
 have B:Af h ≠ []:=(h1.length Z).2;have hC:∀ x,c*j*A=j*Ah u x*Ah f x+c*Ah v x*Ah e x:=by
  have n:=Uu Q [c*j*A] (EQ (AM j (Cg u f)) (AM c (Cg v e))) (fun x=>by
   have l:=E x;have y:=O x;have I:=hb x;rw[CD,AN,AN,B8,B8];simp only[Ah];generalize Ah b x=b at *
   generalize Ah f x=f at *
   generalize Ah e x=e at *
   generalize Ah u x=u at *
   generalize Ah v x=v at *
   generalize Ah (AE a) x=R at *
   generalize Ah a x=a at *
   have e1:b*(c*j*A+x*0)=c*j*(A*b):=by grind
   rw[e1,I];have e2:c*j*(u*a+v*R)=j*u*(c*a)+c*v*(j*R):=by grind
   rw[e2,l,y];grind)
  intro x;have C:=n x;rw[CD,AN,AN,B8,B8] at C;simp only[Ah,Be,Cx] at C;grind
 have hd:∀ x,c*(Ah b x*Ah e x)=j*(Ah (AE b) x*Ah f x+Ah b x*Ah (AE f) x):=by
  intro x;have l:=NH (r:=AM c a) (p:=b) (q:=f) (fun x=>by rw[AN];exact E x) x;rw[IZ] at l;have y:=O x;rw[<- l,<- y];grind
 obtain⟨d,t,S,J⟩:=h1;obtain⟨i,w,a8,hw⟩:=h2;have a9:∀ x,d*Ah (AE f) x=Ah (AE h) x*Ah t x+Ah h x*Ah (AE t) x:=by
  intro x;have l:=NH (r:=AM d f) (p:=h) (q:=t) (fun x=>by rw[AN];exact J x) x;rw[IZ] at l;exact l
 have hk:∀ k,Dv (I' h k) b:=by
  intro k;induction k with
  | zero=>exact⟨1,b,by decide,fun x=>by simp[I',Ah]⟩
  | succ k ih =>
   obtain⟨o,s,b0,hs⟩:=ih;obtain⟨T,_⟩:=Qk B k;have b8:∀ x,o*Ah (AE b) x=Ah (AE (I' h k)) x*Ah s x+Ah (I' h k) x*Ah (AE s) x:=by
    intro x;have l:=NH (r:=AM o b) (p:=I' h k) (q:=s) (fun x=>by rw[AN];exact hs x) x;rw[IZ] at l;exact l
   have b9:∀ x,d*i*c*(Ah e x*Ah s x)=Ah h x*(j*((k:Int)*Ah s x*(d*Ah w x-i*Ah (AE t) x)+i*(Ah (AE s) x*Ah t x)+d*(Ah s x*Ah w x))):=by
    have n:=Uu (p:=Cg (I' h k) h) (by
      intro H;have:=Mm T B;rw[H] at this;have:=Av.2 T;have:=Av.2 B;simp at *
      omega) (AM (d*i*c) (Cg e s)) (Cg h (AM j (EQ (EQ (Cg (AM k s) (ND (AM d w) (AM i (AE t)))) (AM i (Cg (AE s) t))) (AM d (Cg s w))))) (fun x=>by
     have l:=hd x;have y:=J x;have I:=hw x;have a4:=a9 x;have U:=hs x;have a6:=b8 x;have a7:=iP h k x;simp only[B8,AN,CD,G1];generalize Ah (AE (I' h k)) x=P' at *
     generalize Ah (AE b) x=G' at *
     generalize Ah (AE f) x=z at *
     generalize Ah (AE h) x=K at *
     generalize Ah (AE t) x=t' at *
     generalize Ah (AE s) x=D at *
     generalize Ah (I' h k) x=P at *
     generalize Ah b x=b at *
     generalize Ah f x=f at *
     generalize Ah e x=e at *
     generalize Ah h x=h at *
     generalize Ah t x=t at *
     generalize Ah w x=w at *
     generalize Ah s x=s at *
     have L:P*h*(d*i*c*(e*s))=d*i*h*(c*((P*s)*e)):=by grind
     rw[L,<- U];have b2:d*i*h*(c*(o*b*e))=d*i*h*o*(c*(b*e)):=by grind
     rw[b2,l];have b3:d*i*h*o*(j*(G'*f+b*z))=i*j*((o*G')*h*(d*f)+(o*b)*h*(d*z)):=by grind
     rw[b3,a6,U,y];have b4:(P'*s+P*D)*h*(h*t)=(P'*h)*s*h*t+P*D*h*h*t:=by grind
     rw[b4,a7];have b5:(k:Int)*P*K*s*h*t=(k:Int)*P*s*h*(K*t):=by grind
     have b6:K*t=d*z-h*t':=by omega
     rw[b5,b6];have b7:i*j*((k:Int)*P*s*h*(d*z-h*t')+P*D*h*h*t+P*s*h*(d*z))=j*((k:Int)*P*s*h*(d*(i*z)-i*(h*t'))+i*(P*D*h*h*t)+P*s*h*(d*(i*z))):=by grind
     rw[b7,I];grind)
    intro x;have C:=n x;simp only[B8,AN,CD,G1] at C;exact C
   have d1:Dv h (Cg e s):=⟨d*i*c,AM j (EQ (EQ (Cg (AM k s) (ND (AM d w) (AM i (AE t)))) (AM i (Cg (AE s) t))) (AM d (Cg s w))),Bv (Bv S a8) hc,fun x=>by
    simp only[B8,AN,CD,G1];exact b9 x⟩
   have d2:Dv h (Cg f s):=fA s ⟨d,t,S,J⟩ (fun x=>B8 _ _ x);have d3:Dv h s:=P2 (m:=c*j*A) (AM j u) (AM c v) (Bv (Bv hc X) Y) d2 d1 (fun x=>by
    rw[hC x];simp only[B8,AN];grind)
   obtain⟨M,s2,c0,c1⟩:=d3;refine⟨M*o,s2,Bv c0 b0,fun x => ?_⟩;have l:=hs x;have y:=c1 x;simp only[I'];rw[B8,Bm,l];have L:M*(Ah (I' h k) x*Ah s x)=Ah (I' h k) x*(M*Ah s x):=by grind
   rw[L,y];grind
 have c7:=Av.2 B;apply A6;intro hn;have n:=((hk (F (Af b))).length Q).1;rw[(Qk B _).2] at n;have:F (Af b)*1<=F (Af b)*(F (Af h)-1):=Bu _ (by omega);omega
def O(p:G):G :=
 if F (y (prim p))<2\/F (Ch (y (prim p)) (AE (y (prim p))))<2 then y (prim p)
 else prim (IY (Ch (y (prim p)) (AE (y (prim p)))) (F (y (prim p))-F (Ch (y (prim p)) (AE (y (prim p))))+1) (y (prim p)) (AI (F (y (prim p))-F (Ch (y (prim p)) (AE (y (prim p))))+1) 0))
theorem P3{g:G}(h:F g=1):∃ c,g=[c]:=by
 match g,h with
 | [c],_=>exact⟨c,rfl⟩
theorem XZ{a:G}(h:Cw a)(i:a ≠ [])(C:B5 a=1)(s:0<top a)(f:G)
  (e:f=if F a<2\/F (Ch a (AE a))<2 then a else prim (IY (Ch a (AE a)) (F a-F (Ch a (AE a))+1) a (AI (F a-F (Ch a (AE a))+1) 0))) :
  Cw f/\B5 f=1/\0<top f/\f ≠ []/\F f=F a-F (Ch a (AE a))+1/\∃ c d:Int,c ≠ 0/\d ≠ 0/\∀ x,c*Ah a x=d*(Ah (Ch a (AE a)) x*Ah f x):=by
 have j:Af a ≠ []:=Ca h i;have u:=Gd a (AE a);have v:=El a (AE a);have k:=Hm (t:=AE a) j;have w:=Lx (t:=AE a) j;have l:=(u.1.length j).1;rw[v,h] at l;have J:=Av.2 i;have K:=Av.2 k;generalize Ch a (AE a)=b at *
 by_cases hs:F a<2\/F b<2
 ·rw[Ar hs] at e;subst e;have D:F b=1:=by omega
  obtain⟨c,rfl⟩:=P3 D;refine⟨h,C,s,i,by omega,c,1,?_,by decide,fun x=>by simp[Ah]⟩;have:top [c]=c:=rfl;omega
 ·rw[Aw hs] at e;obtain⟨y,n,c1,A,g,r⟩:=XX (p:=a) (q:=b) k w l;generalize IY b (F a-F b+1) a (AI (F a-F b+1) 0)=o at *
  have to:=iK c1 s k w l g r A;have E:Af n=[]:=by
   apply A6;intro hn;have hd:Dv b n:=P2 (m:=1) [y] (z o) (by decide) u.1 (Dv.refl b) (fun x=>by
    have:=r x;rw[Mj];simp only[Ah];grind)
   have h1:=(hd.length hn).1;rw[v] at h1;have L:=Av.2 hn;have h2:=EN (GI n) hn;rw[Ei,A _ (by omega)] at h2;exact h2 rfl
  have B:o ≠ []:=by intro h1;rw[h1] at g;simp at g
  have lo:Cw o:=Vy (TQ (by unfold top at to;omega));obtain⟨m,H,I⟩:=Kk o;subst e;refine⟨De o,NF (Ca lo B),TR to,?_,by rw[CO,lo,g],y,m,by omega,H,fun x => ?_⟩
  ·intro h1;rw[EM,<- DY,lo] at h1;exact B h1
  ·rw[r x,ES E,I x];grind
theorem RY{p:G}(hp:Af p ≠ []):Cw (y (prim p))/\y (prim p) ≠ []/\B5 (y (prim p))=1/\0<top (y (prim p))/\F (y (prim p))=F (Af p)/\∃ m:Int,m ≠ 0/\∃ n:Int,n ≠ 0/\∀ x,n*Ah p x=m*Ah (y (prim p)) x:=by
 have h1:prim p ≠ []:=by intro h;rw[EM,<- DY] at h;exact hp h
 obtain⟨m,a,h2⟩:=Kk p;obtain⟨n,hn,b⟩:=aC (prim p);refine⟨Qi (De p),?_,by rw[aE];exact NF hp,iM (De p) h1,by rw[MS,CO],m,a,n,hn,fun x=>by rw[h2 x,b x];grind⟩;intro h;have:=congrArg F h;rw[MS] at this;exact h1 (AU this)
theorem YB{f:G}(lf:Cw f)(a:B5 f=1)(b:0<top f):y (prim f)=f:=by
 rw[LO lf a];unfold y;rw[Aw (by omega)]
theorem C7{p:G}(hp:Af p ≠ []):Cw (O p)/\B5 (O p)=1/\0<top (O p)/\O p ≠ []/\Dv (O p) p /\
  F (O p)+F (Ch (y (prim p)) (AE (y (prim p))))=F (Af p)+1/\Gz (Ch (y (prim p)) (AE (y (prim p)))) p (AE p)/\F (Ch (O p) (AE (O p)))=1:=by
 obtain⟨e,g,s,u,E,m,l,n,hn,i⟩:=RY hp;obtain⟨lf,v,w,o,H,c,d,hc,hd,q⟩:=XZ e g s u (O p) rfl;have j:Af (y (prim p)) ≠ []:=Ca e g;have k:=Gd (y (prim p)) (AE (y (prim p)));have z:=El (y (prim p)) (AE (y (prim p)));have A:=Hm (t:=AE (y (prim p))) j;have B:=(k.1.length j).1;rw[z,e] at B;have C:∀ x,n*Ah (AE p) x=m*Ah (AE (y (prim p))) x:=Qj i;generalize y (prim p)=a at *
 generalize Ch a (AE a)=b at *
 generalize O p=f at *
 have I:=Av.2 g;have J:=Av.2 A;refine⟨lf,v,w,o,?_,by omega,?_,?_⟩
 ·have h1:Dv f a:=⟨c,AM d b,hc,fun x=>by rw[q x,AN];grind⟩;exact h1.scaled hn i
 ·exact k.scaled hn l hn l i C
 ·have r:=Gd f (AE f);have K:=Hm (t:=AE f) (Ca lf o);have D:=El f (AE f);have h1:=nU (h:=Ch f (AE f)) (f:=AM d f) (c:=c) j k hc (fun x=>by rw[q x,AN];grind)
   (r.1.scaled (m:=1) (n:=d) (by decide) (fun x=>by rw[AN];omega)) (r.2.1.scaled (m:=1) (n:=d) (by decide) (fun x=>by rw[IZ];omega))
  rwa [D] at h1
theorem tF{f:G}(lf:Cw f)(a:B5 f=1)(b:0<top f)(h:F (Ch f (AE f))<2):O f=f:=by
 unfold O;rw[YB lf a b];exact Ar (TQ h)
theorem V7{p:G}(hp:Af p ≠ []):O (O p)=O p:=by
 obtain⟨lf,a,b,c,_,_,_,h1⟩:=C7 hp;exact tF lf a b (by omega)
theorem Amv{p:G}{K:Nat}(hp:Af p ≠ [])(a:F p<=9)(b:Kb K p):Kb (K+3) (O p)/\F (O p)<=F (Af p):=by
 obtain⟨lf,d,f,g,hd,_,_,_⟩:=C7 hp;have h1:=(hd.length hp).1;rw[lf] at h1;obtain⟨c,k,hc,e⟩:=hd;have:=Ct p;exact⟨V6 hc d hp a (by omega) b e,h1⟩
theorem O4(t:G):Dv [1] t:=⟨1,t,by decide,fun x=>by simp [Ah]⟩
structure Rt where
 fs:D
 r:Rn
 e:Int
 t:Rn
 f:Int
def Rt.cs(x:Rt):AK:=[.sl (F x.fs) (S x.fs),.bool x.r.1,.sl (F x.r.2) (A x.r.2),.int .i64 x.e,.bool x.t.1,.sl (F x.t.2) (A x.t.2),.int .i64 x.f]
def zR:Rt:=⟨[],z0,0,z0,0⟩
def C2:List Rt->AK
 | []=>[]
 | x::l=>x.cs++C2 l
theorem FA:∀ l:List Rt,F (C2 l)=F l*7
 | []=>rfl
 | x::l=>by
  have h:=FA l;have e:F x.cs=7:=rfl;simp only[C2,B0,BM,DU];omega
theorem K0:∀ l k:List Rt,C2 (l++k)=C2 l++C2 k
 | [],_=>rfl
 | x::l,k=>by rw[Ks,C2,C2,K0 l k,Iu]
theorem Ns:∀ (l:List Rt) (i:Nat),(C2 l).drop (i*7)=C2 (l.drop i)
 | [],i=>by simp[C2]
 | x::l,0=>rfl
 | x::l,i+1=>by
  rw[Abt,<- Ns l i];have e:C2 (x::l) = .sl (F x.fs) (S x.fs) :: .bool x.r.1 :: .sl (F x.r.2) (A x.r.2) :: .int .i64 x.e :: .bool x.t.1 :: .sl (F x.t.2) (A x.t.2) :: .int .i64 x.f::C2 l:=rfl;rw[e,show (i+1)*7=i*7+1+1+1+1+1+1+1 by omega];simp only[Abt]
theorem Ev{l:List Rt}{a:Int}(h:0<=a/\a<F l):BQ (AL (Y a*7) (C2 l)) 0 7 false=some (.agg (H l (Y a) zR).cs):=by
 have b:=FK h;rw[Ns,BL b];have e:H l (Y a) zR=l[Y a]:=by rw[Ad,Am b];rfl
 rw[e];rfl
def hs(c:Nat->Int)(x q:Int):Nat->Int
 | 0=>c 0
 | T+1=>q*hs c x q T+c (T+1)*x^(T+1)
theorem Ql{c d:Nat->Int}{x q:Int}:∀ {T:Nat},(∀ i,i<=T->c i=d i)->hs c x q T=hs d x q T
 | 0,h=>h 0 (A2 _)
 | T+1,h=>by
  simp only[hs];rw[Ql (T:=T) fun i hi=>h i (by omega),h (T+1) (A2 _)]
theorem O5(a b:Int)(c d:Nat->Int)(x q:Int):∀ e:Nat,hs (fun i=>a*c i+b*d i) x q e=a*hs c x q e+b*hs d x q e
 | 0=>rfl
 | e+1=>by
  simp only[hs];rw[O5 a b c d x q e];grind
theorem tH{c:Nat->Int}{a:Nat}(h:∀ i,a<i->c i=0)(x q:Int):∀ k:Nat,hs c x q (a+k)=q^k*hs c x q a
 | 0=>by simp
 | k+1=>by
  rw[<- E1];simp only[hs];rw[tH h x q k,h _ (by omega),AD];grind
theorem S_(c:Nat->Int)(x q:Int):∀ a:Nat,hs c x q (a+1)=c 0*q^(a+1)+x*hs (fun i=>c (i+1)) x q a
 | 0=>by simp only[hs];grind
 | a+1=>by
  have h:=S_ c x q a;have b:hs c x q (a+1+1)=q*hs c x q (a+1)+c (a+1+1)*x^(a+1+1):=rfl;have d:hs (fun i=>c (i+1)) x q (a+1)=q*hs (fun i=>c (i+1)) x q a+c (a+1+1)*x^(a+1):=rfl;rw[b,h,d,AD q (a+1),AD x (a+1)];grind
theorem Amw(c:Nat->Int)(x q:Int)(a:Nat):hs (fun i=>if i=0 then 0 else c (i-1)) x q (a+1)=x*hs c x q a:=by
 rw[S_];simp only[Ar,Cs,E7];rw[Ql (d:=c) fun i _=>by rw[Aw (by omega),HQ]]
def hp(p:G)(x q:Int)(T:Nat):Int:=hs (fun i=>H p i 0) x q T
theorem nV:∀ (p:G) (x q:Int),hv p x q=hp p x q (F p-1)
 | [],_,_=>rfl
 | [a],x,q=>by simp[hv,hp,hs]
 | a::b::p,x,q=>by
  have c:=nV (b::p) x q;have e:hp (a::b::p) x q (F (a::b::p)-1)=a*q^F (b::p)+x*hp (b::p) x q (F (b::p)-1):=by
   unfold hp;show hs _ x q (F (b::p)-1+1)=_;rw[S_];rfl
  rw[e,<- c];rfl
theorem V8{p:G}{T:Nat}(h:F p<=T+1)(x q:Int)(k:Nat):hp p x q (T+k)=q^k*hp p x q T :=
 tH (fun i hi=>Cp (by omega)) x q k
theorem YM(x q:Int):∀ a:Nat,hp [] x q a=0
 | 0=>rfl
 | a+1=>by
  have:=YM x q a;unfold hp at *
  simp only[hs];rw[this];simp
theorem YN{r:G}{tr:Nat}(hr:F r<=tr+1)(x q:Int):∀ (p:G) (tp:Nat),F p<=tp+1->hp (Cg p r) x q (tp+tr)=hp p x q tp*hp r x q tr
 | [],tp,_=>by rw[YM,Cs];exact YM x q _
 | a::p,tp,h=>by
  have hc:∀ i,H (Cg (a::p) r) i 0=a*H r i 0+1*(if i=0 then 0 else H (Cg p r) (i-1) 0):=by
   intro i;rw[Gq,Db];by_cases b:i=0
   ·subst b;rw[Aw (by omega),Ar rfl];omega
   ·rw[Ar (by omega),Aw b];omega
  cases tp with
  | zero =>
   have c:p=[]:=AU (by have f:F p+1<=0+1:=h;omega);subst c;have b:∀ i,H (Cg [] r) i 0=0:=fun i=>rfl;unfold hp;rw[Ql (d:=fun i=>a*H r i 0+0*H r i 0) fun i _=>by rw[hc,b];split <;> simp,O5,Cv];simp[hs]
  | succ tp =>
   have g:=YN hr x q p tp (by have f:F p+1<=tp+1+1:=h;omega);have j:=V8 hr x q (tp+1);have k:hp (a::p) x q (tp+1)=a*q^(tp+1)+x*hp p x q tp:=by unfold hp;rw[S_];rfl
   have l:=Amw (fun i=>H (Cg p r) i 0) x q (tp+tr);have e:hp (Cg (a::p) r) x q (tp+1+tr)=a*hp r x q (tp+1+tr)+1*(x*hp (Cg p r) x q (tp+tr)):=by
    unfold hp;rw[Ql fun i _=>hc i,O5,show tp+1+tr=tp+tr+1 by omega];rw[l]
   rw[e,g,show tp+1+tr=tr+(tp+1) by omega,j,k];grind
theorem A1a{r d e Q:G}{c c':Int}(h:∀ x,c*Ah r x=Ah Q x*Ah d x+c'*Ah e x)(x q:Int){tq td:Nat}(a:F Q<=tq+1)(hd:F d<=td+1) :
  c*hp r x q (tq+td)=hp Q x q tq*hp d x q td+c'*hp e x q (tq+td):=by
 have hi:=Eb (p:=AM c r) (q:=EQ (Cg Q d) (AM c' e)) (fun x=>by rw[AN,CD,B8,AN];exact h x);have hc:∀ i,c*H r i 0+0*H r i 0=1*H (Cg Q d) i 0+c'*H e i 0:=by
  intro i;have:=hi i;rw[Bt,EC,Bt] at this;omega
 rw[<- YN hd x q Q tq a];unfold hp;have h1:=O5 c 0 (fun i=>H r i 0) (fun i=>H r i 0) x q (tq+td);have h2:=O5 1 c' (fun i=>H (Cg Q d) i 0) (fun i=>H e i 0) x q (tq+td);rw[Ql fun i _=>hc i,h2] at h1;omega
theorem Ec{a b A c:Int}(d:(I a:Int)<=A)(hb:(I b:Int)<=c):(I (a*b):Int)<=A*c:=by
 rw[C1,Eg];exact Fk d hb (by omega) (by omega)
theorem K1{a b A c:Int}(d:(I a:Int)<=A)(hb:(I b:Int)<=c):(I (a+b):Int)<=A+c:=by omega
theorem O6{a A:Int}(b:(I a:Int)<=A):∀ n:Nat,(I (a^n):Int)<=A^n
 | 0=>by simp
 | n+1=>by rw[AD,AD];exact Ec (O6 b n) b
theorem Ta(c:Nat->Int)(b:Int)(d:0<=b):∀ f:Nat,∃ K:Int,0<=K/\∀ q x:Int,0<q->(I x:Int)<=b*q->(I (hs c x q f):Int)<=K*q^f
 | 0=>⟨(I (c 0):Int),by omega,fun q x _ _=>by simp[hs]⟩
 | f+1=>by
  obtain⟨K,j,h⟩:=Ta c b d f;refine⟨K+(I (c (f+1)):Int)*b^(f+1),?_,fun q x i hx => ?_⟩
  ·have:=A8 (show (0:Int)<=(I (c (f+1)):Int) by omega) (Og (m:=f+1) d);omega
  ·simp only[hs];have h1:=Ec (a:=q) (A:=q) (by omega) (h q x i hx);have h2:=Ec (a:=c (f+1)) (A:=(I (c (f+1)):Int)) (by omega) (O6 hx (f+1));have g:=K1 h1 h2;have e:(b*q)^(f+1)=b^(f+1)*q^(f+1):=aH ..;rw[e] at g;refine FC g (JG ?_);rw[AD q f];grind
theorem iQ{x A:Int}(hx:(I x:Int)<=A)(a:(I (x+1):Int)<=A):∀ n:Nat,(I ((x+1)^(n+1)-x^(n+1)):Int)<=((n+1:Nat):Int)*A^n
 | 0=>by
  have e:(x+1)^(0+1)-x^(0+1)=1:=by rw[AD,DC,AD,DC];omega
  rw[e];simp
 | n+1=>by
  have b:=iQ hx a n;have e:(x+1)^(n+1+1)-x^(n+1+1)=(x+1)*((x+1)^(n+1)-x^(n+1))+x^(n+1):=by rw[AD (x+1) (n+1),AD x (n+1)];grind
  rw[e];have h:=K1 (Ec a b) (O6 hx (n+1));refine FC h (JG ?_);rw[AD A n,MT,MT,MT];grind
theorem Aka(c:Nat->Int)(b:Int)(d:0<=b):∀ f:Nat,∃ K:Int,0<=K/\∀ q x:Int,0<q->(I x:Int)<=b*q->(I (x+1):Int)<=b*q->(I (hs c (x+1) q (f+1)-hs c x q (f+1)):Int)<=K*q^f
 | 0=>⟨(I (c 1):Int),by omega,fun q x _ _ _=>by
   simp only[hs];have:q*c 0+c (0+1)*(x+1)^(0+1)-(q*c 0+c (0+1)*x^(0+1))=c 1:=by simp;grind
   rw[this];simp⟩
 | f+1=>by
  obtain⟨K,l,h⟩:=Aka c b d f;refine⟨K+(I (c (f+2)):Int)*(((f+1+1:Nat):Int)*b^(f+1)),?_,fun q x j hx g => ?_⟩
  ·have:=A8 (show (0:Int)<=(I (c (f+2)):Int) by omega) (A8 (show (0:Int)<=((f+1+1:Nat):Int) by omega) (Og (m:=f+1) d));omega
  ·have e:hs c (x+1) q (f+1+1)-hs c x q (f+1+1)=q*(hs c (x+1) q (f+1)-hs c x q (f+1))+c (f+2)*((x+1)^(f+1+1)-x^(f+1+1)):=by
    show (q*hs c (x+1) q (f+1)+c (f+1+1)*(x+1)^(f+1+1))-(q*hs c x q (f+1)+c (f+1+1)*x^(f+1+1))=_;grind
   rw[e];have h1:=Ec (a:=q) (A:=q) (by omega) (h q x j hx g);have h2:=Ec (a:=c (f+2)) (A:=(I (c (f+2)):Int)) (by omega) (iQ hx g (f+1));have i:=K1 h1 h2;have k:(b*q)^(f+1)=b^(f+1)*q^(f+1):=aH ..;rw[k] at i;refine FC i (JG ?_);rw[AD q f];grind
theorem tI{x A:Int}(b:0<=A)(hx:(I x:Int)<=A)(c:(I (x+1):Int)<=A):∀ n:Nat,(I ((x+1)^(n+2)-x^(n+2)-((n+2:Nat):Int)*x^(n+1)):Int)<=(((n+1)*(n+2):Nat):Int)*A^n
 | 0=>by
  have e:(x+1)^(0+2)-x^(0+2)-((0+2:Nat):Int)*x^(0+1)=1:=by
   rw[show (x+1)^(0+2)=(x+1)*(x+1) by rw[AD,AD,DC,D0],show x^(0+2)=x*x by rw[AD,AD,DC,D0],show x^(0+1)=x by rw[AD,DC,D0]];grind
  rw[e];simp
 | n+1=>by
  have d:=tI b hx c n;have e:(x+1)^(n+1+2)-x^(n+1+2)-((n+1+2:Nat):Int)*x^(n+1+1)=(x+1)*((x+1)^(n+2)-x^(n+2)-((n+2:Nat):Int)*x^(n+1))+((n+2:Nat):Int)*x^(n+1):=by
   rw[show n+1+2=n+2+1 by omega,AD (x+1) (n+2),AD x (n+2),show n+1+1=n+2 by omega,show x^(n+2)=x^(n+1)*x from AD ..];have:((n+2+1:Nat):Int)=((n+2:Nat):Int)+1:=by omega
   rw[this];grind
  rw[e];have h:=K1 (Ec c d) (Ec (a:=((n+2:Nat):Int)) (A:=((n+2:Nat):Int)) (by omega) (O6 hx (n+1)));refine FC h ?_;rw[show A^(n+1)=A^n*A from AD ..];have f:0<=A^n*A:=A8 (Og b) b;have g:A*((((n+1)*(n+2):Nat):Int)*A^n)+((n+2:Nat):Int)*(A^n*A)=((((n+1)*(n+2)+(n+2):Nat)):Int)*(A^n*A):=by
   rw[MT];grind
  rw[g];apply Ap _ f;have:(n+1)*(n+2)+(n+2)<=(n+1+1)*(n+1+2):=by
   have:(n+1)*(n+2)+(n+2)=(n+2)*(n+2):=by rw[<- Om]
   rw[this];exact Ck (by omega) (by omega)
  omega
def X_(c:Nat->Int)(i:Nat):Int:=((i+1:Nat):Int)*c (i+1)
theorem Akb(c:Nat->Int)(b:Int)(d:0<=b):∀ f:Nat,∃ K:Int,0<=K/\∀ q x:Int,0<q->(I x:Int)<=b*q->(I (x+1):Int)<=b*q ->
  (I (hs c (x+1) q (f+2)-hs c x q (f+2)-hs (X_ c) x q (f+1)):Int)<=K*q^f
 | 0=>⟨(I (c 2):Int),by omega,fun q x _ _ _=>by
   have e:hs c (x+1) q (0+2)-hs c x q (0+2)-hs (X_ c) x q (0+1)=c 2:=by
    have g:∀ y:Int,y^(0+1)=y:=fun y=>by rw[AD,DC,D0]
    have i:∀ y:Int,y^(0+1+1)=y*y:=fun y=>by rw[AD,g]
    show (q*(q*c 0+c (0+1)*(x+1)^(0+1))+c (0+1+1)*(x+1)^(0+1+1))-(q*(q*c 0+c (0+1)*x^(0+1))+c (0+1+1)*x^(0+1+1))-(q*(((0+1:Nat):Int)*c (0+1))+((0+1+1:Nat):Int)*c (0+1+1)*x^(0+1))=_;rw[g,g,i,i];have h1:((0+1:Nat):Int)=1:=rfl;have h2:((0+1+1:Nat):Int)=2:=rfl;rw[h1,h2];grind
   rw[e];simp⟩
 | f+1=>by
  obtain⟨K,p,h⟩:=Akb c b d f;refine⟨K+(I (c (f+3)):Int)*((((f+2)*(f+3):Nat):Int)*b^(f+1)),?_,fun q x l hx j => ?_⟩
  ·have:=A8 (show (0:Int)<=(I (c (f+3)):Int) by omega) (A8 (show (0:Int)<=(((f+2)*(f+3):Nat):Int) by omega) (Og (m:=f+1) d));omega
  ·have e:hs c (x+1) q (f+1+2)-hs c x q (f+1+2)-hs (X_ c) x q (f+1+1)=q*(hs c (x+1) q (f+2)-hs c x q (f+2)-hs (X_ c) x q (f+1))+c (f+3)*((x+1)^(f+1+2)-x^(f+1+2)-((f+1+2:Nat):Int)*x^(f+1+1)):=by
    show (q*hs c (x+1) q (f+2)+c (f+3)*(x+1)^(f+1+2))-(q*hs c x q (f+2)+c (f+3)*x^(f+1+2))-(q*hs (X_ c) x q (f+1)+((f+1+1+1:Nat):Int)*c (f+3)*x^(f+1+1))=_;have:((f+1+1+1:Nat):Int)=((f+1+2:Nat):Int):=rfl;rw[this];grind
   rw[e];have n:0<=b*q:=A8 d (by omega);have h1:=Ec (a:=q) (A:=q) (by omega) (h q x l hx j);have h2:=Ec (a:=c (f+3)) (A:=(I (c (f+3)):Int)) (by omega) (tI n hx j (f+1));have k:=K1 h1 h2;have o:(b*q)^(f+1)=b^(f+1)*q^(f+1):=aH ..;rw[o] at k;refine FC k (JG ?_);rw[AD q f];grind
def wv(a:Int):G->Int
 | []=>0
 | s::ss=>if s=0 then wv a ss else (if a ≠ 0/\s ≠ a then 1 else 0)+wv s ss
inductive Mid:Int->List Int->List Int->Prop
 | nil (σ:Int):Mid σ [] []
 | st (σ s:Int) {ss tt:List Int}:(s=1\/s = -1)->Mid s ss tt->Mid σ (s::ss) (s::tt)
 | un (σ a b:Int) {ss tt:List Int}:(-1<=a/\a<=1)->(-1<=b/\b<=1)->Mid (-σ) ss tt->Mid σ (a :: -σ::ss) (b :: -σ::tt)
theorem tJ{σ a:Int}(b:σ=1\/σ = -1)(c : -1<=a/\a<=1)(ss:G):wv σ (a :: -σ::ss)=1+wv (-σ) ss:=by
 simp only[wv];rcases b with rfl | rfl
 ·rcases show a = -1\/a=0\/a=1 by omega with rfl | rfl | rfl <;> simp
 ·rcases show a = -1\/a=0\/a=1 by omega with rfl | rfl | rfl <;> simp
theorem Akc{σ:Int}{s t:G}(h:Mid σ s t):(σ=1\/σ = -1)->wv σ s=wv σ t:=by
 induction h with
 | nil σ=>intro _;rfl
 | st σ s hs _ c =>
  intro _;have e:s ≠ 0:=by omega
  simp only[wv,Aw e];rw[c hs]
 | un σ a b f hb _ c =>
  intro d;rw[tJ d f,tJ d hb,c (by omega)]
inductive Top:List Int->List Int->Int->Prop
 | st (s:Int) {ss tt:List Int}:(s=1\/s = -1)->Mid s ss tt->Top (s::ss) (s::tt) 0
 | un (σ a b:Int) {ss tt:List Int}:(σ=1\/σ = -1)->(a = -σ\/a=0)->(b=0\/b=σ)->Mid σ ss tt->Top (a::σ::ss) (b::σ::tt) (if a=0 then 0 else 1)
theorem nW{s t:G}{d:Int}(h:Top s t d):wv 0 s=wv 0 t+d:=by
 cases h with
 | st s hs c =>
  have i:s ≠ 0:=by omega
  simp only[wv,Aw i];rw[Akc c hs];omega
 | un σ a b f g hb c =>
  have e:=Akc c f;simp only[wv];rcases f with rfl | rfl
  ·rcases g with rfl | rfl <;> rcases hb with rfl | rfl <;> simp <;> omega
  ·rcases g with rfl | rfl <;> rcases hb with rfl | rfl <;> simp <;> omega
theorem tK(p:G)(x:Int):Ah p x=(B5 p:Int)*Ah (prim p) x:=by
 rw[<- AN];exact H_ (fun i=>by rw[Bt,SX]) x
theorem I_(k:Nat)(p:G):F (Ek k p)=k+F p:=by
 unfold Ek;simp
theorem Abu{r d:G}(hd:Cw d)(g:d ≠ [])(h:F d<=F r):∃ (c b:Int) (a:G),0<c/\0<b/\∀ x,c*Ah r x=Ah a x*Ah d x+b*Ah (EO r d) x:=by
 have j:top d ≠ 0:=EN hd g;have e:=Ut h (I (top d)) (sg (top d)*top r);have hp:∀ x,Ah (D7 r d (I (top d)) (sg (top d)*top r) (F r)) x=(B5 (D7 r d (I (top d)) (sg (top d)*top r) (F r)):Int)*Ah (EO r d) x:=fun x=>tK _ x;by_cases f:B5 (D7 r d (I (top d)) (sg (top d)*top r) (F r))=0
 ·have hz:EO r d=[]:=EM.2 (Ls.1 f);refine⟨(I (top d):Int),1,Ek (F r-F d) [sg (top d)*top r],by omega,by decide,fun x => ?_⟩;have h1:=e x;have h2:=hp x;rw[f] at h2;rw[Er,hz];simp only[Ah];have i:(((0:Nat):Int))*Ah (EO r d) x=0:=by simp
  rw[i] at h2;rw[h2] at h1;grind
 ·refine⟨(I (top d):Int),(B5 (D7 r d (I (top d)) (sg (top d)*top r) (F r)):Int),Ek (F r-F d) [sg (top d)*top r],by omega,by omega,fun x => ?_⟩;have h1:=e x;have h2:=hp x;rw[Er];simp only[Ah];rw[<- h2,h1];grind
theorem aI{d:G}(hd:Cw d)(j:d ≠ []):∀ (f:Nat) (r:G),∃ (c i:Int) (g:G),0<c/\0<i/\∀ x,c*Ah r x=Ah g x*Ah d x+i*Ah (Fi f r d) x
 | 0,r=>⟨1,1,[],by decide,by decide,fun x=>by simp[Ah,Fi]⟩
 | f+1,r=>by
  simp only[Fi];split
  next k=>obtain⟨c,i,g,h1,h2,l⟩:=Abu hd j k;obtain⟨e,m,h,n,o,p⟩:=aI hd j f (EO r d);refine⟨e*c,i*m,EQ (AM e g) (AM i h),Br n h1,Br h2 o,fun x => ?_⟩;have a:=l x;have b:=p x;rw[CD,AN,AN,Bm e c,a,DJ,AT e (i*_),Bm i,AT _ e,b];grind
  ·exact⟨1,1,[],by decide,by decide,fun x=>by simp[Ah]⟩
theorem aJ{a b:G}(hb:Cw b)(f:b ≠ []):∃ (c d:Int) (e:G),0<c/\0<d/\∀ x,c*Ah a x=Ah e x*Ah b x+(-d)*Ah (z (t a b)) x:=by
 obtain⟨c,d,e,h1,h2,g⟩:=aI hb f (F a) a;refine⟨c,d,e,h1,h2,fun x => ?_⟩;rw[g x,Mj];unfold t;grind
theorem Uw{a b:G}(hb:Cw b)(g:b ≠ [])(h:Gz [1] a b):Gz [1] b (z (t a b)):=by
 obtain⟨c,i,f,h1,h2,j⟩:=aJ (a:=a) hb g;have k:Gz [1] (z (t a b)) b:=Gz.step (r:=z (t a b)) (d:=b) (e:=a) (q:=f) (a:=i) (m := -c) (by omega) (by omega) (fun x=>by
  have:=j x;grind) h.comm
 exact k.comm
def Hh(p:G)(x q:Int):Int:=hp p x q (F p-1)
def M4(p:G)(x q:Int):Prop:=(0<Hh p x q/\0<Hh p (x+1) q)\/(Hh p x q<0/\Hh p (x+1) q<0)
def aK(a q x:Int):Prop:=0<q/\(I x:Int)<=a*q/\(I (x+1):Int)<=a*q
theorem I1{q:Int}(h:0<q)(n:Nat):0<q^n:=FP h
theorem small(p:G)(c:Int)(g:0<=c):∃ K:Int,0<=K/\∀ q x:Int,aK c q x->¬ M4 p x q->(I (Hh p x q):Int)*q<=K*q^(F p-1)/\(I (Hh p (x+1) q):Int)*q<=K*q^(F p-1):=by
 cases hn:F p-1 with
 | zero =>
  refine⟨0,DO _,fun q x _ d => ?_⟩;have e:∀ y,Hh p y q=H p 0 0:=fun y=>by unfold Hh hp;rw[hn];rfl
  unfold M4 at d;rw[e,e] at d |-;have:H p 0 0=0:=by omega
  rw[this];simp
 | succ f =>
  obtain⟨K,j,h⟩:=Aka (fun i=>H p i 0) c g f;refine⟨K,j,fun q x hr d => ?_⟩;have h1:=h q x hr.1 hr.2.1 hr.2.2;have e:∀ y,Hh p y q=hs (fun i=>H p i 0) y q (f+1):=fun y=>by unfold Hh hp;rw[hn]
  unfold M4 at d;rw[e,e] at d;rw[e,e];generalize hs (fun i=>H p i 0) x q (f+1)=a at *
  generalize hs (fun i=>H p i 0) (x+1) q (f+1)=b at *
  have k:(I a:Int)<=(I (b-a):Int):=by omega
  have hb:(I b:Int)<=(I (b-a):Int):=by omega
  have l:=hr.1;rw[AD,<- Bm];exact⟨Ap (FC k h1) (by omega),Ap (FC hb h1) (by omega)⟩
theorem ACn(x q:Int)(T:Nat):hp [1] x q T=q^T:=by
 have:=V8 (p:=[1]) (T:=0) (by simp) x q T;rw[Cv] at this;rw[this];show q^T*1=_;omega
theorem WS{f g:G}(m:Int)(t:0<=m)(h:Gz [1] f g):∃ k w:Int,0<k/\0<w/\∀ q x:Int,aK m q x->w<=q->¬ M4 f x q->q^(F g-1)<=k*(I (Hh g x q):Int):=by
 obtain⟨_,_,c,u,v,hc,L⟩:=h;obtain⟨K,N,O⟩:=small f m t;obtain⟨Ku,z,P⟩:=Ta (fun i=>H u i 0) m t (max (F u) (F v)+(F g-1));obtain⟨Kv,a1,hv⟩:=Ta (fun i=>H v i 0) m t (max (F u) (F v)+(F f-1));refine⟨2*Kv+1,2*(Ku*K)+1,by omega,by have:=A8 z N;omega,fun q x hr hq R => ?_⟩;obtain⟨p,hx,S⟩:=hr;have h1:=(O q x ⟨p,hx,S⟩ R).1;have h2:=P q x p hx;have T:=hv q x p hx;have s:=A1a (r:=[1]) (d:=f) (e:=Cg v g) (Q:=u) (c:=c) (c':=1) (fun y=>by rw[B8,L y];omega) x q (tq:=max (F u) (F v)+(F g-1)) (td:=F f-1) (by omega) (by omega);have B:=YN (r:=g) (tr:=F g-1) (by omega) x q v (max (F u) (F v)+(F f-1)) (by omega);have C:max (F u) (F v)+(F f-1)+(F g-1)=max (F u) (F v)+(F g-1)+(F f-1):=by omega
 rw[C] at B;rw[B,ACn,D0] at s;change c*q^(max (F u) (F v)+(F g-1)+(F f-1))=hs (fun i=>H u i 0) x q (max (F u) (F v)+(F g-1))*Hh f x q+hs (fun i=>H v i 0) x q (max (F u) (F v)+(F f-1))*Hh g x q at s;have D:q^(max (F u) (F v)+(F g-1)+(F f-1))=q^(max (F u) (F v)+(F f-1))*q^(F g-1):=by rw[<- Cc,<- C]
 have U:q^(max (F u) (F v)+(F g-1))*q^(F f-1)=q^(max (F u) (F v)+(F f-1))*q^(F g-1):=by rw[<- Cc,<- D]
 have E:=I1 p (max (F u) (F v)+(F f-1));have pb:=I1 p (max (F u) (F v)+(F g-1));have V:=I1 p (F g-1);have pn:=I1 p (F f-1);rw[D] at s;generalize hs (fun i=>H u i 0) x q (max (F u) (F v)+(F g-1))=n at *
 generalize hs (fun i=>H v i 0) x q (max (F u) (F v)+(F f-1))=o at *
 generalize q^(max (F u) (F v)+(F f-1))=A at *
 generalize q^(max (F u) (F v)+(F g-1))=a at *
 generalize q^(F g-1)=M at *
 generalize q^(F f-1)=l at *
 generalize Hh f x q=b at *
 generalize Hh g x q=j at *
 have W:(I (c*(A*M)):Int)<=(I n:Int)*(I b:Int)+(I o:Int)*(I j:Int):=by
  rw[s];exact K1 (Ec (DO _) (DO _)) (Ec (DO _) (DO _))
 have X:A*M<=(I (c*(A*M)):Int):=by
  rw[C1,Eg];have a2:=Br E V;have:(I (A*M):Int)=A*M:=Ol (by omega);rw[this];have:=Ap (show (1:Int)<=(I c:Int) by omega) (show 0<=A*M by omega);omega
 have n3:(I n:Int)*(I b:Int)*q<=A*(Ku*K*M):=by
  have J:(I n:Int)*((I b:Int)*q)<=Ku*a*(K*l):=Fk h2 h1 (A8 (by omega) (by omega)) (A8 z (by omega));have e5:Ku*a*(K*l)=A*(Ku*K*M):=by
   have:Ku*a*(K*l)=Ku*K*(a*l):=by grind
   rw[this,U];grind
  rw[Bm];omega
 have n4:(I o:Int)*(I j:Int)*q<=A*(Kv*((I j:Int)*q)):=by
  have J:=Ap T (A8 (show (0:Int)<=(I j:Int) by omega) (show 0<=q by omega));rw[Bm];refine FC J (JG ?_);grind
 have Y:A*(M*q)<=A*(Ku*K*M+Kv*((I j:Int)*q)):=by
  have Z:=Ap (FC X W) (show 0<=q by omega);rw[H2] at Z;rw[DJ];have:A*M*q=A*(M*q):=Bm ..;omega
 have n6:=Fu Y E;have n7:2*(Ku*K*M)<=M*q:=by
  have h7:=Ax (show 2*(Ku*K)<=q by omega) (show 0<=M by omega);have:M*(2*(Ku*K))=2*(Ku*K*M):=by grind
  omega
 have n8:M*q<=2*Kv*(I j:Int)*q:=by
  have:2*Kv*(I j:Int)*q=2*(Kv*((I j:Int)*q)):=by grind
  omega
 have n9:M<=2*Kv*(I j:Int):=CR n8 p;have:(2*Kv+1)*(I j:Int)=2*Kv*(I j:Int)+(I j:Int):=by rw[H2,D0]
 omega
theorem A1b(g:G)(c b:Int)(e:0<=c)(n:0<b):∃ d:Int,0<d/\∀ q x:Int,aK c q x->d<=q->q^(F g-1)<=b*(I (Hh g x q):Int)->M4 g x q:=by
 obtain⟨K,f,h⟩:=small g c e;refine⟨b*K+1,by have:=A8 (show 0<=b by omega) f;omega,fun q x hr o i => ?_⟩;apply A6;intro j;have h1:=(h q x hr j).1;have k:=hr.1;have l:=I1 k (F g-1);generalize q^(F g-1)=M at *
 generalize (I (Hh g x q):Int)=a at *
 have h2:=Ap i (show 0<=q by omega);have p:=Ax h1 (show 0<=b by omega);have r:b*(a*q)=b*a*q:=by grind
 have s:b*(K*M)=M*(b*K):=by grind
 have m:M*q<=M*(b*K):=by omega
 have t:=Fu m l;omega
theorem Tb{f g:G}(b:Int)(c:0<=b)(h:Gz [1] f g):∃ a d:Int,0<a/\0<d/\∀ q x:Int,aK b q x->d<=q->¬ M4 f x q->M4 g x q/\q^(F g-1)<=a*(I (Hh g x q):Int):=by
 obtain⟨a,j,e,m,h1⟩:=WS b c h;obtain⟨k,n,h2⟩:=A1b g b a c e;refine⟨a,j+k,e,by omega,fun q x hr o l => ?_⟩;have i:=h1 q x hr (by omega) l;exact⟨h2 q x hr (by omega) i,i⟩
theorem Amx{a b e k:G}{c d:Int}(l:Int)(t:0<=l)(hc:0<c)(a1:0<d)(J:∀ x,c*Ah a x=Ah k x*Ah b x+(-d)*Ah e x)(h:Gz [1] b e) :
  ∃ v:Int,0<v/\∀ q x:Int,aK l q x->v<=q->¬ M4 b x q->(0<Hh e x q->Hh a x q<0)/\(Hh e x q<0->0<Hh a x q):=by
 obtain⟨K,L,N⟩:=small b l t;obtain⟨j,O,hL,a2,P⟩:=WS l t h;obtain⟨KQ,w,Q⟩:=Ta (fun i=>H k i 0) l t (F k+F a+F e);have a3:=A8 (show 0<=j by omega) (A8 w L);refine⟨O+j*(KQ*K)+1,by omega,fun q x hr a4 y => ?_⟩;have h1:=(N q x hr y).1;have h2:=P q x hr (by omega) y;have o:=hr.1;have R:=Q q x o hr.2.1;have r:=A1a J x q (tq:=F k+F a+F e) (td:=F b-1) (by omega) (by omega);have z:=V8 (p:=a) (T:=F a-1) (by omega) x q (F k+F a+F e+(F b-1)-(F a-1));have B:=V8 (p:=e) (T:=F e-1) (by omega) x q (F k+F a+F e+(F b-1)-(F e-1));rw[show F a-1+(F k+F a+F e+(F b-1)-(F a-1))=F k+F a+F e+(F b-1) by omega] at z;rw[show F e-1+(F k+F a+F e+(F b-1)-(F e-1))=F k+F a+F e+(F b-1) by omega] at B;rw[z,B] at r;change c*(q^_*Hh a x q)=hs (fun i=>H k i 0) x q (F k+F a+F e)*Hh b x q+(-d)*(q^_*Hh e x q) at r;have pA:=I1 o (F k+F a+F e+(F b-1)-(F a-1));have pE:=I1 o (F k+F a+F e+(F b-1)-(F e-1));have S:=I1 o (F k+F a+F e);have U:=I1 o (F b-1);have eP:q^(F k+F a+F e+(F b-1)-(F e-1))*q^(F e-1)=q^(F k+F a+F e)*q^(F b-1):=by
  rw[<- Cc,<- Cc];congr 1;omega
 generalize q^(F k+F a+F e+(F b-1)-(F a-1))=A at *
 generalize q^(F k+F a+F e+(F b-1)-(F e-1))=g at *
 generalize q^(F k+F a+F e)=T at *
 generalize q^(F b-1)=f at *
 generalize q^(F e-1)=M at *
 generalize hs (fun i=>H k i 0) x q (F k+F a+F e)=m at *
 generalize Hh a x q=Ha at *
 generalize Hh b x q=Hb at *
 generalize Hh e x q=He at *
 have V:=Br S U;have W:(I (m*Hb):Int)*q<=KQ*K*(T*f):=by
  have h5:(I m:Int)*((Hb.natAbs:Int)*q)<=KQ*T*(K*f):=Fk R h1 (A8 (by omega) (by omega)) (A8 w (by omega));have e5:(I (m*Hb):Int)*q=(I m:Int)*((Hb.natAbs:Int)*q):=by rw[C1,Eg];grind
  have e6:KQ*T*(K*f)=KQ*K*(T*f):=by grind
  omega
 have X:T*f<=j*(g*(He.natAbs:Int)):=by
  have h6:=Ax h2 (show 0<=g by omega);have e7:g*(j*(He.natAbs:Int))=j*(g*(He.natAbs:Int)):=by grind
  omega
 have C:(I (m*Hb):Int)<g*(He.natAbs:Int):=by
  apply FI.1;intro D;have h7:=Ap (Ax D (show 0<=j by omega)) (show 0<=q by omega);have h8:=Ap X (show 0<=q by omega);have h9:=Ax W (show 0<=j by omega);have e8:j*(I (m*Hb):Int)*q=j*((I (m*Hb):Int)*q):=Bm ..;have e9:j*(KQ*K*(T*f))=T*f*(j*(KQ*K)):=by grind
  have Y:T*f*q<=T*f*(j*(KQ*K)):=by omega
  have a5:=Fu Y V;omega
 have E:g*(He.natAbs:Int)<=d*(g*(He.natAbs:Int)):=by
  have:=Ap (show (1:Int)<=d by omega) (A8 (show 0<=g by omega) (show (0:Int)<=(He.natAbs:Int) by omega));omega
 generalize m*Hb=n at *
 refine⟨fun hp => ?_,fun hn => ?_⟩
 ·have s:(He.natAbs:Int)=He:=by omega
  rw[s] at C E;apply FI.1;intro Z;have u:=A8 (show 0<=c by omega) (A8 (show 0<=A by omega) Z);rw[r,O'] at u;omega
 ·have s:(He.natAbs:Int) = -He:=by omega
  rw[s,F8] at C;rw[s,F8,F8] at E;apply FI.1;intro D;have u:=A8 (show 0<=c by omega) (A8 (show 0<=A by omega) (show 0 <= -Ha by omega));rw[F8,F8,r,O'] at u;omega
theorem tL(f:G)(x q:Int)(m:Nat):hs (X_ fun i=>H f i 0) x q m=(B5 (AE f):Int)*hs (fun i=>H (prim (AE f)) i 0) x q m:=by
 have h:=O5 (B5 (AE f)) 0 (fun i=>H (prim (AE f)) i 0) (fun i=>H (prim (AE f)) i 0) x q m;rw[Cs,Cx] at h;rw[<- h];apply Ql;intro i _;have h1:=SX (AE f) i;have h2:=Ej f i;unfold X_;rw[h1,h2];grind
theorem Ya{f:G}(g:Int)(n:0<=g)(O:2<=F f)(l:F (prim (AE f))=F f-1)(h:Gz [1] f (prim (AE f)))(hc:0<B5 (AE f)) :
  ∃ o:Int,0<o/\∀ q x:Int,aK g q x->o<=q->¬ M4 f x q->(0<Hh (prim (AE f)) x q->Hh f x q<Hh f (x+1) q)/\(Hh (prim (AE f)) x q<0->Hh f (x+1) q<Hh f x q):=by
 obtain⟨e,p,P,v,w⟩:=WS g n h;cases Q:F f-2 with
 | zero =>
  refine⟨p,v,fun q x hr z r => ?_⟩;have hd:=tL f x q 0;have d:∀ y,Hh f y q=hs (fun i=>H f i 0) y q 1:=fun y=>by unfold Hh hp;rw[show F f-1=1 by omega]
  have k:Hh (prim (AE f)) x q=hs (fun i=>H (prim (AE f)) i 0) x q 0:=by unfold Hh hp;rw[l,show F f-1-1=0 by omega]
  have A:hs (fun i=>H f i 0) (x+1) q 1-hs (fun i=>H f i 0) x q 1=hs (X_ fun i=>H f i 0) x q 0:=by
   show (q*H f 0 0+H f (0+1) 0*(x+1)^(0+1))-(q*H f 0 0+H f (0+1) 0*x^(0+1))=((0+1:Nat):Int)*H f (0+1) 0;have s:∀ y:Int,y^(0+1)=y:=fun y=>by rw[AD,DC,D0]
   rw[s,s];have h1:((0+1:Nat):Int)=1:=rfl;rw[h1];grind
  rw[d,d,k];rw[hd] at A;generalize hs (fun i=>H (prim (AE f)) i 0) x q 0=c at *
  refine⟨fun hp => ?_,fun hn => ?_⟩
  ·have:=Br (show (0:Int)<(B5 (AE f):Int) by omega) hp;omega
  ·have:=Br (show (0:Int)<(B5 (AE f):Int) by omega) (show 0 < -c by omega);rw[F8] at this;omega
 | succ j =>
  obtain⟨K,B,C⟩:=Akb (fun i=>H f i 0) g n j;have R:=A8 (show 0<=e by omega) B;refine⟨p+e*K+1,by omega,fun q x hr z r => ?_⟩;have t:=hr.1;have h2:=w q x hr (by omega) r;have D:=C q x t hr.2.1 hr.2.2;have hd:=tL f x q (j+1);have d:∀ y,Hh f y q=hs (fun i=>H f i 0) y q (j+2):=fun y=>by unfold Hh hp;rw[show F f-1=j+2 by omega]
  have k:Hh (prim (AE f)) x q=hs (fun i=>H (prim (AE f)) i 0) x q (j+1):=by unfold Hh hp;rw[l,show F f-1-1=j+1 by omega]
  rw[l,show F f-1-1=j+1 by omega,AD,k] at h2;rw[d,d,k];rw[hd] at D;have E:=I1 t j;generalize q^j=M at *
  generalize hs (fun i=>H f i 0) (x+1) q (j+2)=b at *
  generalize hs (fun i=>H f i 0) x q (j+2)=a at *
  generalize hs (fun i=>H (prim (AE f)) i 0) x q (j+1)=c at *
  have J:K*M<(I c:Int):=by
   apply FI.1;intro L;have S:=Ax L (show 0<=e by omega);have T:e*(K*M)=M*(e*K):=by grind
   have N:M*q<=M*(e*K):=by omega
   have:=Fu N E;omega
  have u:=Ap (show (1:Int)<=(B5 (AE f):Int) by omega) (show (0:Int)<=(I c:Int) by omega);refine⟨fun hp => ?_,fun hn => ?_⟩
  ·have m:(I c:Int)=c:=by omega
   rw[m] at J u;omega
  ·have m:(I c:Int) = -c:=by omega
   rw[m,D0,F8] at u;omega
def CM(n:Int):Int:=if n<0 then -1 else if 0<n then 1 else 0
theorem nX(n:Int) : -1<=CM n/\CM n<=1:=by unfold CM; (repeat' split) <;> omega
def Jm:Nat->G->G->List (G)
 | 0,_,_=>[]
 | f+1,a,b=>if b=[] then [] else b::Jm f b (z (t a b))
def EH(l:List (G))(x q:Int):G:=l.map fun p=>CM (Hh p x q)
theorem NI{p:G}{x q:Int}(h:M4 p x q):CM (Hh p (x+1) q)=CM (Hh p x q)/\(CM (Hh p x q)=1\/CM (Hh p x q) = -1):=by
 unfold M4 at h;unfold CM;rcases h with ⟨h1,h2⟩ | ⟨h1,h2⟩
 ·rw[Aw (by omega),Ar h2,Aw (by omega),Ar h1];exact⟨rfl,.inl rfl⟩
 ·rw[Ar h2,Ar h1];exact⟨rfl,.inr rfl⟩
theorem ACo(x q:Int):Hh [] x q=0:=YM x q _
theorem RZ{a b:G}(c:Cw a):Cw (t a b):=by
 unfold t;generalize F a=f;induction f generalizing a with
 | zero=>exact c
 | succ f d =>
  simp only[Fi];split
  ·exact d (XW a b)
  ·exact c
theorem Amy{d:G}(a:d ≠ []):∀ (f:Nat) (r:G),F r<=f->F (Fi f r d)<F d:=by
 have e:=Av.2 a;intro f;induction f with
 | zero=>intro r h;simp only[Fi];omega
 | succ f b =>
  intro r h;simp only[Fi];split
  next c=>have:=LN a c;exact b _ (by omega)
  ·omega
theorem WT{a b:G}(c:b ≠ []):F (t a b)<F b:=Amy c _ _ (A2 _)
theorem tM(j:Int)(A:0<=j):∀ (n f:Nat),f<=n->∀ (a b:G),F b<=f->Cw a->Cw b->Gz [1] a b ->
  ∃ B:Int,0<B/\∀ q x:Int,aK j q x->B<=q->M4 a x q->Mid (CM (Hh a x q)) (EH (Jm f a b) x q) (EH (Jm f a b) (x+1) q):=by
 intro n;induction n with
 | zero =>
  intro f H a b hb _ _ _;have:f=0:=by omega
  subst this;exact⟨1,by decide,fun q x _ _ _=>Mid.nil _⟩
 | succ n C =>
  intro f H a b hb I s h;by_cases l:b=[]
  ·have e:Jm f a b=[]:=by
    cases f with
    | zero=>rfl
    | succ f=>simp only[Jm];rw[Ar l]
   rw[e];exact⟨1,by decide,fun q x _ _ _=>Mid.nil _⟩
  ·have Z:=Av.2 l;obtain⟨f,rfl⟩:∃ k,f=k+1:=⟨f-1,by omega⟩;have a1:=WT (a:=a) l;have u:=Uw s l h;have y:Cw (z (t a b)):=Kl (RZ I);obtain⟨D,a2,h1⟩:=C f (by omega) b (z (t a b)) (by rw[EY];omega) s y u;obtain⟨g,E,hL,a3,h2⟩:=Tb j A u;obtain⟨c,c',i,hc,J,K⟩:=aJ (a:=a) s l;obtain⟨L,a4,M⟩:=Amx j A hc J K u;have N:Jm (f+1) a b=b::Jm f b (z (t a b)):=by simp only[Jm];rw[Aw l]
   rw[N];by_cases o:z (t a b)=[]
   ·refine⟨D+E,by omega,fun q x hr O P => ?_⟩;have d:M4 b x q:=by
     apply A6;intro hn;have:=(h2 q x hr (by omega) hn).2;rw[o,ACo] at this;simp at this
    obtain⟨p,v⟩:=NI d;have m:=h1 q x hr (by omega) d;show Mid _ (CM (Hh b x q)::_) (CM (Hh b (x+1) q)::_);rw[p];exact Mid.st _ _ v m
   ·have Q:=Av.2 o;rw[EY] at Q;obtain⟨f,rfl⟩:∃ k,f=k+1:=⟨f-1,by omega⟩;have R:=Uw y o u;have S:=WT (a:=b) o;rw[EY] at S;obtain⟨T,a5,U⟩:=C f (by omega) (z (t a b)) (z (t b (z (t a b)))) (by rw[EY];omega) y (Kl (RZ s)) R;refine⟨D+E+L+T,by omega,fun q x hr O P => ?_⟩;by_cases d:M4 b x q
    ·obtain⟨p,v⟩:=NI d;have m:=h1 q x hr (by omega) d;show Mid _ (CM (Hh b x q)::_) (CM (Hh b (x+1) q)::_);rw[p];exact Mid.st _ _ v m
    ·obtain⟨w,_⟩:=h2 q x hr (by omega) d;obtain⟨V,W⟩:=M q x hr (by omega) d;obtain⟨p,v⟩:=NI w;have m:=U q x hr (by omega) w;have X:CM (Hh (z (t a b)) x q) = -CM (Hh a x q):=by
      unfold M4 at w;unfold CM;rcases w with ⟨r,_⟩ | ⟨r,_⟩
      ·have:=V r;rw[Aw (by omega),Ar r,Ar this];rfl
      ·have:=W r;rw[Ar r,Aw (by omega),Ar this]
     have Y:Jm (f+1) b (z (t a b))=z (t a b)::Jm f (z (t a b)) (z (t b (z (t a b)))):=by simp only[Jm];rw[Aw o]
     rw[Y];show Mid _ (CM (Hh b x q)::CM (Hh (z (t a b)) x q)::_) (CM (Hh b (x+1) q)::CM (Hh (z (t a b)) (x+1) q)::_);rw[p];rw[X] at m |-;exact Mid.un _ _ _ (nX _) (nX _) m
theorem ACp{a:Int}(h:a=1\/a = -1)(n:Int)(h2:CM n=a):(a=1/\0<n)\/(a = -1/\n<0):=by
 unfold CM at h2;split at h2
 ·right;omega
 ·split at h2
  ·left;omega
  ·omega
theorem WU{f:G}(c:Int)(j:0<=c)(lf:Cw f)(y:2<=F f)(o:F (prim (AE f))=F f-1)(h:Gz [1] f (prim (AE f)))(hc:0<B5 (AE f))(n:Nat)(hn:F f-1<=n) :
  ∃ v:Int,0<v/\∀ q x:Int,aK c q x->v<=q->∃ d:Int,Top (EH (f::Jm n f (prim (AE f))) x q) (EH (f::Jm n f (prim (AE f))) (x+1) q) d/\(d=0\/d=1)/\(d=1->¬ M4 f x q/\Hh f x q ≠ 0)/\(d=0->M4 f x q\/Hh f x q=0):=by
 have p:Cw (prim (AE f)):=De _;have r:prim (AE f) ≠ []:=by intro l;rw[l] at o;simp at o;omega
 obtain⟨A,N,m1⟩:=tM c j n n (A2 _) f (prim (AE f)) (by omega) lf p h;obtain⟨b,B,O,P,C⟩:=Tb c j h;obtain⟨D,Q,E⟩:=Ya c j y o h hc;obtain⟨n,rfl⟩:∃ k,n=k+1:=⟨n-1,by omega⟩;have H:Jm (n+1) f (prim (AE f))=prim (AE f)::Jm n (prim (AE f)) (z (t f (prim (AE f)))):=by simp only[Jm];rw[Aw r]
 have I:=Uw p r h;have R:=WT (a:=f) r;obtain⟨J,S,K⟩:=tM c j n n (A2 _) (prim (AE f)) (z (t f (prim (AE f)))) (by rw[EY];omega) p (Kl (RZ lf)) I;refine⟨A+B+D+J,by omega,fun q x hr T => ?_⟩;by_cases e:M4 f x q
 ·obtain⟨s,g⟩:=NI e;have m:=m1 q x hr (by omega) e;refine⟨0,?_,.inl rfl,fun h=>absurd h (by decide),fun _ => .inl e⟩;show Top (CM (Hh f x q)::_) (CM (Hh f (x+1) q)::_) 0;rw[s];exact Top.st _ g m
 ·obtain⟨w,_⟩:=C q x hr (by omega) e;obtain⟨s,g⟩:=NI w;obtain⟨L,M⟩:=E q x hr (by omega) e;have m:=K q x hr (by omega) w;rw[H];refine⟨if CM (Hh f x q)=0 then 0 else 1,?_,by split;exact .inl rfl;exact .inr rfl,?_,?_⟩
  ·show Top (CM (Hh f x q)::CM (Hh (prim (AE f)) x q)::_) (CM (Hh f (x+1) q)::CM (Hh (prim (AE f)) (x+1) q)::_) _;rw[s];unfold M4 at e;rcases ACp g _ rfl with ⟨i,u⟩ | ⟨i,u⟩
   ·have hd:=L u;refine Top.un _ _ _ g ?_ ?_ m
    ·rw[i];unfold CM; (repeat' split) <;> omega
    ·rw[i];unfold CM; (repeat' split) <;> omega
   ·have hd:=M u;refine Top.un _ _ _ g ?_ ?_ m
    ·rw[i];unfold CM; (repeat' split) <;> omega
    ·rw[i];unfold CM; (repeat' split) <;> omega
  ·intro hd;refine⟨e,fun l => ?_⟩;rw[l] at hd;exact absurd hd (by decide)
  ·intro hd;right;apply A6;intro l;rw[Aw (by unfold CM; (repeat' split) <;> omega)] at hd
   exact absurd hd (by decide)
theorem tN{f:G}(a:Int)(g:0<=a)(lf:Cw f)(i:2<=F f)(j:F (prim (AE f))=F f-1)(h:Gz [1] f (prim (AE f)))(hc:0<B5 (AE f))(n:Nat)(hn:F f-1<=n) :
  ∃ b:Int,0<b/\∀ q u:Int,0<q->b<=q->∀ k:Nat,(I u:Int)<=a*q->(I (u+(k:Int)):Int)<=a*q ->
   wv 0 (EH (f::Jm n f (prim (AE f))) (u+k) q)<=wv 0 (EH (f::Jm n f (prim (AE f))) u q):=by
 obtain⟨b,l,m⟩:=WU a g lf i j h hc n hn;refine⟨b,l,fun q u o p k => ?_⟩;induction k with
 | zero=>intro _ _;simp
 | succ k r =>
  intro h1 h2;have c:(I (u+(k:Int)):Int)<=a*q:=by omega
  have t:=r h1 c;have s:(I (u+(k:Int)+1):Int)<=a*q:=by omega
  obtain⟨d,hd,v,_,_⟩:=m q (u+(k:Int)) ⟨o,c,s⟩ p;have w:=nW hd;have e:u+((k+1:Nat):Int)=u+(k:Int)+1:=by omega
  rw[e];omega
theorem Nt(p:G)(x q c:Int)(hc:0<c):CM (Hh p (c*x) (c*q))=CM (Hh p x q):=by
 have e:∀ f,hs (fun i=>H p i 0) (c*x) (c*q) f=c^f*hs (fun i=>H p i 0) x q f:=by
  intro f;induction f with
  | zero=>simp[hs]
  | succ f d =>
   simp only[hs];rw[d,aH,AD c f];grind
 have hp:0<c^(F p-1):=FP hc;unfold Hh Go.Ai.hp;rw[e];generalize hs (fun i=>H p i 0) x q (F p-1)=b;generalize c^(F p-1)=a at *
 unfold CM;by_cases h1:b<0
 ·have:=It hp h1;rw[Ar this,Ar h1]
 ·by_cases h2:0<b
  ·have:=Br hp h2;rw[Aw (by omega),Aw h1,Ar this,Ar h2]
  ·have:b=0:=by omega
   rw[this];simp
theorem Km(l:List (G))(x q c:Int)(hc:0<c):EH l (c*x) (c*q)=EH l x q:=by
 unfold EH;exact GP fun p _=>Nt p x q c hc
theorem Qm{f:G}(lf:Cw f)(a:2<=F f):F (AE f)=F f-1:=by
 have b:=EN lf (by intro h;rw[h] at a;simp at a);unfold AE;have c:Cw ((Ay (F f-1)).map fun j=>H f (j+1) 0*((j+1:Nat):Int)):=by
  refine Vy (.inr ?_);rw[Ac,CF,HV,Ar (by omega),show F f-1-1+1=F f-1 by omega];exact Bv b (by omega)
 rw[c,Ac,CF]
theorem Mn{p:G}(hp:Af p ≠ [])(d:2<=F (O p)):Cw (O p)/\F (prim (AE (O p)))=F (O p)-1/\Gz [1] (O p) (prim (AE (O p)))/\0<B5 (AE (O p)):=by
 obtain⟨lf,o,q,e,_,_,_,h1⟩:=C7 hp;generalize O p=f at *
 have hd:=Qm lf d;have ld:Cw (AE f):=GG _;have g:Af (AE f) ≠ []:=by rw[ld];intro h;rw[h] at hd;simp at hd;omega
 have a:=Gd f (AE f);obtain⟨c,hc⟩:=P3 h1;have b:=Lx (t:=AE f) (Ca lf e);rw[hc] at a b;have r:0<c:=b;refine⟨lf,by rw[CO,ld,hd],?_,Lt g⟩;have h2:Gz [1] f (AE f):=a.gscaled (m:=c) (n:=1) (by omega) (by decide) (fun x=>by simp[Ah]);obtain⟨m,i,j⟩:=Kk (AE f);exact h2.scaled (m:=1) (n:=1) (k:=m) (l:=1) (by decide) (by decide) i (by decide) (fun x=>rfl) (fun x=>by rw[<- j x];omega)
def D2(p:G):List (G):=if O p=[] then [] else O p::Jm (F (O p)) (O p) (prim (AE (O p)))
theorem Mo(p:G){x y q:Int}(m:0<q)(s:x<=y):wv 0 (EH (D2 p) y q)<=wv 0 (EH (D2 p) x q):=by
 unfold D2;by_cases c:O p=[]
 ·rw[Ar c];exact DO _
 ·rw[Aw c];have hp:Af p ≠ []:=by
   intro h;have hz:prim p=[]:=by rw[EM,<- DY];exact h
   apply c;unfold O;rw[hz];rfl
  have t:=Av.2 c;by_cases g:2<=F (O p)
  ·obtain⟨lf,d,n,hc⟩:=Mn hp g;obtain⟨b,f,o⟩:=tN (I x+I y) (by omega) lf g d n hc (F (O p)) (by omega);have h1:(0:Int)<b*q:=Br f m;have r:b<=b*q:=by
    have:=Ax (show (1:Int)<=q by omega) (show 0<=b by omega);omega
   have hb:∀ z:Int,(I z:Int)<=(I x:Int)+(I y:Int)->(I (b*z):Int)<=((I x:Int)+(I y:Int))*(b*q):=by
    intro z hz;have h2:=Ec (a:=b) (A:=b*q) (by omega) hz;have e:b*q*((I x:Int)+(I y:Int))=((I x:Int)+(I y:Int))*(b*q):=AT ..;omega
   have hd:0<=b*(y-x):=A8 (by omega) (by omega);have j:b*x+((b*(y-x)).toNat:Int)=b*y:=by rw[V9 hd,Gs];omega
   have k:=o (b*q) (b*x) h1 r (b*(y-x)).toNat (hb x (by omega)) (by rw[j];exact hb y (by omega));rw[j,Km _ _ _ _ f,Km _ _ _ _ f] at k;exact k
  ·have d:F (O p)=1:=by omega
   have hz:prim (AE (O p))=[]:=by
    rw[EM];intro i;rw[Ej,Cp (by omega),Cs]
   have e:Jm (F (O p)) (O p) (prim (AE (O p)))=[]:=by rw[d,hz];rfl
   rw[e];have l:∀ z,Hh (O p) z q=H (O p) 0 0:=fun z=>by unfold Hh Go.Ai.hp;rw[d];rfl
   unfold EH;simp only[CW,HC];rw[l,l];exact DO _
theorem DB{n:Int}:CM n=0↔n=0:=by unfold CM; (repeat' split) <;> omega
theorem GK{n:Int}:CM n=1↔0<n:=by unfold CM; (repeat' split) <;> omega
theorem Gu{n:Int}:CM n = -1↔n<0:=by unfold CM; (repeat' split) <;> omega
def Rc(f g:G)(W:Int->Int)(q x:Int):Prop :=
 (CM (Hh f (x+1) q)=CM (Hh f x q)/\Hh f x q ≠ 0/\W x=W (x+1)) \/
 ((CM (Hh g x q)=1\/CM (Hh g x q) = -1)/\CM (Hh g (x+1) q)=CM (Hh g x q) /\
  ((Hh f x q=0/\CM (Hh f (x+1) q)=CM (Hh g x q)/\W x=W (x+1)) \/
  (CM (Hh f x q) = -CM (Hh g x q)/\(Hh f (x+1) q=0\/CM (Hh f (x+1) q)=CM (Hh g x q))/\W x=W (x+1)+1)))
theorem cell{f:G}(b:Int)(j:0<=b)(lf:Cw f)(o:2<=F f)(p:F (prim (AE f))=F f-1)(h:Gz [1] f (prim (AE f)))(hc:0<B5 (AE f))(n:Nat)(hn:F f-1<=n) :
  ∃ r:Int,0<r/\∀ q x:Int,aK b q x->r<=q->Rc f (prim (AE f)) (fun y=>wv 0 (EH (f::Jm n f (prim (AE f))) y q)) q x:=by
 obtain⟨v,I,w⟩:=WU b j lf o p h hc n hn;obtain⟨a,z,J,K,A⟩:=Tb b j h;obtain⟨B,L,C⟩:=Ya b j o p h hc;refine⟨v+z+B,by omega,fun q x hr M => ?_⟩;obtain⟨d,hd,l,s,D⟩:=w q x hr (by omega);have N:=nW hd;unfold Rc;by_cases c:M4 f x q
 ·left;obtain⟨m,g⟩:=NI c;have E:d=0:=by
   rcases l with e | e
   ·exact e
   ·exact absurd c (s e).1
  refine⟨m,fun i => ?_,by show wv 0 _=wv 0 _;omega⟩;rw[i] at g;exact absurd g (by decide)
 ·right;obtain⟨H,_⟩:=A q x hr (by omega) c;obtain⟨m,g⟩:=NI H;obtain⟨t,u⟩:=C q x hr (by omega) c;refine⟨g,m,?_⟩;by_cases i:Hh f x q=0
  ·left;have E:d=0:=by
    rcases l with e | e
    ·exact e
    ·exact absurd i (s e).2
   refine⟨i,?_,by show wv 0 _=wv 0 _;omega⟩;rcases g with k | k
   ·have:=t (GK.1 k);rw[k,GK];omega
   ·have:=u (Gu.1 k);rw[k,Gu];omega
  ·right;have O:d=1:=by
    rcases l with e | e
    ·rcases D e with k | k
     ·exact absurd k c
     ·exact absurd k i
    ·exact e
   unfold M4 at c;rcases g with k | k
   ·have:=t (GK.1 k);refine⟨by rw[k,Gu];omega,?_,by show wv 0 _=wv 0 _+1;omega⟩;by_cases hz:Hh f (x+1) q=0
    ·exact .inl hz
    ·right;rw[k,GK];omega
   ·have:=u (Gu.1 k);refine⟨by rw[k];show _=1;rw[GK];omega,?_,by show wv 0 _=wv 0 _+1;omega⟩;by_cases hz:Hh f (x+1) q=0
    ·exact .inl hz
    ·right;rw[k,Gu];omega
section
variable{f g:G}{a:Int->Int}{q x:Int}
theorem Rc.mono(h:Rc f g a q x):a (x+1)<=a x:=by
 rcases h with ⟨_,_,h⟩ | ⟨_,_,⟨_,_,h⟩ | ⟨_,_,h⟩⟩ <;> omega
theorem Rc.root(h:Rc f g a q x)(b:Hh f (x+1) q=0):a x=a (x+1)+1:=by
 have e:CM (Hh f (x+1) q)=0:=DB.2 b;rcases h with ⟨h1,h2,_⟩ | ⟨h1,_,⟨_,c,_⟩ | ⟨_,_,h⟩⟩
 ·rw[e] at h1;exact absurd (DB.1 h1.symm) h2
 ·omega
 ·exact h
end
def Par(f g:G)(a:Int->Int)(q u v:Int):Prop :=
 (Hh f v q ≠ 0/\CM (Hh f v q)=(if (a u-a v) % 2=0 then 1 else -1)*CM (Hh f u q)) \/
 (Hh f v q=0/\CM (Hh g v q)=(if (a u-a v) % 2=0 then 1 else -1)*CM (Hh f u q))
theorem Ux{f g:G}{W:Int->Int}{q u:Int}(l:Hh f u q ≠ 0):∀ k:Nat,(∀ j:Nat,j<k->Rc f g W q (u+j))->Par f g W q u (u+k)
 | 0,_=>by
  left;rw[show u+((0:Nat):Int)=u by omega];exact⟨l,by rw[Ar (by omega),D0]⟩
 | k+1,hc=>by
  have i:=Ux l k (fun j hj=>hc j (by omega));have c:=hc k (by omega);have e:u+((k+1:Nat):Int)=u+(k:Int)+1:=by omega
  rw[e];have p:CM (Hh f u q)=1\/CM (Hh f u q) = -1:=by
   have:=nX (Hh f u q);have:CM (Hh f u q) ≠ 0:=fun o=>l (DB.1 o);omega
  generalize u+(k:Int)=v at *
  unfold Par at i |-;rcases c with ⟨c1,m,h⟩ | ⟨c1,m,⟨h,a,n⟩ | ⟨h,a,n⟩⟩
  ·rw[<- h];rcases i with ⟨d,b⟩ | ⟨d,_⟩
   ·left;refine⟨fun hz => ?_,by rw[c1];exact b⟩;rw[hz] at c1;exact d (DB.1 c1.symm)
   ·exact absurd d m
  ·rw[<- n];rcases i with ⟨d,_⟩ | ⟨_,b⟩
   ·exact absurd h d
   ·left;refine⟨fun hz => ?_,by rw[a];exact b⟩;rw[hz] at a;have:CM 0=0:=rfl;omega
  ·have b:CM (Hh f v q)=(if (W u-W v) % 2=0 then 1 else -1)*CM (Hh f u q):=by
    rcases i with ⟨_,b⟩ | ⟨d,_⟩
    ·exact b
    ·rw[d] at h;have:CM 0=0:=rfl;omega
   have flip:CM (Hh g v q)=(if (W u-W (v+1)) % 2=0 then 1 else -1)*CM (Hh f u q):=by
    by_cases hp:(W u-W v) % 2=0
    ·rw[Ar hp] at b;rw[Aw (by omega)];omega
    ·rw[Aw hp] at b;rw[Ar (by omega)];omega
   rcases a with a | a
   ·right;exact⟨a,by rw[m];exact flip⟩
   ·left;refine⟨fun hz => ?_,by rw[a];exact flip⟩;rw[hz] at a;have:CM 0=0:=rfl;omega
theorem R'{f g:G}{a:Int->Int}{q u:Int}:∀ k:Nat,(∀ j:Nat,j<k->Rc f g a q (u+j))->a (u+(k:Int))<=a u
 | 0,_=>by simp
 | k+1,hc=>by
  have b:=R' k (fun j hj=>hc j (by omega));have:=(hc k (by omega)).mono;have e:u+((k+1:Nat):Int)=u+(k:Int)+1:=by omega
  rw[e];omega
theorem A1c(p:G)(hp:Af p ≠ [])(d:2<=F (O p)){x y q:Int}(g:0<q):∃ c:Int,0<c/\∀ z:Int,c*x<=z->z<c*y->Rc (O p) (prim (AE (O p))) (fun z=>wv 0 (EH (D2 p) z (c*q))) (c*q) z:=by
 obtain⟨lf,i,j,hc⟩:=Mn hp d;have k:O p ≠ []:=by intro h;rw[h] at d;simp at d
 obtain⟨b,f,l⟩:=cell (I x+I y) (by omega) lf d i j hc (F (O p)) (by omega);refine⟨b,f,fun z h1 h2 => ?_⟩;have m:b<=b*q:=by
  have:=Ax (show (1:Int)<=q by omega) (show 0<=b by omega);omega
 have hb:∀ z:Int,(I z:Int)<=(I x:Int)+(I y:Int)->(I (b*z):Int)<=((I x:Int)+(I y:Int))*(b*q):=by
  intro z hz;have h2:=Ec (a:=b) (A:=b*q) (by omega) hz;have e:b*q*((I x:Int)+(I y:Int))=((I x:Int)+(I y:Int))*(b*q):=AT ..;omega
 have n:=hb x (by omega);have o:=hb y (by omega);have e:D2 p=O p::Jm (F (O p)) (O p) (prim (AE (O p))):=by unfold D2;rw[Aw k]
 rw[e];exact l (b*q) z ⟨Br f g,by omega,by omega⟩ m
theorem tP(p:G)(hp:Af p ≠ [])(l:2<=F (O p)){x m y q:Int}(d:0<q)(n:x<m)(o:m<y)(h1:wv 0 (EH (D2 p) x q)-wv 0 (EH (D2 p) y q)=1) :
  (Hh (O p) m q=0->wv 0 (EH (D2 p) m q)=wv 0 (EH (D2 p) y q)) /\
  (Hh (O p) m q ≠ 0->Hh (O p) y q=0->wv 0 (EH (D2 p) m q)=wv 0 (EH (D2 p) y q)+1) /\
  (Hh (O p) m q ≠ 0->Hh (O p) y q ≠ 0->(CM (Hh (O p) m q)=CM (Hh (O p) y q)↔wv 0 (EH (D2 p) m q)=wv 0 (EH (D2 p) y q))):=by
 obtain⟨c,hc,f⟩:=A1c p hp l (x:=x) (y:=y) d;have m1:=Mo p d (A9 n);have w:=Mo p d (A9 o);have sc:∀ z,wv 0 (EH (D2 p) (c*z) (c*q))=wv 0 (EH (D2 p) z q):=fun z=>by rw[Km _ _ _ _ hc]
 have hs:∀ z,CM (Hh (O p) (c*z) (c*q))=CM (Hh (O p) z q):=fun z=>Nt _ _ _ _ hc;have A:c*x+c<=c*m:=by
  have:=Ax (show x+1<=m by omega) (show 0<=c by omega);rw[DJ,DQ] at this;exact this
 have B:c*m+c<=c*y:=by
  have:=Ax (show m+1<=y by omega) (show 0<=c by omega);rw[DJ,DQ] at this;exact this
 have back:∀ a b:Int,c*x<=a->a<b->b<=c*y->Hh (O p) b (c*q)=0->wv 0 (EH (D2 p) b (c*q))+1<=wv 0 (EH (D2 p) a (c*q)):=by
  intro a b C D hb hz;have hcell:=f (b-1) (by omega) (by omega);have h2:=hcell.root (by rw[show b-1+1=b by omega];exact hz);simp only[show b-1+1=b by omega] at h2;have r:=R' (u:=a) (b-1-a).toNat (fun j hj=>f (a+(j:Int)) (by omega) (by omega));simp only[show a+((b-1-a).toNat:Int)=b-1 by omega] at r;omega
 refine⟨fun hz => ?_,fun _ hz => ?_,fun i s => ?_⟩
 ·have h:Hh (O p) (c*m) (c*q)=0:=by rw[<- DB,hs,DB];exact hz
  have:=back (c*x) (c*m) (DO _) (by omega) (by omega) h;rw[sc,sc] at this;omega
 ·have h:Hh (O p) (c*y) (c*q)=0:=by rw[<- DB,hs,DB];exact hz
  have:=back (c*m) (c*y) (by omega) (by omega) (DO _) h;rw[sc,sc] at this;omega
 ·have t:Hh (O p) (c*m) (c*q) ≠ 0:=fun g=>i (by rw[<- DB,<- hs,DB];exact g);have v:Hh (O p) (c*y) (c*q) ≠ 0:=fun g=>s (by rw[<- DB,<- hs,DB];exact g);have k:=Ux (g:=prim (AE (O p))) (W:=fun z=>wv 0 (EH (D2 p) z (c*q))) t (c*y-c*m).toNat (fun j hj=>f (c*m+(j:Int)) (by omega) (by omega));rw[show c*m+((c*y-c*m).toNat:Int)=c*y by omega] at k;rcases k with ⟨_,e⟩ | ⟨e,_⟩
  ·simp only[sc,hs] at e;have hb:CM (Hh (O p) m q) ≠ 0:=fun g=>i (DB.1 g);constructor
   ·intro heq;apply A6;intro E;rw[Aw (by omega)] at e;omega
   ·intro heq;rw[Ar (by omega)] at e;omega
  ·exact absurd e v
theorem nY:∀ (M c:Nat) (φ:Nat->Nat),(∀ i,i<c->φ i<M)->M<c->∃ i j,i<j/\j<c/\φ i=φ j
 | 0,c,φ,h,f=>absurd (h 0 f) (Pk _)
 | M+1,c,φ,h,f=>by
  by_cases l:∃ i,i<c/\φ i=M
  ·obtain⟨i,hi,o⟩:=l;by_cases h1:∃ j,j<c/\j ≠ i/\φ j=M
   ·obtain⟨j,hj,d,p⟩:=h1;rcases Nat.lt_or_gt_of_ne d with g | g
    ·exact⟨j,i,g,hi,by omega⟩
    ·exact⟨i,j,g,hj,by omega⟩
   ·have n:∀ j,j<c->j ≠ i->φ j<M:=fun j hj d=>by
     have:=h j hj;have:φ j ≠ M:=fun e=>h1 ⟨j,hj,d,e⟩;omega
    obtain⟨a,b,m,hb,e⟩:=nY M (c-1) (fun k=>φ (if k<i then k else k+1)) (fun k q=>n _ (by split <;> omega) (by split <;> omega)) (by omega);refine⟨if a<i then a else a+1,if b<i then b else b+1,by split <;> split <;> omega,by split <;> omega,e⟩
  ·obtain⟨a,b,m,hb,e⟩:=nY M c φ (fun i hi=>by
    have:=h i hi;have:φ i ≠ M:=fun e=>l ⟨i,hi,e⟩;omega) (by omega)
   exact⟨a,b,m,hb,e⟩
def MU(a v i:Nat):Nat:=v / (a+1)^i % (a+1)
theorem nZ(a v i:Nat):MU a v i<=a:=by
 have:=IV (v / (a+1)^i) (show 0<a+1 by omega);unfold MU;omega
theorem tQ(a:Nat):∀ (k v w:Nat),v<(a+1)^k->w<(a+1)^k->(∀ i,i<k->MU a v i=MU a w i)->v=w
 | 0,v,w,hv,b,_=>by simp at hv b;omega
 | k+1,v,w,hv,b,h=>by
  have c:=h 0 (by omega);simp only[MU,Nat.pow_zero,Nat.div_one] at c;have hd:v / (a+1)=w / (a+1):=by
   apply tQ a k
   ·rw[GV] at hv;exact Abv (by rw[Du];exact hv)
   ·rw[GV] at b;exact Abv (by rw[Du];exact b)
   ·intro i hi;have:=h (i+1) (by omega);simp only[MU] at this |-;rw[tR,tR,Du (a+1),<- GV];exact this
  have d:=yO v (a+1);have e:=yO w (a+1);rw[hd] at d;omega
def F2(f:Nat->Int):Nat->Int
 | 0=>0
 | n+1=>F2 f n+f n
theorem iR(f g:Nat->Int):∀ n,F2 (fun i=>f i-g i) n=F2 f n-F2 g n
 | 0=>rfl
 | n+1=>by simp only[F2];rw[iR f g n];omega
theorem Nv{f g:Nat->Int}:∀ {n},(∀ i,i<n->f i=g i)->F2 f n=F2 g n
 | 0,_=>rfl
 | n+1,h=>by simp only[F2];rw[Nv fun i hi=>h i (by omega),h n (by omega)]
theorem iS{f:Nat->Int}{A:Nat}:∀ n,(∀ i,i<n->I (f i)<=A)->I (F2 f n)<=n*A
 | 0,_=>by simp[F2]
 | n+1,h=>by
  have h1:=iS n fun i hi=>h i (by omega);have h2:=h n (by omega);simp only[F2,Om];omega
def Md(t:Nat->Nat)(a:Nat):Nat->Nat
 | 0=>0
 | m+1=>Md t a m*a+t m
theorem tS{t:Nat->Nat}{a:Nat}:∀ m,(∀ j,j<m->t j<a)->Md t a m<a^m
 | 0,_=>by simp[Md]
 | m+1,h=>by
  have h1:=tS m fun j hj=>h j (by omega);have h2:=h m (by omega);simp only[Md,GV];have:(Md t a m+1)*a<=a^m*a:=Bf _ h1;rw[Om] at this;omega
theorem iT{t u:Nat->Nat}{a:Nat}:∀ m,(∀ j,j<m->t j<a)->(∀ j,j<m->u j<a)->Md t a m=Md u a m->∀ j,j<m->t j=u j
 | 0,_,_,_,j,hj=>absurd hj (Pk _)
 | m+1,b,c,h,j,hj=>by
  have h1:=b m (by omega);have h2:=c m (by omega);simp only[Md] at h;have d:(Md t a m*a+t m) % a=(Md u a m*a+u m) % a:=by rw[h]
  rw[Du,ABl,Hc h1,Du,ABl,Hc h2] at d;have e:Md t a m=Md u a m:=Nat.eq_of_mul_eq_mul_right (show 0<a by omega) (by omega);by_cases f:j=m
  ·rw[f];exact d
  ·exact iT m (fun j hj=>b j (by omega)) (fun j hj=>c j (by omega)) e j (by omega)
theorem ACq(k c:Nat)(a:Nat->Nat->Int)(n:∀ j i,I (a j i)<=c)(o:0<c)(p:1<=k) :
  ∃ d:Nat->Int,(∀ i,I (d i)<=(2*(k*c))^(k-1))/\(∃ i,i<k/\d i ≠ 0)/\∀ j,j<k-1->F2 (fun i=>a j i*d i) k=0:=by
 have y:0<k*c:=HW p o;generalize q:(2*(k*c))^(k-1)=b;have h:∀ v j,I (F2 (fun i=>a j i*(MU b v i:Int)) k)<=k*c*b:=by
  intro v j;have:=iS (f:=fun i=>a j i*(MU b v i:Int)) (A:=c*b) k (fun i _=>by
   rw[C1,C9];exact Ck (n j i) (nZ b v i))
  rwa [<- Gj] at this
 have l:∀ v j,(F2 (fun i=>a j i*(MU b v i:Int)) k+(k*c*b:Nat)).toNat<2*(k*c*b)+1:=by
  intro v j;have:=h v j;omega
 have r:(2*(k*c*b)+1)^(k-1)<(b+1)^k:=by
  have h1:(2*(k*c*b)+1)^(k-1)<=(2*(k*c)*(b+1))^(k-1):=by
   apply Nat.pow_le_pow_left;have:2*(k*c)*(b+1)=2*(k*c*b)+2*(k*c):=by rw[AJr,H9,Gj 2]
   omega
  rw[Nat.mul_pow,q] at h1;have h2:(b+1)^k=(b+1)^(k-1)*(b+1):=by rw[<- GV];congr 1;omega
  have s:0<(b+1)^(k-1):=E5 (by omega);have m:(b+1)^(k-1)*b=b*(b+1)^(k-1):=Du ..;rw[h2,AJr,H9];omega
 obtain⟨v,w,z,t,e⟩:=nY _ _ (fun v=>Md (fun j=>(F2 (fun i=>a j i*(MU b v i:Int)) k+(k*c*b:Nat)).toNat) (2*(k*c*b)+1) (k-1)) (fun v _=>tS _ (fun j _=>l v j)) r;have u:=iT (k-1) (fun j _=>l v j) (fun j _=>l w j) e;refine⟨fun i=>(MU b w i:Int)-(MU b v i:Int),fun i => ?_,?_,fun j hj => ?_⟩
 ·have h1:=nZ b v i;have h2:=nZ b w i;show I ((MU b w i:Int)-(MU b v i:Int))<=b;omega
 ·apply A6;intro hn;have:=tQ b k v w (by omega) t (fun i hi=>by
   apply A6;intro g;exact hn ⟨i,hi,by show (MU b w i:Int)-(MU b v i:Int) ≠ 0;omega⟩)
  omega
 ·have h1:(F2 (fun i=>a j i*(MU b v i:Int)) k+(k*c*b:Nat)).toNat=(F2 (fun i=>a j i*(MU b w i:Int)) k+(k*c*b:Nat)).toNat:=u j hj;have h2:=h v j;have s:=h w j;have m:=iR (fun i=>a j i*(MU b w i:Int)) (fun i=>a j i*(MU b v i:Int)) k;have x:F2 (fun i=>a j i*((MU b w i:Int)-(MU b v i:Int))) k=F2 (fun i=>a j i*(MU b w i:Int)-a j i*(MU b v i:Int)) k:=Nv fun i _=>Gs ..;rw[x,m];omega
def comb(d:Nat->Int)(b:Nat->G):Nat->G
 | 0=>[]
 | n+1=>EQ (comb d b n) (AM (d n) (b n))
theorem aL(d:Nat->Int)(b:Nat->G)(j:Nat):∀ n,H (comb d b n) j 0=F2 (fun i=>H (b i) j 0*d i) n
 | 0=>by simp[comb,F2]
 | n+1=>by
  simp only[comb,F2];rw[EC,Bt,aL d b j n,AT (d n)]
theorem Yb(d:Nat->Int)(b:Nat->G)(x:Int):∀ n,Ah (comb d b n) x=F2 (fun i=>d i*Ah (b i) x) n
 | 0=>by simp[comb,F2,Ah]
 | n+1=>by
  simp only[comb,F2];rw[CD,AN,Yb d b x n]
theorem aM{f:Nat->Int}:∀ {n},(∀ i,i<n->f i=0)->F2 f n=0
 | 0,_=>rfl
 | n+1,h=>by simp only[F2];rw[aM fun i hi=>h i (by omega),h n (by omega)];rfl
theorem Yc(b:Nat->G)(k a:Nat)(hb:∀ i j,I (H (b i) j 0)<=a)(f:0<a)(g:1<=k)(h:∀ i,i<k->F (b i)<=k) :
  ∃ (d:Nat->Int) (c:Int),(∀ i,I (d i)<=(2*(k*a))^(k-1))/\(∃ i,i<k/\d i ≠ 0)/\∀ x,F2 (fun i=>d i*Ah (b i) x) k=c:=by
 obtain⟨d,h1,h2,l⟩:=ACq k a (fun j i=>H (b i) (j+1) 0) (fun j i=>hb i (j+1)) f g;refine⟨d,H (comb d b k) 0 0,h1,h2,fun x => ?_⟩;rw[<- Yb];have hz:∀ j,H (comb d b k) j 0=H [H (comb d b k) 0 0] j 0:=by
  intro j;cases j with
  | zero=>rfl
  | succ j =>
   show _=0;rw[aL];by_cases hj:j<k-1
   ·exact l j hj
   ·exact aM fun i hi=>by rw[Cp (by have:=h i hi;omega),Cs]
 have e:Af (comb d b k)=Af [H (comb d b k) 0 0]:=HI hz;rw[<- EU (comb d b k),e,EU];simp[Ah]
def W6(f:G):G:=EQ (AM ((F f-1:Nat)) f) (AM (-1) (Ek 1 (AE f)))
theorem Abw(f:G)(x:Int):Ah (W6 f) x=((F f-1:Nat):Int)*Ah f x-x*Ah (AE f) x:=by
 unfold W6;rw[CD,AN,AN,Er,AD,DC,D0];omega
theorem iU(f:G)(i:Nat):H (W6 f) i 0=(((F f-1:Nat):Int)-(i:Int))*H f i 0:=by
 unfold W6;rw[EC,Bt,Bt,Db];cases i with
 | zero=>simp
 | succ i =>
  rw[Ar (by omega),Ej,HQ];rw[yR];have:H f (i+1) 0*((i+1:Nat):Int)=((i+1:Nat):Int)*H f (i+1) 0:=AT ..;omega
theorem tT(f:G):F (W6 f)<=F f-1:=by
 have h:∀ i,F f-1<=i->H (W6 f) i 0=0:=by
  intro i hi;rw[iU];by_cases e:i=F f-1
  ·rw[e,TA,Cs]
  ·rw[Cp (show F f<=i by omega),Be]
 apply A6;intro hn;have a:Cw (W6 f):=by
  show Af _=_;unfold W6 EQ;rw[GG]
 exact EN a (fun e=>by rw[e] at hn;simp at hn) (h _ (by omega))
def bas(f:G)(m i:Nat):G:=if i<m then Ek i (W6 f) else Ek (i-m) (AE f)
theorem WV(f:Nat->Int)(m:Nat):∀ k,F2 f (m+k)=F2 f m+F2 (fun i=>f (m+i)) k
 | 0=>by simp[F2]
 | k+1=>by
  rw[<- E1];simp only[F2];rw[WV f m k];omega
theorem Mp(d:Nat->Int)(x:Int):∀ m,F2 (fun i=>d i*x^i) m=Ah ((Ay m).map d) x
 | 0=>rfl
 | m+1=>by
  simp only[F2];rw[Mp d x m,Jw,D_];have:∀ (l:G) (a:Int),Ah (l++[a]) x=Ah l x+a*x^F l:=by
   intro l a;induction l with
   | nil=>simp[Ah]
   | cons b l c =>
    simp only[Ks,Ah,BM];rw[c,AD];grind
  rw[CW,HC,this,Ac,CF]
theorem P4(f:Nat->Int)(c:Int):∀ m,F2 (fun i=>f i*c) m=F2 f m*c
 | 0=>by simp[F2]
 | m+1=>by simp only[F2];rw[P4 f c m,H2]
theorem A1d{f:G}{n:Nat}(hn:F f=n+1)(h2:2<=n)(hp:F (AE f)=n){i:Nat}(hi:i<(n-1)+(n-1)):F (bas f (n-1) i)<=(n-1)+(n-1):=by
 have:=tT f;unfold bas;split
 ·rw[I_];omega
 ·rw[I_];omega
theorem Abx{f:G}{n A:Nat}(hn:F f=n+1)(a:∀ i,I (H f i 0)<=A)(i j:Nat):I (H (bas f (n-1) i) j 0)<=n*A:=by
 have b:∀ j,I (H (W6 f) j 0)<=n*A:=by
  intro j;rw[iU,hn,C1];by_cases hj:j<=n
  ·exact Ck (by omega) (a j)
  ·rw[Cp (by omega)];simp
 have hd:∀ j,I (H (AE f) j 0)<=n*A:=by
  intro j;rw[Ej,C1,Du];by_cases hj:j<n
  ·exact Ck (by omega) (a (j+1))
  ·rw[Cp (by omega)];simp
 unfold bas;split
 ·rw[Db];split
  ·exact b _
  ·simp
 ·rw[Db];split
  ·exact hd _
  ·simp
theorem tU{f:G}{n A:Nat}(hn:F f=n+1)(h2:2<=n)(hp:F (AE f)=n)(b:∀ i,I (H f i 0)<=A)(c:0<A) :
  ∃ (d:Nat->Int) (a:Int),(∀ i,I (d i)<=(2*(((n-1)+(n-1))*(n*A)))^((n-1)+(n-1)-1))/\(∃ i,i<(n-1)+(n-1)/\d i ≠ 0) /\
   ∀ x,Ah ((Ay (n-1)).map d) x*Ah (W6 f) x+Ah ((Ay (n-1)).map fun i=>d (n-1+i)) x*Ah (AE f) x=a:=by
 obtain⟨d,a,h1,e,g⟩:=Yc (bas f (n-1)) ((n-1)+(n-1)) (n*A) (Abx hn b) (HW (by omega) c) (by omega) (fun i hi=>A1d hn h2 hp hi);refine⟨d,a,h1,e,fun x => ?_⟩;rw[<- g x,WV,<- Mp,<- Mp,<- P4,<- P4];congr 1
 ·apply Nv;intro i hi;unfold bas;rw[Ar hi,Er,Bm]
 ·apply Nv;intro i hi;unfold bas;rw[Aw (by omega),Er,show n-1+i-(n-1)=i by omega,Bm]
def pq:G->Rat->Rat
 | [],_=>0
 | a::p,x=>(a:Rat)+x*pq p x
def pd:G->Rat->Rat
 | [],_=>0
 | _::p,x=>pq p x+x*pd p x
def dD:G->Rat->Rat->Rat
 | [],_,_=>0
 | _::p,a,b=>pq p a+b*dD p a b
def dE:G->Rat->Rat->Rat
 | [],_,_=>0
 | _::p,a,b=>dD p a b+b*dE p a b+pd p a
def dT:G->Rat->Rat->Rat
 | [],_,_=>0
 | _::p,a,b=>b*dT p a b+pd p a
def dS:G->Rat->Rat->Rat
 | [],_,_=>0
 | _::p,a,b=>a*dS p a b-dT p a b+dE p a b
theorem NJ(a b:Rat):∀ f,pq f b=pq f a+(b-a)*dD f a b
 | []=>by simp[pq,dD];grind
 | c::p=>by
  have:=NJ a b p;simp only[pq,dD];grind
theorem tV(a b:Rat):∀ f,pd f b=pd f a+(b-a)*dE f a b
 | []=>by simp[pd,dE];grind
 | c::p=>by
  have h1:=tV a b p;have h2:=NJ a b p;simp only[pd,dE];grind
theorem oA(a b:Rat):∀ f,pq f b=pq f a+(b-a)*pd f a+(b-a)*(b-a)*dT f a b
 | []=>by simp[pq,pd,dT];grind
 | c::p=>by
  have:=oA a b p;simp only[pq,pd,dT];grind
theorem tW(a b:Rat):∀ f,dT f b a=dT f a b+(b-a)*dS f a b
 | []=>by simp[dT,dS];grind
 | c::p=>by
  have h1:=tW a b p;have h2:=tV a b p;simp only[dT,dS];grind
def Bd(x c:Rat):Prop := -c<=x/\x<=c
section
variable{x y c d:Rat}
theorem Bd.add(h:Bd x c)(g:Bd y d):Bd (x+y) (c+d):=by
 unfold Bd at *
 constructor <;> grind
theorem Bd.sub(h:Bd x c)(g:Bd y d):Bd (x-y) (c+d):=by
 unfold Bd at *
 constructor <;> grind
theorem Bd.mul(h:Bd x c)(g:Bd y d):Bd (x*y) (c*d):=by
 unfold Bd at *
 have h1:=G6 (show 0<=c-x by grind) (show 0<=d+y by grind);have h2:=G6 (show 0<=c+x by grind) (show 0<=d-y by grind);have a:=G6 (show 0<=c-x by grind) (show 0<=d-y by grind);have b:=G6 (show 0<=c+x by grind) (show 0<=d+y by grind);constructor <;> grind
end
theorem Bd.pos{x c:Rat}(h:Bd x c):0<=c:=by unfold Bd at h;grind
theorem Bd.zero:Bd 0 0:=by unfold Bd;constructor <;> grind
theorem Bd.mono{x c d:Rat}(h:Bd x c)(g:c<=d):Bd x d:=by unfold Bd at *;constructor <;> grind
theorem ACr{n:Int}{A:Nat}(h:I n<=A):Bd (n:Rat) (A:Rat):=by
 have h1:((-(A:Int):Int):Rat)<=(n:Rat):=C6.2 (by omega);have h2:(n:Rat)<=((A:Int):Rat):=C6.2 (by omega);unfold Bd;constructor
 ·rwa [Axy,EG] at h1
 ·rwa [EG] at h2
def zV(X:Nat):Nat->Nat
 | 0=>0
 | n+1=>1+X*zV X n
def zD(X:Nat):Nat->Nat
 | 0=>0
 | n+1=>zV X n+X*zD X n
def zE(X:Nat):Nat->Nat
 | 0=>0
 | n+1=>zD X n+X*zE X n+zD X n
def zT(X:Nat):Nat->Nat
 | 0=>0
 | n+1=>X*zT X n+zD X n
def zS(X:Nat):Nat->Nat
 | 0=>0
 | n+1=>X*zS X n+zT X n+zE X n
section
variable {A X:Nat} {a b:Rat} (ha:Bd a X) (hb:Bd b X)
include ha
theorem Qn:∀ f:G,(∀ c∈f,I c<=A)->Bd (pq f a) (A*zV X (F f))
 | [],_=>by simpa [pq,zV] using Bd.zero
 | c::p,h=>by
  have b:=Qn p fun c hc=>h c (Bg _ hc);have h1:=ACr (h c (Ba ..));have:=h1.add (ha.mul b);simp only[pq,zV,BM];refine this.mono ?_;simp;grind
theorem Aby:∀ f:G,(∀ c∈f,I c<=A)->Bd (pd f a) (A*zD X (F f))
 | [],_=>by simpa [pd,zD] using Bd.zero
 | c::p,h=>by
  have hp:∀ c∈p,I c<=A:=fun c hc=>h c (Bg _ hc);have:=(Qn ha p hp).add (ha.mul (Aby p hp));simp only[pd,zD,BM];refine this.mono ?_;simp;grind
include hb
theorem Uy:∀ f:G,(∀ c∈f,I c<=A)->Bd (dD f a b) (A*zD X (F f))
 | [],_=>by simpa [dD,zD] using Bd.zero
 | c::p,h=>by
  have hp:∀ c∈p,I c<=A:=fun c hc=>h c (Bg _ hc);have:=(Qn ha p hp).add (hb.mul (Uy p hp));simp only[dD,zD,BM];refine this.mono ?_;simp;grind
theorem A1e:∀ f:G,(∀ c∈f,I c<=A)->Bd (dE f a b) (A*zE X (F f))
 | [],_=>by simpa [dE,zE] using Bd.zero
 | c::p,h=>by
  have hp:∀ c∈p,I c<=A:=fun c hc=>h c (Bg _ hc);have:=((Uy ha hb p hp).add (hb.mul (A1e p hp))).add (Aby ha p hp);simp only[dE,zE,BM];refine this.mono ?_;simp;grind
theorem Abz:∀ f:G,(∀ c∈f,I c<=A)->Bd (dT f a b) (A*zT X (F f))
 | [],_=>by simpa [dT,zT] using Bd.zero
 | c::p,h=>by
  have hp:∀ c∈p,I c<=A:=fun c hc=>h c (Bg _ hc);have:=(hb.mul (Abz p hp)).add (Aby ha p hp);simp only[dT,zT,BM];refine this.mono ?_;simp;grind
theorem A1f:∀ f:G,(∀ c∈f,I c<=A)->Bd (dS f a b) (A*zS X (F f))
 | [],_=>by simpa [dS,zS] using Bd.zero
 | c::p,h=>by
  have hp:∀ c∈p,I c<=A:=fun c hc=>h c (Bg _ hc);have:=((ha.mul (A1f p hp)).sub (Abz ha hb p hp)).add (A1e ha hb p hp);simp only[dS,zS,BM];refine this.mono ?_;simp;grind
end
theorem far{f j k:G}{i:Int}{A h X:Nat}{a b e u:Rat}(t:i ≠ 0)(o:∀ x,pq j x*pq f x+pq k x*pd f x=(i:Rat))
  (p:∀ c∈f,I c<=A) (n:∀ c∈k,I c<=h) (ha:Bd a X) (hb:Bd b X) (V:a<b)
  (q:Bd (pq f a) e) (r:Bd (pq f b) e) (v:Bd (pq j a) u) (w:Bd (pq j b) u)
  (y:(b-a)*(u*e+u*e)+(h*zV X (F k)+h*zV X (F k))*(e+e)<=b-a) :
  1<=(b-a)*(b-a)*((h*zD X (F k))*(A*zT X (F f))+(h*zV X (F k))*(A*zS X (F f))):=by
 have W:=o a;have Y:=o b;have Z:=oA a b f;have z:=oA b a f;have B:=tW a b f;have C:=NJ a b k;have hd:0<b-a:=by grind
 generalize hD:b-a=d at *
 have D:a-b = -d:=by grind
 rw[D] at z;have a1:2*(i:Rat)*d=d*(pq j a*pq f a+pq j b*pq f b)+(pq k a+pq k b)*(pq f b-pq f a)+d*(d*d*(dD k a b*dT f b a+pq k a*dS f a b)):=by
  have E:d*pd f a=pq f b-pq f a-d*d*dT f a b:=by grind
  have H:d*pd f b=pq f b-pq f a+d*d*dT f b a:=by grind
  have J:2*(i:Rat)*d=d*(pq j a*pq f a+pq j b*pq f b)+pq k a*(d*pd f a)+pq k b*(d*pd f b):=by grind
  rw[J,E,H];have K:pq k b=pq k a+d*dD k a b:=C;have e3:pq k b*dT f b a-pq k a*dT f a b=d*(dD k a b*dT f b a+pq k a*dS f a b):=by rw[K,B];grind
  grind
 have L:=Uy ha hb k n;have N:=Abz hb ha f p;have s:=Qn ha k n;have O:=A1f ha hb f p;have P:=Qn hb k n;have Q:=(L.mul N).add (s.mul O);have l:Bd d d:=by unfold Bd;constructor <;> grind
 have R:=(l.mul ((v.mul q).add (w.mul r))).add ((s.add P).mul (r.sub q));generalize hM:(h:Rat)*zD X (F k)*(A*zT X (F f))+h*zV X (F k)*(A*zS X (F f))=M at *
 generalize dD k a b*dT f b a+pq k a*dS f a b=m at *
 generalize d*(pq j a*pq f a+pq j b*pq f b)+(pq k a+pq k b)*(pq f b-pq f a)=err at *
 have S:=R.mono y;have T:Bd (d*(d*d*m)) (d*(d*d*M)):=l.mul ((l.mul l).mul Q);apply A6;intro hn;have a2:d*(d*d*M)<d:=by
  have h1:d*d*M<1:=by grind
  have h2:=Rat.mul_lt_mul_of_pos_left h1 hd;grind
 unfold Bd at S T;rcases G8 i 0 with g | g | g
 ·have h1:(i:Rat)<=((-1:Int):Rat):=C6.2 (by omega);have h2:(i:Rat) <= -1:=by simpa using h1
  have U:=YO h2 (Jh hd);grind
 ·exact t g
 ·have h1:((1:Int):Rat)<=(i:Rat):=C6.2 (by omega);have h2:1<=(i:Rat):=by simpa using h1
  have U:=YO h2 (Jh hd);grind
theorem aN(p:G)(x:Rat):pq p x=(H p 0 0:Int)+x*pq p.tail x:=by
 cases p with
 | nil=>simp[pq];grind
 | cons a p=>simp[pq]
theorem Uz(p:G)(i:Nat):H p.tail i 0=H p (i+1) 0:=by
 cases p <;> simp
theorem Akd(c d:Int)(x:Rat):∀ (n:Nat) (p q r:G),F p<=n->F q<=n->F r<=n->(∀ i,H r i 0=c*H p i 0+d*H q i 0)->pq r x=(c:Rat)*pq p x+(d:Rat)*pq q x
 | 0,p,q,r,hp,a,hr,_=>by
  have b:=AU (show F p=0 by omega);have e:=AU (show F q=0 by omega);have f:=AU (show F r=0 by omega);subst b e f;simp[pq];grind
 | n+1,p,q,r,hp,a,hr,h=>by
  have g:=Akd c d x n p.tail q.tail r.tail (by rw[WW];omega) (by rw[WW];omega) (by rw[WW];omega) (fun i=>by rw[Uz,Uz,Uz];exact h (i+1));rw[aN p,aN q,aN r,g,h 0,MV,DL,DL];grind
theorem VA(c d:Int)(x:Rat){p q r:G}(h:∀ i,H r i 0=c*H p i 0+d*H q i 0):pq r x=(c:Rat)*pq p x+(d:Rat)*pq q x :=
 Akd c d x (F p+F q+F r) p q r (by omega) (by omega) (by omega) h
theorem ACs{p q:G}(h:∀ i,H p i 0=H q i 0)(x:Rat):pq p x=pq q x:=by
 have:=VA 1 0 x (p:=q) (q:=q) (r:=p) (fun i=>by rw[h i];omega);rw[this];simp;grind
theorem A1g(p q:G)(x:Rat):pq (EQ p q) x=pq p x+pq q x:=by
 have:=VA 1 1 x (p:=p) (q:=q) (r:=EQ p q) (fun i=>by rw[EC];omega);rw[this];simp
theorem aO(q:G)(x:Rat):∀ p,pq (Cg p q) x=pq p x*pq q x
 | []=>by simp[Cg,pq]
 | a::p=>by
  have b:=aO q x p;have:=VA a 1 x (p:=q) (q:=0::Cg p q) (r:=Cg (a::p) q) (fun i=>by simp only[Cg];rw[EC,Bt];omega);rw[this];simp only[pq,b];simp;grind
theorem A1h{p q:G}(h:∀ x,Ah p x=Ah q x)(x:Rat):pq p x=pq q x:=ACs (Eb h) x
theorem tX(x:Rat):∀ p,pq (AE p) x=pd p x
 | []=>rfl
 | a::p=>by
  have b:=tX x p;have:=VA 1 1 x (p:=p) (q:=0::AE p) (r:=AE (a::p)) (fun i=>by
   rw[Ej];cases i with
   | zero=>simp
   | succ i =>
    show H p (i+1) 0*_=1*H p (i+1) 0+1*H (AE p) i 0;rw[Ej];have:H p (i+1) 0*((i+1+1:Nat):Int)=H p (i+1) 0*((i+1:Nat):Int)+H p (i+1) 0:=by rw[show ((i+1+1:Nat):Int)=((i+1:Nat):Int)+1 by omega,DJ,DQ]
    omega)
  rw[this];simp only[pq,pd,b];simp;grind
theorem VB{b f c g:G}{a:Int}(h:∀ x,Ah b x*Ah f x+Ah c x*Ah g x=a)(x:Rat):pq b x*pq f x+pq c x*pq g x=(a:Rat):=by
 have e:=A1h (p:=EQ (Cg b f) (Cg c g)) (q:=[a]) (fun x=>by rw[CD,B8,B8,h x];simp[Ah]) x;rw[A1g,aO,aO] at e;rw[e];simp[pq];grind
theorem Tc{l:G}{c:Int}(h:c∈l):∃ i,c=H l i 0:=by
 obtain⟨i,hi,rfl⟩:=AHq.1 h;exact⟨i,by rw[Ad,Am hi];rfl⟩
theorem JW(d:Nat->Int)(n i:Nat):H ((Ay n).map d) i 0=if i<n then d i else 0:=HV d n i
def siz(n A:Nat):Nat:=(2*(((n-1)+(n-1))*(n*A)))^((n-1)+(n-1)-1)
theorem ACt{f:G}{n A:Nat}(hn:F f=n+1)(h2:2<=n)(hp:F (AE f)=n)(L:Gz [1] f (AE f))(M:∀ i,I (H f i 0)<=A)(N:0<A) :
  ∃ (h j:G) (g:Int),g ≠ 0/\(∀ x,pq h x*pq f x+pq j x*pd f x=(g:Rat))/\F j<=n/\∀ c∈j,I c<=2*siz n A:=by
 obtain⟨d,g,hd,⟨k,Z,o⟩,l⟩:=tU hn h2 hp M N;generalize r:(Ay (n-1)).map d=Ud at *
 generalize s:((Ay (n-1)).map fun i=>d (n-1+i))=Vd at *
 have B:∀ i,Ud.getD i 0=if i<n-1 then d i else 0:=fun i=>by rw[<- r];exact JW d (n-1) i
 have C:∀ i,Vd.getD i 0=if i<n-1 then d (n-1+i) else 0:=fun i=>by rw[<- s];exact JW (fun i=>d (n-1+i)) (n-1) i
 have lU:Ud.length=n-1:=by rw[<- r];simp
 have lV:Vd.length=n-1:=by rw[<- s];simp
 have D:∀ i,I (d i)<=siz n A:=hd;have m:∀ x,Ah (AM (n:Nat) Ud) x*Ah f x+Ah (EQ Vd (AM (-1) (Ek 1 Ud))) x*Ah (AE f) x=g:=by
  intro x;rw[AN,CD,AN,Er,<- l x,Abw,hn,HQ,AD,DC];grind
 refine⟨AM (n:Nat) Ud,EQ Vd (AM (-1) (Ek 1 Ud)),g,?_,fun x => ?_,?_,?_⟩
 ·intro O;rw[O] at l m;obtain⟨_,_,c,u,v,hc,P⟩:=L;have E:Af (AE f)=AE f:=by unfold AE;rw[GG]
  have Q:Dv (AE f) Ud:=by
   refine⟨c*(n:Nat),EQ (Cg v (AM (n:Nat) Ud)) (AM (-1) (Cg u (EQ Vd (AM (-1) (Ek 1 Ud))))),Bv hc (by omega),fun x => ?_⟩;have h1:=P x;have J:=m x;rw[AN] at J;rw[CD,B8,AN,AN,B8];have R:Ah [1] x=1:=by simp[Ah]
   rw[R,DQ] at h1;rw[h1];generalize Ah u x=a at *
   generalize Ah v x=b at *
   generalize Ah (EQ Vd (AM (-1) (Ek 1 Ud))) x=w at *
   generalize Ah Ud x=y at *
   generalize Ah f x=z at *
   generalize Ah (AE f) x=t at *
   have S:(n:Nat)*y*z = -(w*t):=by omega
   have T:(a*z+b*t)*(n:Nat)*y=a*((n:Nat)*y*z)+b*t*((n:Nat)*y):=by grind
   rw[T,S];grind
  have K:Af Ud=[]:=by
   apply A6;intro hz;have:=(Q.length hz).1;rw[E,hp] at this;have:=Ct Ud;omega
  have U:=DY.1 K;have V:∀ x,Ah Ud x=0:=fun x=>by rw[<- EU,K];rfl
  have W:=Qh (p:=AE f) (q:=Vd) (by rw[E];intro e;rw[e] at hp;simp at hp;omega) (fun x=>by
   have:=l x;rw[V x] at this;rw[AT];omega)
  have X:∀ i,Vd.getD i 0=0:=fun i=>by
   have:=Eb (p:=Vd) (q:=[]) (fun x=>by rw[W x];rfl) i;rw[this];rfl
  by_cases Y:k<n-1
  ·have:=B k;rw[U k,Ar Y] at this;exact o this.symm
  ·have:=C (k-(n-1));rw[X,Ar (by omega),show n-1+(k-(n-1))=k by omega] at this;exact o this.symm
 ·rw[<- tX];exact VB m x
 ·have h1:=iJ Vd (AM (-1) (Ek 1 Ud));have J:F (AM (-1) (Ek 1 Ud))=1+Ud.length:=by rw[<- I_];simp[AM]
  omega
 ·intro c hc;obtain⟨i,rfl⟩:=Tc hc;rw[EC,Bt,Db,C];have b1:I (if i<n-1 then d (n-1+i) else 0)<=siz n A:=by
   split
   ·exact D _
   ·simp
  have b2:I (if 1<=i then Ud.getD (i-1) 0 else 0)<=siz n A:=by
   split
   ·rw[B];split
    ·exact D _
    ·simp
   ·simp
  omega
theorem Aca(x d:Int)(hd:0<d):∀ p:G,pq p ((x:Rat) / (d:Rat))*(d:Rat)^F p=((hv p x d:Int):Rat)*(d:Rat)
 | []=>by simp[pq,hv]
 | t::ts=>by
  have a:=Aca x d hd ts;have b:(d:Rat) ≠ 0:=by
   intro h;have:=Rat.intCast_inj.1 (show (d:Rat)=((0:Int):Rat) by simpa using h);omega
  simp only[pq,hv,BM];rw[MV,DL,DL,Rat.intCast_pow,AIo];have e:(x:Rat) / (d:Rat)*(d:Rat)=(x:Rat):=by grind
  generalize pq ts ((x:Rat) / (d:Rat))=y at *
  generalize (d:Rat)^F ts=z at *
  generalize ((hv ts x d:Int):Rat)=w at *
  generalize (x:Rat) / (d:Rat)=r at *
  grind
theorem AIp(p:G)(x q:Int):hv p x q=Hh p x q:=by unfold Hh;rw [nV]
theorem VC{d:Rat}(h:0<d):∀ n:Nat,0<d^n
 | 0=>by simp;decide
 | n+1=>by rw[AIo];exact JH (VC h n) h
theorem NK{d:Int}(h:0<d):0<(d:Rat):=by
 have:=Rat.intCast_lt_intCast.2 h;simpa using this
theorem WX{u v h:Rat}(c:u*v<=0)(hd:Bd (v-u) h):Bd u h:=by
 have d:=hd.pos;unfold Bd at *
 apply A6;intro hn;have:h<u\/u < -h:=by grind
 rcases this with g | g
 ·have a:0<u:=by grind
  have b:0<v:=by grind
  have:=JH a b;grind
 ·have a:0 < -u:=by grind
  have b:0 < -v:=by grind
  have:=JH a b;grind
theorem Qo{f:G}{z d:Int}(hd:0<d)(h:Hh f z d*Hh f (z+1) d<=0):pq f ((z:Rat) / (d:Rat))*pq f (((z+1:Int):Rat) / (d:Rat))<=0:=by
 have g:=Aca z d hd f;have i:=Aca (z+1) d hd f;rw[AIp] at g i;have e:=NK hd;have hp:=VC e (F f);have k:((Hh f z d:Int):Rat)*((Hh f (z+1) d:Int):Rat)<=0:=by
  have:=C6.2 h;rw[DL] at this;simpa using this
 generalize pq f ((z:Rat) / (d:Rat))=u at *
 generalize pq f (((z+1:Int):Rat) / (d:Rat))=v at *
 generalize (d:Rat)^F f=P at *
 generalize ((Hh f z d:Int):Rat)=a at *
 generalize ((Hh f (z+1) d:Int):Rat)=b at *
 generalize (d:Rat)=c at *
 apply A6;intro hn;have j:0<u*v:=by grind
 have h1:=JH j (JH hp hp);have l:u*v*(P*P)=a*b*(c*c):=by
  have:u*v*(P*P)=(u*P)*(v*P):=by grind
  rw[this,g,i];grind
 have h2:=G6 (show 0 <= -(a*b) by grind) (Jh (JH e e));grind
theorem AIq(p:G)(hp:Af p ≠ [])(b:2<=F (O p)){x y q:Int}(f:0<q):∃ c0:Int,0<c0/\∀ c:Int,c0<=c->∀ z:Int,c*x<=z->z<c*y->Rc (O p) (prim (AE (O p))) (fun z=>wv 0 (EH (D2 p) z (c*q))) (c*q) z:=by
 obtain⟨lf,g,i,hc⟩:=Mn hp b;have j:O p ≠ []:=by intro h;rw[h] at b;simp at b
 obtain⟨d,k,l⟩:=cell (I x+I y) (by omega) lf b g i hc (F (O p)) (by omega);refine⟨d,k,fun c o z h1 h2 => ?_⟩;have m:0<c:=by omega
 have n:d<=c*q:=by
  have:=Ax (show (1:Int)<=q by omega) (show 0<=c by omega);omega
 have hb:∀ z:Int,(I z:Int)<=(I x:Int)+(I y:Int)->(I (c*z):Int)<=((I x:Int)+(I y:Int))*(c*q):=by
  intro z hz;have r:c<=c*q:=by
   have:=Ax (show (1:Int)<=q by omega) (show 0<=c by omega);omega
  have h2:=Ec (a:=c) (A:=c*q) (by omega) hz;have e:c*q*((I x:Int)+(I y:Int))=((I x:Int)+(I y:Int))*(c*q):=AT ..;omega
 have s:=hb x (by omega);have t:=hb y (by omega);have e:D2 p=O p::Jm (F (O p)) (O p) (prim (AE (O p))):=by unfold D2;rw[Aw j]
 rw[e];exact l (c*q) z ⟨Br m f,by omega,by omega⟩ n
theorem U0{f g:G}{W:Int->Int}{q u:Int}(n:Nat)(hc:∀ j:Nat,j<n->Rc f g W q (u+j))(h:W (u+n)<W u):∃ j:Nat,j<n/\W (u+(j:Int)+1)<W (u+(j:Int))/\W (u+(j:Int))=W u:=by
 rcases HU (fun j=>decide (W (u+(j:Int)+1)<W (u+(j:Int)))) n n 0 (by omega) with c | ⟨j,_,h2,d,i⟩
 ·exfalso;have a:∀ m:Nat,m<=n->W (u+(m:Int))=W u:=by
   intro m;induction m with
   | zero=>intro _;simp
   | succ m b =>
    intro k;have l:=b (by omega);have o:=of_decide_eq_false (c m (by omega) (by omega));have p:=(hc m (by omega)).mono;have e:u+((m+1:Nat):Int)=u+(m:Int)+1:=by omega
    rw[e];omega
  have:=a n (A2 _);omega
 ·refine⟨j,h2,of_decide_eq_true d,?_⟩;have a:∀ m:Nat,m<=j->W (u+(m:Int))=W u:=by
   intro m;induction m with
   | zero=>intro _;simp
   | succ m b =>
    intro k;have l:=b (by omega);have o:=of_decide_eq_false (i m (by omega) (by omega));have p:=(hc m (by omega)).mono;have e:u+((m+1:Nat):Int)=u+(m:Int)+1:=by omega
    rw[e];omega
  exact a j (A2 _)
theorem Rc.drop{f g:G}{W:Int->Int}{q x:Int}(h:Rc f g W q x)(hd:W (x+1)<W x) :
  W x=W (x+1)+1/\(CM (Hh g x q)=1\/CM (Hh g x q) = -1)/\CM (Hh g (x+1) q)=CM (Hh g x q)/\CM (Hh f x q) = -CM (Hh g x q)/\(Hh f (x+1) q=0\/CM (Hh f (x+1) q)=CM (Hh g x q)):=by
 rcases h with ⟨_,_,h⟩ | ⟨h1,h2,⟨_,_,h⟩ | ⟨a,b,c⟩⟩
 ·omega
 ·omega
 ·exact⟨c,h1,h2,a,b⟩
theorem Rc.change{f g:G}{c:Int->Int}{q x:Int}(h:Rc f g c q x)(hd:c (x+1)<c x):Hh f x q*Hh f (x+1) q<=0:=by
 obtain⟨_,h1,_,i,d⟩:=h.drop hd;rcases d with d | d
 ·rw[d];simp
 ·rcases h1 with e | e
  ·rw[e] at i d;have a:=Gu.1 i;have b:=GK.1 d;have:=IN a b;omega
  ·rw[e] at i d;have a:=GK.1 (show CM (Hh f x q)=1 by omega);have b:=Gu.1 d;have:=It a b;omega
theorem Acb(p:G)(hp:Af p ≠ [])(A:2<=F (O p)){x y q:Int}(B:0<q)(C:x<=y)(N:2<=wv 0 (EH (D2 p) x q)-wv 0 (EH (D2 p) y q)) :
  ∃ c:Int,0<c/\∀ k:Int,0<k->∃ z w:Int,k*c*x<=z/\z+1<=k*c*y/\k*c*x<=w/\w+1<=k*c*y/\z+k<=w /\
   Hh (O p) z (k*c*q)*Hh (O p) (z+1) (k*c*q)<=0/\Hh (O p) w (k*c*q)*Hh (O p) (w+1) (k*c*q)<=0:=by
 obtain⟨c,hc,l⟩:=AIq p hp A (x:=x) (y:=y) B;have sc:∀ c:Int,0<c->∀ z a,wv 0 (EH (D2 p) (c*z) (c*a))=wv 0 (EH (D2 p) z a):=fun c hc z a=>by rw[Km _ _ _ _ hc]
 have f:=l c (DO _);have P:=Ax C (A9 hc);have Q:=sc c hc x q;have R:=sc c hc y q;obtain⟨m,S,n,T⟩:=U0 (W:=fun z=>wv 0 (EH (D2 p) z (c*q))) (u:=c*x) (c*y-c*x).toNat (fun j hj=>f (c*x+(j:Int)) (by omega) (by omega)) (by
  show wv 0 (EH (D2 p) (c*x+(c*y-c*x).toNat) (c*q))<wv 0 (EH (D2 p) (c*x) (c*q));rw[show c*x+((c*y-c*x).toNat:Int)=c*y by omega];omega)
 obtain⟨U,_,V,_,D⟩:=(f (c*x+(m:Int)) (by omega) (by omega)).drop n;generalize E:c*x+(m:Int)=b at *
 obtain⟨g,X,o,Y⟩:=U0 (W:=fun z=>wv 0 (EH (D2 p) z (c*q))) (u:=b+1) (c*y-(b+1)).toNat (fun j hj=>f (b+1+(j:Int)) (by omega) (by omega)) (by
  show wv 0 (EH (D2 p) (b+1+(c*y-(b+1)).toNat) (c*q))<wv 0 (EH (D2 p) (b+1) (c*q));rw[show b+1+((c*y-(b+1)).toNat:Int)=c*y by omega];omega)
 obtain⟨_,H,_,r,_⟩:=(f (b+1+(g:Int)) (by omega) (by omega)).drop o;have Z:0<g:=by
  apply A6;intro hn;have:g=0:=by omega
  subst this;simp only[Int.natCast_zero,Cx] at H r E;have:((0:Nat):Int)=0:=rfl;rcases D with k | k
  ·rw[show b+1+((0:Nat):Int)=b+1 by omega] at *
   rw[k] at r;have:CM 0=0:=rfl;omega
  ·rw[show b+1+((0:Nat):Int)=b+1 by omega] at *
   omega
 generalize a4:b+1+(g:Int)=h at *
 refine⟨c,hc,fun k e => ?_⟩;have a5:=Br e hc;have I:=l (k*c) (by
  have:=Ap (show (1:Int)<=k by omega) (A9 hc);omega)
 have s:∀ z,wv 0 (EH (D2 p) (k*z) (k*c*q))=wv 0 (EH (D2 p) z (c*q)):=fun z=>by rw[Bm];exact sc k e z (c*q)
 have one:∀ z0,c*x<=z0->z0+1<=c*y->wv 0 (EH (D2 p) (z0+1) (c*q))<wv 0 (EH (D2 p) z0 (c*q))->∃ z,k*z0<=z/\z+1<=k*z0+k/\Hh (O p) z (k*c*q)*Hh (O p) (z+1) (k*c*q)<=0:=by
  intro z0 h1 h2 J;have t:=Ax h1 (A9 e);have i:=Ax h2 (A9 e);rw[<- Bm] at t i;rw[DJ,DQ] at i;have hcell:∀ j:Nat,j<k.toNat->Rc (O p) (prim (AE (O p))) (fun z=>wv 0 (EH (D2 p) z (k*c*q))) (k*c*q) (k*z0+j):=fun j hj=>I _ (by omega) (by omega);obtain⟨j,hj,d,_⟩:=U0 (W:=fun z=>wv 0 (EH (D2 p) z (k*c*q))) (u:=k*z0) k.toNat hcell (by
   show wv 0 (EH (D2 p) (k*z0+k.toNat) (k*c*q))<wv 0 (EH (D2 p) (k*z0) (k*c*q));rw[show k*z0+(k.toNat:Int)=k*(z0+1) by rw[DJ,DQ];omega,s,s];exact J)
  exact⟨k*z0+(j:Int),by omega,by omega,(hcell j hj).change d⟩
 obtain⟨z,a1,a2,K⟩:=one b (by omega) (by omega) n;obtain⟨w,t,i,L⟩:=one h (by omega) (by omega) o;have c1:=Ax (show c*x<=b by omega) (A9 e);have v:=Ax (show h+1<=c*y by omega) (A9 e);have M:=Ax (show b+2<=h by omega) (A9 e);rw[<- Bm] at c1 v;rw[DJ] at v M;exact⟨z,w,by omega,by omega,by omega,by omega,by omega,K,L⟩
theorem Acd:∀ l:G,∃ A:Nat,∀ c∈l,I c<=A
 | []=>⟨0,fun c hc=>by cases hc⟩
 | a::l=>by
  obtain⟨A,h⟩:=Acd l;refine⟨A+I a,fun c hc => ?_⟩;rcases BW.1 hc with rfl | hc
  ·omega
  ·have:=h c hc;omega
theorem A1i{a:Nat}(hX:1<=a):∀ {m n:Nat},m<=n->zV a m<=zV a n/\zD a m<=zD a n:=by
 intro m n h;induction h with
 | refl=>exact⟨A2 _,A2 _⟩
 | step _ b =>
  rename_i n _;have h1:=Bf (zV a n) hX;have h2:=Bf (zD a n) hX;simp only[zV,zD];omega
theorem Mq{z a:Int}{X:Nat}(g:0<a)(h1 : -(X*a)<=z)(h2:z<=X*a):Bd ((z:Rat) / (a:Rat)) X:=by
 have b:=NK g;have c:=C6.2 h1;have f:=C6.2 h2;rw[Axy,DL,EG] at c;rw[DL,EG] at f;have e:(z:Rat) / (a:Rat)*(a:Rat)=(z:Rat):=by grind
 generalize (z:Rat) / (a:Rat)=r at *
 rw[<- e] at c f;generalize (a:Rat)=d at *
 unfold Bd;constructor
 ·apply A6;intro hn;have:=Nw (show r < -(X:Rat) by grind) b;grind
 ·apply A6;intro hn;have:=Nw (show (X:Rat)<r by grind) b;grind
def Mz(n A a:Nat):Nat:=(2*siz n A*zD a n)*(A*zT a (n+1))+(2*siz n A*zV a n)*(A*zS a (n+1))
theorem Ace{p:G}(hp:Af p ≠ []){n A X:Nat}(hn:F (O p)=n+1)(h2:2<=n)(U:∀ i,I (H (O p) i 0)<=A)(a3:0<A)(hX:1<=X)
  {x y q:Int} (V:0<q) (a4:x<=y) (hx : -(X*q)<=x) (hy:y<=X*q) (hV:2<=wv 0 (EH (D2 p) x q)-wv 0 (EH (D2 p) y q)):q*q<=(y-x)*(y-x)*(Mz n A X:Nat):=by
 have W:2<=F (O p):=by omega
 obtain⟨_,a5,hG,_⟩:=Mn hp W;obtain⟨c,hc,hk⟩:=Acb p hp W V a4 hV;generalize O p=f at *
 have a6:Af (AE f)=AE f:=by unfold AE;rw[GG]
 have a7:F (AE f)=n:=by rw[CO,a6] at a5;omega
 obtain⟨m,hm,a8⟩:=Kk (AE f);have a9:Gz [1] f (AE f):=Gz.scaled (m:=1) (n:=1) (k:=1) (l:=m) (by decide) (by decide) (by decide) hm (fun _=>rfl) (fun x=>by rw[a8 x];omega) hG;obtain⟨M,P,r,hR,b0,b3,hW⟩:=ACt hn h2 a7 a9 U a3;obtain⟨Au,Y⟩:=Acd M;have N:∀ c∈f,I c<=A:=fun c hc=>by
  obtain⟨i,rfl⟩:=Tc hc;exact U i
 have mono:=A1i hX b3;generalize hS:2*siz n A=g at *
 generalize hE:A*zD X (F f)=d;generalize hC:4*X*(Au*zV X (F M))+4*(g*zV X (F P))=D;obtain⟨z,w,z1,z2,w1,w2,b4,fz,fw⟩:=hk ((d*D+1:Nat):Int) (by omega);generalize b5:((d*D+1:Nat):Int)=k at *
 have Z:0<k:=by omega
 have C:=Br Z hc;have B:0<k*c*q:=Br C V;have sx:=Ax hx (A9 C);have sy:=Ax hy (A9 C);have ex:k*c * -(X*q) = -(X*(k*c*q)):=by grind
 have ey:k*c*(X*q)=X*(k*c*q):=by grind
 rw[ex] at sx;rw[ey] at sy;have Q:(w-z)<=k*c*(y-x):=by rw[Gs];omega
 have eD:k*c*q=k*(c*q):=Bm ..;generalize b6:k*c*q=j at *
 have E:=Mq (X:=X) B (z:=z) (by omega) (by omega);have J:=Mq (X:=X) B (z:=w) (by omega) (by omega);have b7:=Mq (X:=X) B (z:=z+1) (by omega) (by omega);have b8:=Mq (X:=X) B (z:=w+1) (by omega) (by omega);have ca:=Qo B fz;have cb:=Qo B fw;have K:=NK B;have d1:=NJ ((z:Rat) / (j:Rat)) (((z+1:Int):Rat) / (j:Rat)) f;have d2:=NJ ((w:Rat) / (j:Rat)) (((w+1:Int):Rat) / (j:Rat)) f;have b1:=Uy E b7 f N;have b2:=Uy J b8 f N;have a1:=Qn E M Y;have b9:=Qn J M Y;have eN:(A:Rat)*(zD X (F f):Nat)=(d:Nat):=by rw[<- hE];simp
 rw[eN] at b1 b2;have step:∀ s:Int,((s+1:Int):Rat) / (j:Rat)-(s:Rat) / (j:Rat)=1 / (j:Rat):=by
  intro s;rw[MV];simp;grind
 have a2:Bd (1 / (j:Rat)) (1 / (j:Rat)):=by
  have:0<1 / (j:Rat):=by
   rw[ABh,ABi];exact ABj.2 K
  unfold Bd;constructor <;> grind
 have c0:Bd (pq f ((z:Rat) / (j:Rat))) (1 / (j:Rat)*(d:Nat)):=WX ca (by
  have e:pq f (((z+1:Int):Rat) / (j:Rat))-pq f ((z:Rat) / (j:Rat))=1 / (j:Rat)*dD f ((z:Rat) / (j:Rat)) (((z+1:Int):Rat) / (j:Rat)):=by rw[d1,step];grind
  rw[e];exact a2.mul b1)
 have c1:Bd (pq f ((w:Rat) / (j:Rat))) (1 / (j:Rat)*(d:Nat)):=WX cb (by
  have e:pq f (((w+1:Int):Rat) / (j:Rat))-pq f ((w:Rat) / (j:Rat))=1 / (j:Rat)*dD f ((w:Rat) / (j:Rat)) (((w+1:Int):Rat) / (j:Rat)):=by rw[d2,step];grind
  rw[e];exact a2.mul b2)
 have c2:=C6.2 b4;rw[MV] at c2;have c3:(k:Rat)=(d:Nat)*(D:Nat)+1:=by rw[<- b5,EG,UV,IL];simp
 have d3:(0:Rat)<(k:Rat):=NK Z;have eC:(D:Rat)=4*(X:Nat)*((Au:Nat)*(zV X (F M):Nat))+4*((g:Nat)*(zV X (F P):Nat)):=by rw[<- hC];simp
 have ea:(z:Rat) / (j:Rat)*(j:Rat)=(z:Rat):=by grind
 have eb:(w:Rat) / (j:Rat)*(j:Rat)=(w:Rat):=by grind
 have eo:1 / (j:Rat)*(j:Rat)=1:=by grind
 have R:0<1 / (j:Rat):=by
  rw[ABh,ABi];exact ABj.2 K
 have c4:1<=((w:Rat) / (j:Rat)-(z:Rat) / (j:Rat))*((w:Rat) / (j:Rat)-(z:Rat) / (j:Rat))*(((g:Nat)*(zD X (F P):Nat))*((A:Nat)*(zT X (F f):Nat))+((g:Nat)*(zV X (F P):Nat))*((A:Nat)*(zS X (F f):Nat))):=by
  refine far hR b0 N hW E J ?_ c0 c1 a1 b9 ?_
  ·have h1:=Nw (show (z:Rat)<(w:Rat) by grind) R;have S:(z:Rat)*(1 / (j:Rat))=(z:Rat) / (j:Rat):=by grind
   have T:(w:Rat)*(1 / (j:Rat))=(w:Rat) / (j:Rat):=by grind
   rw[S,T] at h1;exact h1
  ·-- the error
   have c5:(k:Rat)*(1 / (j:Rat))<=(w:Rat) / (j:Rat)-(z:Rat) / (j:Rat):=by
    have h1:=LP (show (k:Rat)<=(w:Rat)-(z:Rat) by grind) (Jh R);grind
   have c6:(w:Rat) / (j:Rat)-(z:Rat) / (j:Rat)<=2*(X:Nat):=by
    unfold Bd at E J;grind
   generalize (w:Rat) / (j:Rat)-(z:Rat) / (j:Rat)=t at *
   generalize 1 / (j:Rat)=o at *
   have c7:(0:Rat)<=(d:Nat):=by
    have h:=(tY (a:=0) (b:=d)).2 (A_ _);simpa using h
   have c8:=a1.pos;have d4:(0:Rat)<=(g:Nat)*(zV X (F P):Nat):=by
    have:=A_ (g*zV X (F P));have h:=(tY (a:=0) (b:=g*zV X (F P))).2 this;simpa using h
   generalize (Au:Rat)*(zV X (F M):Nat)=u at *
   generalize (g:Rat)*(zV X (F P):Nat)=v at *
   have c9:=G6 (Jh R) c7;have h1:=LP c6 (G6 c8 c9);rw[c3,eC] at c5;generalize (d:Rat)=e0 at *
   generalize (X:Rat)=xx at *
   grind
 have d0:(j:Rat)*(j:Rat)<=((w:Rat)-(z:Rat))*((w:Rat)-(z:Rat))*(((g:Nat)*(zD X (F P):Nat))*((A:Nat)*(zT X (F f):Nat))+((g:Nat)*(zV X (F P):Nat))*((A:Nat)*(zS X (F f):Nat))):=by
  have h1:=LP c4 (Jh (JH K K));have e:(w:Rat)-(z:Rat)=((w:Rat) / (j:Rat)-(z:Rat) / (j:Rat))*(j:Rat):=by grind
  rw[e];grind
 have d5:j*j<=(w-z)*(w-z)*(((g*zD X (F P))*(A*zT X (F f))+(g*zV X (F P))*(A*zS X (F f)):Nat):Int):=by
  apply C6.1;rw[DL,DL,DL,yP,EG];simp only[UV,IL];exact d0
 have hM:(g*zD X (F P))*(A*zT X (F f))+(g*zV X (F P))*(A*zS X (F f))<=Mz n A X:=by
  unfold Mz;rw[hS,hn];exact Nat.add_le_add (Ck (Ck (A2 _) mono.2) (A2 _)) (Ck (Ck (A2 _) mono.1) (A2 _))
 have L:0<=w-z:=by omega
 have s1:=Fk Q Q L (FC L Q);have s2:=Ap s1 (JI (Mz n A X));have s3:=Ax (AHn.2 hM) (A8 L L);apply Fu (a:=k*c*(k*c)) _ (Br C C);have S:k*c*(k*c)*(q*q)=j*j:=by rw[<- b6];grind
 have T:k*c*(k*c)*((y-x)*(y-x)*(Mz n A X:Nat))=k*c*(y-x)*(k*c*(y-x))*(Mz n A X:Nat):=by grind
 rw[S,T];omega
theorem WY{u a b P Q:Int}{v:Int}(g:u ≠ 0)(hv:I v<=I u)(h:u*a=b-v*P)(hb:(I b:Int)<=Q):(I a:Int)<=Q+(I P:Int):=by
 have h1:(I u:Int)*(I a:Int)<=(I b:Int)+(I v:Int)*(I P:Int):=by
  have c:(I u:Int)*(I a:Int)=(I (u*a):Int):=by rw[C1];rfl
  have d:(I v:Int)*(I P:Int)=(I (v*P):Int):=by rw[C1];rfl
  rw[c,d,h];omega
 have e:(1:Int)<=(I u:Int):=by omega
 have h2:(I v:Int)*(I P:Int)<=(I u:Int)*(I P:Int):=Ap (by omega) (by omega);have i:(I b:Int)<=(I u:Int)*(I b:Int):=by
  have:=Ap e (show (0:Int)<=(I b:Int) by omega);omega
 have f:(I u:Int)*(I a:Int)<=(I u:Int)*((I b:Int)+(I P:Int)):=by rw[DJ];omega
 have:=Fu f (by omega);omega
theorem Acf{t f:G}{v u:Int}{P N:Nat}(l:u ≠ 0)(o:F f<=N)(d:∀ i,I (H t i 0)<=P)(h:∀ x,Ah t x=Ah f x*Ah [v,u] x):∀ i,I (H f i 0)<=(N+1)*P:=by
 have hc:=Eb (p:=t) (q:=EQ (AM v f) (AM u (Ek 1 f))) (fun x=>by
  rw[h x,CD,AN,AN,Er,AD,DC];simp only[Ah];grind)
 have hi:∀ i,H t i 0=v*H f i 0+u*(if 1<=i then H f (i-1) 0 else 0):=by
  intro i;rw[hc i,EC,Bt,Bt,Db]
 by_cases m:I v<=I u
 ·-- from the top
  have g:∀ j i:Nat,i+j=N->(I (H f i 0):Int)<=(j:Int)*P:=by
   intro j;induction j with
   | zero=>intro i e;rw[Cp (by omega)];simp
   | succ j k =>
    intro i e;have h1:=k (i+1) (by omega);have h2:=hi (i+1);rw[Ar (by omega),HQ] at h2;have c:=WY (a:=H f i 0) (b:=H t (i+1) 0) (P:=H f (i+1) 0) (Q:=P) l m (by omega) (by have:=d (i+1);omega);have:((j+1:Nat):Int)*(P:Int)=(j:Int)*P+P:=by rw[MT];grind
    omega
  intro i;by_cases n:i<=N
  ·have:=g (N-i) i (by omega);have h2:((N-i:Nat):Int)*(P:Int)<=((N+1:Nat):Int)*(P:Int):=Ap (by omega) (by omega);have c:(((N+1)*P:Nat):Int)=((N+1:Nat):Int)*(P:Int):=by simp
   omega
  ·rw[Cp (by omega)];simp
 ·have hv:v ≠ 0:=by omega
  have g:∀ i:Nat,(I (H f i 0):Int)<=((i+1:Nat):Int)*P:=by
   intro i;induction i with
   | zero =>
    have h2:=hi 0;rw[Aw (by omega),Be] at h2;have c:=WY (u:=v) (v:=0) (a:=H f 0 0) (b:=H t 0 0) (P:=0) (Q:=P) hv (by simp) (by omega) (by have:=d 0;omega);simp at c |-;omega
   | succ i k =>
    have h2:=hi (i+1);rw[Ar (by omega),HQ] at h2;have c:=WY (u:=v) (v:=u) (a:=H f (i+1) 0) (b:=H t (i+1) 0) (P:=H f i 0) (Q:=P) hv (by omega) (by omega) (by have:=d (i+1);omega);have:((i+1+1:Nat):Int)*(P:Int)=((i+1:Nat):Int)*P+P:=by
     rw[show ((i+1+1:Nat):Int)=((i+1:Nat):Int)+1 by omega,H2,D0]
    omega
  intro i;by_cases n:i<N
  ·have:=g i;have h2:((i+1:Nat):Int)*(P:Int)<=((N+1:Nat):Int)*(P:Int):=Ap (by omega) (by omega);have c:(((N+1)*P:Nat):Int)=((N+1:Nat):Int)*(P:Int):=by simp
   omega
  ·rw[Cp (by omega)];simp
def sizA(n P:Nat):Nat:=if 7<=n then 10*P else P*8^9*17^6
theorem Acg(p:G)(hp:Af p ≠ [])(d:2<=F (O p)){x y q:Int}(e:0<q)(g:x<y)(hz:Hh (O p) y q=0):wv 0 (EH (D2 p) y q)+1<=wv 0 (EH (D2 p) x q):=by
 obtain⟨c,hc,a⟩:=A1c p hp d (x:=x) (y:=y) e;have sc:∀ z,wv 0 (EH (D2 p) (c*z) (c*q))=wv 0 (EH (D2 p) z q):=fun z=>by rw[Km _ _ _ _ hc]
 have hs:CM (Hh (O p) (c*y) (c*q))=CM (Hh (O p) y q):=Nt _ _ _ _ hc;have h:c*x+c<=c*y:=by
  have:=Ax (show x+1<=y by omega) (show 0<=c by omega);rw[DJ,DQ] at this;exact this
 have f:Hh (O p) (c*y) (c*q)=0:=by rw[<- DB,hs,DB];exact hz
 have hcell:=a (c*y-1) (by omega) (by omega);have h2:=hcell.root (by rw[show c*y-1+1=c*y by omega];exact f);simp only[show c*y-1+1=c*y by omega] at h2;have b:=R' (u:=c*x) (c*y-1-c*x).toNat (fun j hj=>a (c*x+(j:Int)) (by omega) (by omega));simp only[show c*x+((c*y-1-c*x).toNat:Int)=c*y-1 by omega] at b;rw[sc] at h2 b;omega
theorem YP:∀ (l:G) (a:Int),wv a l<=(F l:Int)
 | [],_=>by simp[wv]
 | s::ss,a=>by
  simp only[wv,BM];have h1:=YP ss a;have h2:=YP ss s;split
  ·omega
  ·split <;> omega
theorem aP(s:Int)(ss:G):wv 0 (s::ss)<=(F ss:Int):=by
 simp only[wv];have h1:=YP ss 0;have h2:=YP ss s;split
 ·omega
 ·rw[Aw (fun h=>h.1 rfl)];omega
theorem NL:∀ (l:G) (a:Int),0<=wv a l
 | [],_=>by simp[wv]
 | s::ss,a=>by
  simp only[wv];have h1:=NL ss a;have h2:=NL ss s;split
  ·exact h1
  ·split <;> omega
theorem Amz{p:G}(h:F (O p)<=2)(x q:Int):wv 0 (EH (D2 p) x q)<=1:=by
 unfold D2;split
 ·simp[EH,wv]
 ·rename_i a;have i:=Av.2 a;have hb:F (prim (AE (O p)))<=1:=by
   rw[CO];have:=Ct (AE (O p));have:=WR (O p);omega
  have hc:F (Jm (F (O p)) (O p) (prim (AE (O p))))<=1:=by
   generalize prim (AE (O p))=g at *
   obtain⟨n,hn⟩:∃ n,F (O p)=n+1:=⟨F (O p)-1,by omega⟩;rw[hn];simp only[Jm];split
   ·simp
   ·rename_i b;have j:=Av.2 b;have c:n<=1:=by omega
    have:F (Jm n g (z (t (O p) g)))=0:=by
     match n,c with
     | 0,_=>rfl
     | 1,_ =>
      simp only[Jm];split
      ·rfl
      ·rename_i hz;exfalso;apply hz;have e:t (O p) g=[]:=by
        apply A6;intro d;have k:F (t (O p) g)<F g:=by
         have:=(tE (x:=O p) (y:=g) ?_ b).2
         ·exact this
         ·have f:Af p ≠ []:=by
           intro h;apply a;have hz:prim p=[]:=by rw[EM,<- DY];exact h
           unfold O;rw[hz];rfl
          exact (C7 f).1
        have:=Av.2 d;omega
       rw[e];rfl
    simp only[BM];omega
  unfold EH;rw[CW];have:=aP (CM (Hh (O p) x q)) ((Jm (F (O p)) (O p) (prim (AE (O p)))).map fun p=>CM (Hh p x q));(first|rw[Ac] at this|(unfold sL at this;rw[Ac] at this));omega
def lin(s:Int):G:=[-s,2]
theorem JX{c:Int}(hc:c ≠ 0)(p:G):F (Af (AM c p))=F (Af p):=by
 rw[Ml hc,BR]
theorem Td{a b:Int}:((0<a/\0<b)\/(a<0/\b<0))↔0<a*b:=by
 constructor
 ·rintro (⟨h1,h2⟩ | ⟨h1,h2⟩)
  ·exact Br h1 h2
  ·have:=Br (show 0 < -a by omega) (show 0 < -b by omega);rwa [Int.neg_mul_neg] at this
 ·intro h;rcases G8 a 0 with g | g | g
  ·rcases G8 b 0 with k | k | k
   ·exact .inr ⟨g,k⟩
   ·subst k;simp at h
   ·have:=Br (show 0 < -a by omega) k;rw[O'] at this;omega
  ·subst g;simp at h
  ·rcases G8 b 0 with k | k | k
   ·have:=Br g (show 0 < -b by omega);rw[F8] at this;omega
   ·subst k;simp at h
   ·exact .inl ⟨g,k⟩
theorem tZ(p:G)(x q:Int):M4 p x q↔0<Hh p x q*Hh p (x+1) q:=Td
theorem Ach{c d a b:Int}(hc:c ≠ 0)(hd:d ≠ 0)(h:c*a=d*b):a=0↔b=0:=by
 constructor
 ·intro e;rw[e,Be] at h;rcases F5.1 h.symm with g | g
  ·exact absurd g hd
  ·exact g
 ·intro e;rw[e,Be] at h;rcases F5.1 h with g | g
  ·exact absurd g hc
  ·exact g
theorem Ake{c:Int}(hc:c ≠ 0):0<c*c:=Td.1 (by omega)
theorem Ana{c d a b f g:Int}(hc:c ≠ 0)(hd:d ≠ 0)(h:c*a=d*b)(i:c*f=d*g):0<a*f↔0<b*g:=by
 have e:(c*c)*(a*f)=(d*d)*(b*g):=by
  have:(c*c)*(a*f)=(c*a)*(c*f):=by grind
  rw[this,h,i];grind
 have j:=Ake hc;have l:=Ake hd;constructor
 ·intro k;have:=Br j k;rw[e] at this;have:=Td.2 this;omega
 ·intro k;have:=Br l k;rw[<- e] at this;have:=Td.2 this;omega
def wq(p:G)(x q:Int):Int:=wv 0 (EH (D2 p) x q)
def Lst(p:G)(x q:Int):Prop:=¬ M4 (O p) x q/\Hh (O p) x q ≠ 0
theorem NM(p:G)(hp:Af p ≠ [])(a:Int)(o:0<=a):∃ b:Int,0<b/\∀ q x:Int,aK a q x->b<=q->(Lst p x q->wq p x q=wq p (x+1) q+1)/\(¬ Lst p x q->wq p x q=wq p (x+1) q):=by
 obtain⟨_,_,_,f,_⟩:=C7 hp;have h:D2 p=O p::Jm (F (O p)) (O p) (prim (AE (O p))):=by unfold D2;rw[Aw f]
 unfold wq Lst;by_cases j:2<=F (O p)
 ·obtain⟨lf,c,r,s⟩:=Mn hp j;obtain⟨b,t,u⟩:=WU a o lf j c r s (F (O p)) (by omega);refine⟨b,t,fun q x hr v => ?_⟩;rw[h];obtain⟨d,htop,k,w,y⟩:=u q x hr v;have A:=nW htop;constructor
  ·intro ⟨l,m⟩;rcases k with z | z
   ·rcases y z with g | g
    ·exact absurd g l
    ·exact absurd g m
   ·omega
  ·intro g;rcases k with z | z
   ·omega
   ·exact absurd (w z) g
 ·refine⟨1,by decide,fun q x _ _ => ?_⟩;have B:=Av.2 f;have c:F (O p)=1:=by omega
  have hz:prim (AE (O p))=[]:=by
   rw[EM];intro i;rw[Ej,Cp (by omega),Cs]
  have e:Jm (F (O p)) (O p) (prim (AE (O p)))=[]:=by rw[c,hz];rfl
  have n:∀ z,Hh (O p) z q=H (O p) 0 0:=fun z=>by unfold Hh Go.Ai.hp;rw[c];rfl
  rw[h,e];unfold EH;simp only[CW,HC];unfold M4;rw[n,n];constructor
  ·intro ⟨l,m⟩;exfalso;omega
  ·intro _;rfl
theorem R_{f a b:G}{c d:Int}(hc:c ≠ 0)(hd:d ≠ 0)(lf:Cw f)(e:Cw a)(g:Cw b)(j:a ≠ [])(hb:b ≠ [])(h:∀ x,c*Ah f x=d*(Ah a x*Ah b x))(x q:Int):c*Hh f x q=d*(Hh a x q*Hh b x q):=by
 have n:=Av.2 j;have o:=Av.2 hb;have hi:=Eb (p:=AM c f) (q:=AM d (Cg a b)) (fun x=>by rw[AN,AN,B8];exact h x);have s:F f=F a+F b-1:=by
  have h1:=JX hc f;have h2:=JX hd (Cg a b);have k:Af (AM c f)=Af (AM d (Cg a b)):=HI hi;have l:=Mm (Ca e j) (Ca g hb);rw[lf] at h1;rw[l,e,g] at h2;rw[<- h1,k,h2]
 have m:=YN (r:=b) (tr:=F b-1) (by omega) x q a (F a-1) (by omega);unfold Hh;rw[show F f-1=F a-1+(F b-1) by omega,<- m];unfold hp;have h1:=O5 c 0 (fun i=>H f i 0) (fun i=>H f i 0) x q (F a-1+(F b-1));have h2:=O5 d 0 (fun i=>H (Cg a b) i 0) (fun i=>H (Cg a b) i 0) x q (F a-1+(F b-1));have k:hs (fun i=>c*H f i 0+0*H f i 0) x q (F a-1+(F b-1))=hs (fun i=>d*H (Cg a b) i 0+0*H (Cg a b) i 0) x q (F a-1+(F b-1)):=Ql fun i _=>by
  have:=hi i;rw[Bt,Bt] at this;omega
 omega
theorem Yd{s t a b:Int}(h:0<a*b):0<s*a*(t*b)↔0<s*t:=by
 have e:s*a*(t*b)=s*t*(a*b):=by grind
 rw[e];constructor
 ·intro g;apply FI.1;intro z;have:=Ap z (A9 h);omega
 ·intro g;exact Br g h
theorem Aci{P A a:G}{c d:Int}(hc:c ≠ 0)(hd:d ≠ 0)(D:Af P ≠ [])(E:Af A ≠ [])(F:Af a ≠ [])(h:∀ x,c*Ah (O P) x=d*(Ah (O A) x*Ah (O a) x))(S:Gz [1] (O A) (O a))(f:Int)(n:0<=f) :
  ∃ H:Int,0<H/\∀ q x:Int,aK f q x->H<=q->wq P x q-wq P (x+1) q=(wq A x q-wq A (x+1) q)+(wq a x q-wq a (x+1) q):=by
 obtain⟨T,h1,U⟩:=NM P D f n;obtain⟨V,h2,W⟩:=NM A E f n;obtain⟨X,h3,Y⟩:=NM a F f n;obtain⟨L4,Z,_,h4,k4⟩:=Tb f n S;obtain⟨lf,_,_,f0,_⟩:=C7 D;obtain⟨I,_,_,a0,_⟩:=C7 E;obtain⟨J,_,_,K,_⟩:=C7 F;refine⟨T+V+X+Z,by omega,fun q x hr hq => ?_⟩;have L:=R_ hc hd lf I J a0 K h x q;have v2:=R_ hc hd lf I J a0 K h (x+1) q;obtain⟨t,M⟩:=U q x hr (by omega);obtain⟨N,w⟩:=W q x hr (by omega);obtain⟨Q,y⟩:=Y q x hr (by omega);have R:=fun g=>(k4 q x hr (by omega) g).1;have B:=Ach hc hd L;have j:=Ana hc hd L v2;unfold Lst at *
 simp only[tZ] at t M N w Q y R;generalize Hh (O P) x q=b at *
 generalize Hh (O P) (x+1) q=F' at *
 generalize Hh (O A) x q=u at *
 generalize Hh (O A) (x+1) q=i at *
 generalize Hh (O a) x q=v at *
 generalize Hh (O a) (x+1) q=k at *
 have a3:(¬ 0<b*F'/\b ≠ 0->(¬ 0<u*i/\u ≠ 0)\/(¬ 0<v*k/\v ≠ 0))/\(¬ 0<u*i/\u ≠ 0->(¬ 0<b*F'/\b ≠ 0)/\¬ (¬ 0<v*k/\v ≠ 0))/\(¬ 0<v*k/\v ≠ 0->(¬ 0<b*F'/\b ≠ 0)/\¬ (¬ 0<u*i/\u ≠ 0)):=by
  have o:b ≠ 0↔u ≠ 0/\v ≠ 0:=by
   constructor
   ·intro g;refine⟨fun z=>g (B.2 (by rw[z,Cs])),fun z=>g (B.2 (by rw[z,Be]))⟩
   ·intro ⟨g1,g2⟩ z;exact Bv g1 g2 (B.1 z)
  by_cases l:0<u*i
  ·have e:u*v*(i*k)=v*u*(k*i):=by grind
   rw[e,Yd l] at j;have u0:u ≠ 0:=by intro z;rw[z,Cs] at l;omega
   refine⟨fun g=>TQ ⟨fun z=>g.1 (j.2 z),(o.1 g.2).2⟩,fun g=>absurd l g.1,fun g=>⟨⟨fun z=>g.1 (j.1 z),o.2 ⟨u0,g.2⟩⟩,fun z=>z.1 l⟩⟩
  ·have p:=R l;rw[Yd p] at j;have v0:v ≠ 0:=by intro z;rw[z,Cs] at p;omega
   refine⟨fun g=>Alo ⟨fun z=>g.1 (j.2 z),(o.1 g.2).1⟩,fun g=>⟨⟨fun z=>g.1 (j.1 z),o.2 ⟨g.2,v0⟩⟩,fun z=>z.1 p⟩,fun g=>absurd p g.1⟩
 obtain⟨kA,kB,kC⟩:=a3;by_cases r:¬ 0<u*i/\u ≠ 0
 ·obtain⟨m,C⟩:=kB r;have:=t m;have:=N r;have:=y C;omega
 ·by_cases s:¬ 0<v*k/\v ≠ 0
  ·obtain⟨m,C⟩:=kC s;have:=t m;have:=w C;have:=Q s;omega
  ·have m:¬ (¬ 0<b*F'/\b ≠ 0):=fun z=>by
    rcases kA z with g | g
    ·exact r g
    ·exact s g
   have:=M m;have:=w r;have:=y s;omega
theorem P5(p:G)(x q c:Int)(hc:0<c):wq p (c*x) (c*q)=wq p x q:=by unfold wq;rw [Km _ _ _ _ hc]
theorem iV{P A b:G}{c d:Int}(hc:c ≠ 0)(hd:d ≠ 0)(j:Af P ≠ [])(l:Af A ≠ [])(m:Af b ≠ [])(h:∀ x,c*Ah (O P) x=d*(Ah (O A) x*Ah (O b) x))(n:Gz [1] (O A) (O b)){x y q:Int}(o:0<q)(v:x<=y) :
  wq P x q-wq P y q=(wq A x q-wq A y q)+(wq b x q-wq b y q):=by
 obtain⟨f,i,p⟩:=Aci hc hd j l m h n (I x+I y) (by omega);have h1:(0:Int)<f*q:=Br i o;have r:f<=f*q:=by
  have:=Ax (show (1:Int)<=q by omega) (show 0<=f by omega);omega
 have hb:∀ z:Int,(I z:Int)<=(I x:Int)+(I y:Int)->(I (f*z):Int)<=((I x:Int)+(I y:Int))*(f*q):=by
  intro z hz;have h2:=Ec (a:=f) (A:=f*q) (by omega) hz;have e:f*q*((I x:Int)+(I y:Int))=((I x:Int)+(I y:Int))*(f*q):=AT ..;omega
 have w:=hb x (by omega);have B:=hb y (by omega);have hd:0<=f*(y-x):=A8 (by omega) (by omega);have s:f*x+((f*(y-x)).toNat:Int)=f*y:=by rw[V9 hd,Gs];omega
 have t:∀ k:Nat,f*x+(k:Int)<=f*y->wq P (f*x) (f*q)-wq P (f*x+k) (f*q)=(wq A (f*x) (f*q)-wq A (f*x+k) (f*q))+(wq b (f*x) (f*q)-wq b (f*x+k) (f*q)):=by
  intro k;induction k with
  | zero=>intro _;simp
  | succ k u =>
   intro C;have D:=u (by omega);have E:=p (f*q) (f*x+(k:Int)) ⟨h1,by omega,by omega⟩ r;rw[show f*x+((k+1:Nat):Int)=f*x+(k:Int)+1 by omega];omega
 have g:=t (f*(y-x)).toNat (by omega);rw[s] at g;simp only[P5 _ _ _ _ i] at g;exact g
theorem iW(p:G)(hp:Af p ≠ []){x y q:Int}(n:0<q)(o:x<=y)(r:1<=wq p x q-wq p y q) :
  ∃ c0:Int,0<c0/\∀ c:Int,c0<=c->∃ z:Int,c*x<=z/\z+1<=c*y/\Hh (O p) z (c*q)*Hh (O p) (z+1) (c*q)<=0:=by
 obtain⟨d,f,h⟩:=NM p hp (I x+I y) (by omega);refine⟨d,f,fun c s => ?_⟩;have b:0<c:=by omega
 have t:c<=c*q:=by
  have:=Ax (show (1:Int)<=q by omega) (show 0<=c by omega);omega
 have hb:∀ z:Int,(I z:Int)<=(I x:Int)+(I y:Int)->(I (c*z):Int)<=((I x:Int)+(I y:Int))*(c*q):=by
  intro z hz;have h2:=Ec (a:=c) (A:=c*q) (by omega) hz;have e:c*q*((I x:Int)+(I y:Int))=((I x:Int)+(I y:Int))*(c*q):=AT ..;omega
 have u:=hb x (by omega);have v:=hb y (by omega);apply A6;intro hn;have i:∀ k:Nat,c*x+(k:Int)<=c*y->wq p (c*x) (c*q)=wq p (c*x+k) (c*q):=by
  intro k;induction k with
  | zero=>intro _;simp
  | succ k j =>
   intro w;have B:=j (by omega);have C:=(h (c*q) (c*x+(k:Int)) ⟨by omega,by omega,by omega⟩ (by omega)).2 (fun g=>hn ⟨c*x+(k:Int),by omega,by omega,by
    have:=g.1;rw[tZ] at this;omega⟩)
   rw[show c*x+((k+1:Nat):Int)=c*x+(k:Int)+1 by omega];omega
 have hd:0<=c*(y-x):=A8 (by omega) (by omega);have l:c*x+((c*(y-x)).toNat:Int)=c*y:=by rw[V9 hd,Gs];omega
 have m:=i (c*(y-x)).toNat (by omega);rw[l,P5 _ _ _ _ b,P5 _ _ _ _ b] at m;omega
def uA(s t:G)(n i:Nat):G:=if i<n then Ek i s else Ek (i-n) t
def Akf(m n A:Nat):Nat:=(2*((n+m)*A))^(n+m-1)
theorem A1j{s t:G}{m n A:Nat}(hs:F s=m+1)(o:F t=n+1)(Z:1<=m)(lt:Cw t)(D:Gz [1] s t)(E:∀ i,I (H s i 0)<=A)(J:∀ i,I (H t i 0)<=A)(K:0<A) :
  ∃ (g h:G) (f:Int),f ≠ 0/\(∀ x,pq g x*pq s x+pq h x*pq t x=(f:Rat))/\F h=m/\∀ c∈h,I c<=Akf m n A:=by
 obtain⟨d,f,hd,⟨k,a1,B⟩,L⟩:=Yc (uA s t n) (n+m) A (fun i j=>by
  unfold uA;split
  ·rw[Db];split
   ·exact E _
   ·simp
  ·rw[Db];split
   ·exact J _
   ·simp) K (by omega) (fun i hi=>by
  unfold uA;split
  ·rw[I_];omega
  ·rw[I_];omega)
 have l:∀ x,Ah ((Ay n).map d) x*Ah s x+Ah ((Ay m).map fun i=>d (n+i)) x*Ah t x=f:=by
  intro x;rw[<- L x,WV,<- Mp,<- Mp,<- P4,<- P4];congr 1
  ·apply Nv;intro i hi;unfold uA;rw[Ar hi,Er,Bm]
  ·apply Nv;intro i hi;unfold uA;rw[Aw (by omega),Er,show n+i-n=i by omega,Bm]
 refine⟨(Ay n).map d,(Ay m).map fun i=>d (n+i),f,?_,fun x=>VB l x,by simp,?_⟩
 ·intro M;rw[M] at l;have N:∀ i,H ((Ay n).map d) i 0=if i<n then d i else 0:=fun i=>JW d n i;have O:∀ i,H ((Ay m).map fun i=>d (n+i)) i 0=if i<m then d (n+i) else 0:=fun i=>JW (fun i=>d (n+i)) m i;have lU:F ((Ay n).map d)=n:=by simp
  generalize (Ay n).map d=g at *
  generalize ((Ay m).map fun i=>d (n+i))=h at *
  obtain⟨_,_,c,u,v,hc,P⟩:=D;have Q:Dv t g:=by
   refine⟨c,EQ (Cg v g) (AM (-1) (Cg u h)),hc,fun x => ?_⟩;have h1:=P x;have h3:=l x;rw[CD,B8,AN,B8];have R:Ah [1] x=1:=by simp[Ah]
   rw[R,DQ] at h1;rw[h1];generalize Ah u x=a at *
   generalize Ah v x=b at *
   generalize Ah g x=y at *
   generalize Ah h x=w at *
   generalize Ah s x=z at *
   generalize Ah t x=r at *
   have S:y*z = -(w*r):=by omega
   have T:(a*z+b*r)*y=a*(y*z)+b*r*y:=by grind
   rw[T,S];grind
  have C:Af g=[]:=by
   apply A6;intro hz;have:=(Q.length hz).1;rw[lt,o] at this;have:=Ct g;omega
  have U:=DY.1 C;have V:∀ x,Ah g x=0:=fun x=>by rw[<- EU,C];rfl
  have W:=Qh (p:=t) (q:=h) (by rw[lt];intro e;rw[e] at o;simp at o) (fun x=>by
   have:=l x;rw[V x] at this;rw[AT];omega)
  have X:∀ i,H h i 0=0:=fun i=>by
   have:=Eb (p:=h) (q:=[]) (fun x=>by rw[W x];rfl) i;rw[this];rfl
  by_cases Y:k<n
  ·have:=N k;rw[U k,Ar Y] at this;exact B this.symm
  ·have:=O (k-n);rw[X,Ar (by omega),show n+(k-n)=k by omega] at this;exact B this.symm
 ·intro c hc;obtain⟨i,_,rfl⟩:=DI.1 hc;exact hd _
def WZ(m n A a:Nat):Nat:=Akf m n A*zV a m*(A*zD a (n+1))
theorem AIr{s t i j:G}{h:Int}{A f k:Nat}{a b e u w:Rat}(l:h ≠ 0)(m:∀ x,pq i x*pq s x+pq j x*pq t x=(h:Rat))(n:∀ c∈t,I c<=A)(o:∀ c∈j,I c<=f)
  (d:Bd a k) (hb:Bd b k) (p:Bd (pq s a) e) (q:Bd (pq t b) e) (r:Bd (pq i a) u) (v:Bd (b-a) w):1<=u*e+(f*zV k (F j))*(e+w*(A*zD k (F t))):=by
 have h1:=m a;have D:=NJ a b t;have y:=Uy d hb t n;have z:=Qn d j o;have B:Bd (pq t a) (e+w*(A*zD k (F t))):=by
  have:=q.sub (v.mul y);have C:pq t a=pq t b-(b-a)*dD t a b:=by grind
  rw[C];exact this
 have hb:=(r.mul p).add (z.mul B);rw[h1] at hb;unfold Bd at hb;have E:(1:Rat)<=(h:Rat)\/(h:Rat) <= -1:=by
  rcases Hd l with g | g
  ·right;have:=C6.2 (show h <= -1 by omega);simpa using this
  ·left;have:=C6.2 (show (1:Int)<=h by omega);simpa using this
 grind
theorem Acj(a s:Int):((s+1:Int):Rat) / (a:Rat)-(s:Rat) / (a:Rat)=1 / (a:Rat):=by
 rw[MV];simp;grind
theorem ACu(a:Int)(b:0<a):Bd (1 / (a:Rat)) (1 / (a:Rat)):=by
 have c:=NK b;have:0<1 / (a:Rat):=by
  rw[ABh,ABi];exact ABj.2 c
 unfold Bd;constructor <;> grind
theorem Ye{f:G}{A X:Nat}{z a:Int}(b:0<a)(d:∀ c∈f,I c<=A)(h1 : -(X*a)<=z)(h2:z+1<=X*a)(h:Hh f z a*Hh f (z+1) a<=0){E:Nat}(g:A*zD X (F f)<=E):Bd (pq f ((z:Rat) / (a:Rat))) (1 / (a:Rat)*(E:Nat)):=by
 have i:=Mq (X:=X) b (z:=z) h1 (by omega);have j:=Mq (X:=X) b (z:=z+1) (by omega) h2;have k:=NJ ((z:Rat) / (a:Rat)) (((z+1:Int):Rat) / (a:Rat)) f;have l:=Uy i j f d;have m:Bd (dD f ((z:Rat) / (a:Rat)) (((z+1:Int):Rat) / (a:Rat))) (E:Nat):=l.mono (by
  rw[<- IL];have:=C6.2 (AHn.2 g);rw[EG,EG] at this;exact this)
 refine WX (Qo b h) ?_;have e:pq f (((z+1:Int):Rat) / (a:Rat))-pq f ((z:Rat) / (a:Rat))=1 / (a:Rat)*dD f ((z:Rat) / (a:Rat)) (((z+1:Int):Rat) / (a:Rat)):=by rw[k,Acj a];grind
 rw[e];exact (ACu a b).mul m
theorem A1k{i D q c K w M:Rat}(hi:i*D=1)(b:D=c*q)(d:0<q)(hc:K+1<=c)(j:0<=K)(k:w*M*q+1<=q)(h:1<=K*i+w*M):False:=by
 have a:0<c:=by grind
 have f:(i*q)*c=1:=by rw[<- hi,b];grind
 have hj:0<i*q:=by
  apply A6;intro hn;have:=G6 (show 0 <= -(i*q) by grind) (Jh a);grind
 have h1:=G6 (show 0<=K*i+w*M-1 by grind) (Jh d);have h2:1<=K*(i*q):=by grind
 have g:=G6 (show 0<=K*(i*q)-1 by grind) (Jh a);have l:c<=K:=by
  have e:(K*(i*q)-1)*c=K*((i*q)*c)-c:=by grind
  rw[e,f] at g;grind
 grind
theorem uB{d f:G}(h1:Af d ≠ [])(h2:Af f ≠ [])(V:Gz [1] (O d) (O f)){m n A X:Nat}(W:F (O d)=m+1)(hn:F (O f)=n+1)(m1:1<=m)(C:∀ i,I (H (O d) i 0)<=A)(J:∀ i,I (H (O f) i 0)<=A)(Y:0<A)
  {x y q:Int} (k:0<q) (L:x<=y) (hx : -(X*q)<=x) (hy:y<=X*q) (Z:1<=wq d x q-wq d y q) (a1:1<=wq f x q-wq f y q):q<=(y-x)*(WZ m n A X:Nat):=by
 obtain⟨c1,b1,k1⟩:=iW d h1 k L Z;obtain⟨h,b2,k2⟩:=iW f h2 k L a1;obtain⟨lt,_⟩:=C7 h2;obtain⟨b,e,a,hR,a2,a3,a4⟩:=A1j W hn m1 lt V C J Y;generalize O d=s at *
 generalize O f=t at *
 obtain⟨Au,a5⟩:=Acd b;have a6:∀ c∈s,I c<=A:=fun c hc=>by obtain⟨i,rfl⟩:=Tc hc;exact C i
 have N:∀ c∈t,I c<=A:=fun c hc=>by obtain⟨i,rfl⟩:=Tc hc;exact J i
 generalize hE:A*zD X (F s)+A*zD X (F t)=E;generalize hv:Akf m n A*zV X (F e)=v;generalize hu:Au*zV X (F b)=u;generalize hK:(u+v)*E=K;have a7:(0:Int)<((K+1:Nat):Int):=by omega
 have a8:(0:Int)<c1+h:=by omega
 have g1:(c1+h)<=(c1+h)*((K+1:Nat):Int):=by
  have:=Ax (show (1:Int)<=((K+1:Nat):Int) by omega) (A9 a8);omega
 have g2:((K+1:Nat):Int)<=(c1+h)*((K+1:Nat):Int):=by
  have:=Ap (show (1:Int)<=c1+h by omega) (A9 a7);omega
 generalize (c1+h)*((K+1:Nat):Int)=c at *
 have l:0<c:=by omega
 obtain⟨z,z1,z2,fz⟩:=k1 c (by omega);obtain⟨w,w1,w2,fw⟩:=k2 c (by omega);have j:0<c*q:=Br l k;have sx:=Ax hx (A9 l);have sy:=Ax hy (A9 l);have ex:c * -(X*q) = -(X*(c*q)):=by grind
 have ey:c*(X*q)=X*(c*q):=by grind
 rw[ex] at sx;rw[ey] at sy;have b3:(c*q:Int)=c*q:=rfl;have d1:w-z<=c*(y-x):=by rw[Gs];omega
 have d2 : -(c*(y-x))<=w-z:=by rw[Gs];omega
 generalize P:c*q=D at *
 have Q:=Mq (X:=X) j (z:=z) (by omega) (by omega);have bb:=Mq (X:=X) j (z:=w) (by omega) (by omega);have sa:=Ye (X:=X) j a6 (by omega) (by omega) fz (E:=E) (by omega);have tb:=Ye (X:=X) j N (by omega) (by omega) fw (E:=E) (by omega);have bU:=Qn Q b a5;have R:=NK j;have a9:=NK k;have b0:Bd ((w:Rat) / (D:Rat)-(z:Rat) / (D:Rat)) (((y-x:Int):Rat) / (q:Rat)):=by
  have S:=C6.2 d1;have T:=C6.2 d2;have eD:(D:Rat)=(c:Rat)*(q:Rat):=by rw[<- P,DL]
  rw[Axy,DL,yP w z] at T;rw[DL,yP w z] at S;have o:((w:Rat) / (D:Rat)-(z:Rat) / (D:Rat))*(D:Rat)=(w:Rat)-(z:Rat):=by grind
  have p:((y-x:Int):Rat) / (q:Rat)*(D:Rat)=(c:Rat)*((y-x:Int):Rat):=by rw[eD];grind
  generalize (w:Rat) / (D:Rat)-(z:Rat) / (D:Rat)=g at *
  generalize ((y-x:Int):Rat) / (q:Rat)=r at *
  rw[<- o,<- p] at S T;generalize (D:Rat)=D' at *
  unfold Bd;constructor
  ·apply A6;intro hn;have:=JH (show 0 < -r-g by grind) R;grind
  ·apply A6;intro hn;have:=JH (show 0<g-r by grind) R;grind
 have hh:=AIr hR a2 N a4 Q bb sa tb bU b0;apply Ma.1;intro b4;have B:=C6.2 (show (y-x)*(WZ m n A X:Nat)+1<=q by omega);rw[MV,DL] at B;have eM:((WZ m n A X:Nat):Rat)=(v:Rat)*((A:Rat)*(zD X (F t):Nat)):=by
  unfold WZ;rw[<- hv,a3,hn];simp only[IL]
 have ev:(v:Rat)=(Akf m n A:Nat)*(zV X (F e):Nat):=by rw[<- hv,IL]
 have eu:(u:Rat)=(Au:Rat)*(zV X (F b):Nat):=by rw[<- hu,IL]
 have eK:(K:Rat)=((u:Rat)+(v:Rat))*(E:Rat):=by rw[<- hK,IL,UV]
 rw[<- ev,<- eu] at hh;have o:((y-x:Int):Rat) / (q:Rat)*(q:Rat)=((y-x:Int):Rat):=by grind
 have U:=C6.2 g2;refine A1k (i:=1 / (D:Rat)) (D:=(D:Rat)) (q:=(q:Rat)) (c:=(c:Rat)) (K:=(K:Rat)) (w:=((y-x:Int):Rat) / (q:Rat)) (M:=((WZ m n A X:Nat):Rat)) (by grind) (by rw[<- P,DL]) a9 ?_ ?_ ?_ ?_
 ·rw[EG,UV] at U;simpa using U
 ·exact Rat.natCast_nonneg
 ·have p:((y-x:Int):Rat) / (q:Rat)*((WZ m n A X:Nat):Rat)*(q:Rat)=((y-x:Int):Rat)*((WZ m n A X:Nat):Rat):=by
   generalize ((y-x:Int):Rat) / (q:Rat)=r at *
   rw[<- o];grind
  rw[p];have e3:(((WZ m n A X:Int)):Rat)=((WZ m n A X:Nat):Rat):=EG _;rw[e3] at B;simpa using B
 ·rw[eK,eM];generalize ((y-x:Int):Rat) / (q:Rat)=r at *
  generalize 1 / (D:Rat)=i at *
  grind
theorem uC{s t:G}(hs:Af s ≠ [])(h:F (Ch s t)<2):Gz [1] s t:=by
 have d:=Hm (t:=t) hs;have h1:=Av.2 d;obtain⟨c,hc⟩:=P3 (g:=Ch s t) (by omega);have a:=Lx (t:=t) hs;have b:=Gd s t;rw[hc] at b a;have e:c ≠ 0:=by
  intro z;rw[z] at a;exact absurd a (by decide)
 exact Gz.gscaled (m:=c) (n:=1) e (by decide) (fun x=>by simp[Ah]) b
theorem Anb{p:G}(hp:Af p ≠ []):Gz [1] (O p) (AE (O p)):=by
 obtain⟨lf,_,_,a,_,_,_,h⟩:=C7 hp;exact uC (Ca lf a) (by omega)
theorem A1l{f g k:G}{c:Int}(hc:c ≠ 0)(h:∀ x,c*Ah f x=Ah g x*Ah k x)(m:Gz [1] f (AE f)):Gz [1] g k/\Gz [1] g (AE g)/\Gz [1] k (AE k):=by
 obtain⟨_,_,c0,u,v,d,e⟩:=m;have hd:∀ x,c*Ah (AE f) x=Ah (AE g) x*Ah k x+Ah g x*Ah (AE k) x:=fun x=>by
  rw[<- IZ];exact NH (fun x=>by rw[AN];exact h x) x
 have o:∀ x,Ah [1] x=1:=fun x=>by simp[Ah]
 refine⟨⟨O4 _,O4 _,c0*c,EQ (Cg u k) (Cg v (AE k)),Cg v (AE g),Bv d hc,fun x => ?_⟩,⟨O4 _,O4 _,c0*c,EQ (Cg u k) (Cg v (AE k)),Cg v k,Bv d hc,fun x => ?_⟩,⟨O4 _,O4 _,c0*c,EQ (Cg u g) (Cg v (AE g)),Cg v g,Bv d hc,fun x => ?_⟩⟩;all_goals
  have l:=e x;have n:=h x;have p:=hd x;rw[o,DQ] at l;simp only[o,DQ,CD,B8];generalize Ah u x=i at *
  generalize Ah v x=j at *
  generalize Ah f x=a at *
  generalize Ah (AE f) x=F' at *
  generalize Ah g x=b at *
  generalize Ah (AE g) x=G' at *
  generalize Ah k x=K at *
  generalize Ah (AE k) x=r at *
  rw[l];have q:(i*a+j*F')*c=i*(c*a)+j*(c*F'):=by grind
  rw[q,n,p];grind
theorem uD{k:G}(c:Af k ≠ [])(h:Gz [1] k (AE k)):∃ m n:Int,m ≠ 0/\n ≠ 0/\∀ x,m*Ah (O k) x=n*Ah k x:=by
 obtain⟨d,a0,_,_,_,m,a,n,hn,b⟩:=RY c;have f:Gz [1] (y (prim k)) (AE (y (prim k))):=Gz.scaled (m:=m) (n:=n) (k:=m) (l:=n) a hn a hn (fun x=>(b x).symm) (fun x=>(Qj b x).symm) h;have g:=(Gd (y (prim k)) (AE (y (prim k)))).length f (by rw[show Af (Ch (y (prim k)) (AE (y (prim k))))=_ from El _ _];exact Hm (Ca d a0));rw[show Af (Ch (y (prim k)) (AE (y (prim k))))=_ from El _ _] at g;have i:F (Af [1])=1:=rfl;have e:O k=y (prim k):=by
  unfold O;rw[Ar (TQ (by omega))]
 exact⟨m,n,a,hn,fun x=>by rw[e];exact (b x).symm⟩
theorem aQ{f g k:G}{c:Int}(hc:c ≠ 0)(h:∀ x,c*Ah f x=Ah g x*Ah k x)(a:Af f ≠ []):Af k ≠ []:=by
 intro h1;apply a;have e:Af (AM c f)=Af []:=Ic fun x=>by rw[AN,h x,ES h1,Be];rfl
 have h2:=JX hc f;rw[e] at h2;exact AU h2.symm
structure Cof (p q k:List Int):Prop where
 nz:Af k ≠ []
 gz:Af (Ch (O p) q) ≠ []
 mul:∃ c d:Int,c ≠ 0/\d ≠ 0/\∀ x,c*Ah (O p) x=d*(Ah (O (Ch (O p) q)) x*Ah (O k) x)
 one:Gz [1] (O (Ch (O p) q)) (O k)
 two:Gz [1] (O k) (O q)
 dv:Dv (O k) (O p)
theorem iX{p q:G}(hp:Af p ≠ [])(T:Af q ≠ []):∃ k,Cof p q k:=by
 obtain⟨lf,_,_,U,_⟩:=C7 hp;have J:=Ca lf U;have V:=Anb hp;have W:=Gd (O p) q;have K:Af (Ch (O p) q) ≠ []:=by rw[show Af (Ch (O p) q)=_ from El _ _];exact Hm J
 generalize D:Ch (O p) q=e at *
 obtain⟨⟨c,k,hc,t⟩,_,d,u,v,X,Y⟩:=W;obtain⟨L,Z,g3⟩:=A1l hc t V;have M:=aQ hc t J;obtain⟨m1,E,N,P,Q⟩:=uD K Z;obtain⟨n,r,F,B,C⟩:=uD M g3;obtain⟨_,_,_,_,⟨m,j,a4,e5⟩,_⟩:=C7 T;refine⟨k,⟨M,by rw[D];exact K,⟨E*r*c,m1*n,Bv (Bv P B) hc,Bv N F,fun x => ?_⟩,?_,?_,?_⟩⟩
 ·rw[D];have H:=Q x;have w:=C x;have s:=t x;generalize Ah (O p) x=b at *
  generalize Ah (O e) x=A at *
  generalize Ah (O k) x=a at *
  generalize Ah e x=A' at *
  generalize Ah k x=B' at *
  have y:m1*n*(A*a)=(m1*A)*(n*a):=by grind
  have z:E*r*c*b=E*r*(c*b):=by grind
  rw[y,H,w,z,s];grind
 ·rw[D];exact Gz.scaled N P F B Q C L
 ·obtain⟨_,_,R,I,S,a6,e3⟩:=L;have a7:Gz [1] k (O q):=by
   refine⟨O4 _,O4 _,m*(c*d*R),AM m (EQ (Cg (Cg I u) e) (AM (c*d) S)),AM c (Cg (Cg I v) j),Bv a4 (Bv (Bv hc X) a6),fun x => ?_⟩;have H:=t x;have w:=Y x;have s:=e3 x;have a5:=e5 x;simp only[AN,CD,B8];have o:Ah [1] x=1:=by simp[Ah]
   rw[o,DQ] at s |-;generalize Ah (O p) x=b at *
   generalize Ah (O q) x=g at *
   generalize Ah e x=A at *
   generalize Ah k x=a at *
   generalize Ah q x=l at *
   generalize Ah u x=h at *
   generalize Ah v x=i at *
   generalize Ah I x=U' at *
   generalize Ah S x=V' at *
   generalize Ah j x=f at *
   have y:m*(c*d*R)=m*(U'*(c*(d*A))+c*d*(V'*a)):=by rw[s];grind
   have z:c*(h*b+i*l)=h*(c*b)+c*(i*l):=by grind
   have b3:m*(U'*(h*(A*a)+c*(i*l))+c*d*(V'*a))=m*(U'*h*A+c*d*V')*a+c*(U'*i)*(m*l):=by grind
   rw[y,w,z,H,b3,a5];grind
  exact Gz.scaled F B (by decide:(1:Int) ≠ 0) (by decide:(1:Int) ≠ 0) C (fun _=>rfl) a7
 ·refine⟨r*c,AM n e,Bv B hc,fun x => ?_⟩;have w:=C x;have s:=t x;rw[AN];generalize Ah (O p) x=b at *
  generalize Ah (O k) x=a at *
  generalize Ah e x=A' at *
  generalize Ah k x=B' at *
  have y:a*(n*A')=(n*a)*A':=by grind
  have z:r*c*b=r*(c*b):=by grind
  rw[y,w,z,s];grind
def gapA:Nat:=2^100*8^9*17^6
theorem uE{r:G}{x y a:Int}(h:1<=wq r x a-wq r y a):2<=F (O r):=by
 apply A6;intro g;have e:∀ z,wq r z a<=0:=by
  intro z;unfold wq D2;by_cases b:O r=[]
  ·rw[Ar b];exact DO _
  ·rw[Aw b];have hz:prim (AE (O r))=[]:=by
    rw[EM];intro i;rw[Ej,Cp (by omega),Cs]
   have c:F (O r)=1:=by have:=Av.2 b;omega
   have e:Jm (F (O r)) (O r) (prim (AE (O r)))=[]:=by rw[c,hz];rfl
   rw[e];exact aP (CM (Hh (O r) z a)) []
 have d:0<=wq r y a:=NL _ _;have:=e x;omega
theorem oB{p q:G}(hp:Af p ≠ [])(f:Af q ≠ []){x y a:Int}(b:0<a)(e:x<=y):wq (Ch (O p) q) x a-wq (Ch (O p) q) y a<=wq p x a-wq p y a:=by
 obtain⟨s,hs⟩:=iX hp f;obtain⟨c,d,hc,hd,g⟩:=hs.mul;have h:=iV hc hd hp hs.gz hs.nz g hs.one b e;have:wq s y a<=wq s x a:=Mo s b e;omega
theorem Ack{t:G}(c:Af t ≠ [])(d:F t<=8):∃ l:G,l.Nodup/\F l=6/\∀ x∈l,I x<=6/\Ah t x ≠ 0:=by
 obtain⟨a,b,e,g⟩:∃ a:G,a.Nodup/\(∀ x∈a,I x<=6)/\F a=13:=⟨[-6,-5,-4,-3,-2,-1,0,1,2,3,4,5,6],by decide,by decide,rfl⟩;have f:=Ain (fun x=>decide (Ah t x=0)) (l:=a);rw[JJ,JJ] at f;have i:F (a.filter fun x=>decide (Ah t x=0))<=7:=by
  apply QY;intro h;apply c;rw[DY];exact Z' 8 t (a.filter fun x=>decide (Ah t x=0)) d (b.filter _) (fun x hx=>by simpa using (DR.1 hx).2) (by omega)
 refine⟨(a.filter fun x=>decide ¬ (E (Ah t x=0))=true).take 6,(b.filter _).sublist (AJu _ _),?_,?_⟩
 ·rw[AX];omega
 ·intro x hx;obtain⟨h1,h2⟩:=DR.1 (C5 hx);exact⟨e x h1,by simpa using h2⟩
theorem ACv{t g k:G}{P:Nat}(e:Af t ≠ [])(d:F t<=8)(f:F g<=6)(j:∀ i,I (H t i 0)<=P)(h:∀ x,Ah t x=Ah g x*Ah k x):∀ i,I (H g i 0)<=P*7^8*15^5:=by
 obtain⟨l,m,n,o⟩:=Ack e d;exact XY (R:=6) 5 g l (P*7^8) f m n (fun x hx=>by
  obtain⟨a,b⟩:=o x hx;refine⟨a,?_⟩;have h2:=WQ (R:=6) t x j a;have c:=congrArg I (h x);rw[C1] at c;have p:1<=I (Ah k x):=by
   rcases Gk (I (Ah k x)) with g | g
   ·rw[g,rD] at c;omega
   ·exact g
  have q:=Dn (I (Ah g x)) p;have r:P*7^F t<=P*7^8:=Bu _ (B_ (by decide) d);exact B6 (B6 q (Nat.le_of_eq c.symm)) (B6 h2 r)) (fun x _ y _ s=>by omega)
def VE(n P:Nat):Nat:=if 6<=n then 8*P else P*7^8*15^5
theorem VF(n P:Nat):VE n P<=P*7^8*15^5/\P<=VE n P:=by
 unfold VE;have h1:8*P<=P*7^8*15^5:=by
  rw[Gj,Du 8 P];exact Bu _ (by decide)
 split <;> omega
theorem iY{p f:G}(hp:Af p ≠ [])(n:F p<=8){P:Nat}(h:∀ i,I (H p i 0)<=P)(lf:Cw f)(o:B5 f=1)(hd:Dv f p):(∀ i,I (H f i 0)<=VE (F f-1) P)/\F f<=F p:=by
 have h1:=(hd.length hp).1;have r:=(hd.length hp).2;have h2:=Ct p;rw[lf] at h1;refine⟨?_,by omega⟩;obtain⟨c,k,hc,s⟩:=hd;obtain⟨a,b⟩:=RX hc o s;have g:Af a ≠ []:=by
  intro z;have:Af p=[]:=by
   rw[DY];have:=Eb (p:=p) (q:=[]) (fun x=>by rw[b x,<- EU a,z];simp[Ah]);intro i;rw[this i];rfl
  exact hp this
 have w:=Mm r g;have e:=Ic (p:=p) (q:=Cg f a) (fun x=>by rw[b x,B8]);rw[<- e,lf] at w;have B:=Av.2 g;have j:∀ x,Ah p x=Ah f x*Ah (Af a) x:=fun x=>by rw[b x,EU]
 obtain⟨_,c1⟩:=VF (F f-1) P;by_cases h1:F (Af a)=1
 ·obtain⟨d,hd⟩:=P3 h1;have C:d ≠ 0:=by
   intro z;have:=EN (GI a) g;rw[hd,z] at this;exact this rfl
  have y:=Eb (p:=p) (q:=AM d f) (fun x=>by rw[j x,hd,AN];simp only[Ah];grind);intro i;have l:=h i;rw[y i,Bt,C1] at l;exact B6 (B6 (gB _ (by omega)) l) c1
 ·unfold VE;split
  ·have h2:F (Af a)=2:=by omega
   obtain⟨v,u,m⟩:∃ v u,Af a=[v,u]:=by
    match D:Af a,h2 with
    | [v,u],_=>exact⟨v,u,rfl⟩
   have A:u ≠ 0:=by
    have:=EN (GI a) g;rw[m] at this;exact this
   exact Acf (f:=f) (t:=p) (N:=7) A (by omega) h (fun x=>by rw[j x,m])
  ·exact ACv hp n (by omega) h b
structure Enp (p:List Int):Prop where
 ne:Af p ≠ []
 len:p.length<=8
 co:∀ i,(p.getD i 0).natAbs<=2^113
theorem AIt:∀ e,e=744->∀ n,2<=n->n<=7->Mz n (VE n (2^113)) 1<4^e:=by
 intro e c n h2 d;have a:((Ay 6).all fun n=>Gx (Mz (n+2) (VE (n+2) (2^113)) 1) (4^e))=true:=by
  subst c;kernel_rfl
 rw[CG] at a;have b:=a (n-2) (Hf.2 (by omega));rw[show n-2+2=n by omega] at b;rwa [Nat.blt_eq] at b
def oC(m n:Nat):Nat:=if 6<=m/\6<=n then 8*2^113 else 2^113*7^8*15^5
theorem ACw(m n:Nat):VE m (2^113)<=oC m n/\VE n (2^113)<=oC m n/\0<oC m n:=by
 have a:=VF m (2^113);have b:=VF n (2^113);have c:0<2^113*7^8*15^5:=by decide
 unfold oC;split
 next h=>unfold VE;rw[Ar h.1,Ar h.2];exact⟨A2 _,A2 _,by decide⟩
 ·exact⟨a.1,b.1,c⟩
theorem ACx:∀ e,e=1920->∀ m,m<=7->∀ n,n<=7->WZ m n (oC m n) 1<2^e:=by
 intro e c m f n hn;have a:((Ay 8).all fun m=>(Ay 8).all fun n=>Gx (WZ m n (oC m n) 1) (2^e))=true:=by
  subst c;kernel_rfl
 rw[CG] at a;have b:=a m (Hf.2 (by omega));rw[CG] at b;have d:=b n (Hf.2 (by omega));rwa [Nat.blt_eq] at d
theorem Enp.free{p g:G}(hp:Enp p)(c:Af g ≠ [])(hd:Dv (O g) (O p)):(∀ i,I (H (O g) i 0)<=VE (F (O g)-1) (2^113))/\F (O g)<=8:=by
 obtain⟨d,e,_⟩:=C7 c;obtain⟨_,_,_,_,f,_⟩:=C7 hp.ne;obtain⟨a,b⟩:=iY hp.ne hp.len hp.co d e (hd.trans f);exact⟨a,by have:=hp.len;omega⟩
theorem Enp.one{p:G}(hp:Enp p){x y q:Int}(a:0<q)(i:x<=y)(hx:0<=x)(hy:y<=q){k:Nat}(j:744<=k)(c:(y-x)*2^k<=q):wq p x q-wq p y q<=1:=by
 apply A6;intro hn;unfold wq at hn;have l:3<=F (O p):=by
  apply A6;intro g;have t:=Amz (p:=p) (by omega) x q;have u:=NL (EH (D2 p) y q) 0;omega
 obtain⟨n,d⟩:∃ n,F (O p)=n+1:=⟨F (O p)-1,by omega⟩;obtain⟨hb,v⟩:=hp.free hp.ne (Dv.refl _);rw[d,HQ] at hb;have m:0<VE n (2^113):=Dg (by decide) (VF n (2^113)).2;have hs:=Ace hp.ne d (by omega) hb m (X:=1) (by decide) a i (by show -(1*q)<=x;omega) (by show y<=1*q;omega) (by omega);obtain⟨e,f⟩:∃ e,e=744:=⟨_,rfl⟩;have num:=AIt e f n (by omega) (by omega);rw[<- f] at j;generalize Mz n (VE n (2^113)) 1=M at *
 have b:(0:Int)<2^k:=FP (by decide);have w:(M:Int)<2^k*2^k:=by
  have o:M<2^k*2^k:=by
   rw[<- Dw];have:(4:Nat)^e=2^(e+e):=by rw[show (4:Nat)=2*2 from rfl,Nat.mul_pow,<- Dw]
   rw[this] at num;exact Dg num (B_ (by decide) (by omega))
  have h:=Axr.2 o;rw[Eg,Ea] at h;exact h
 have r:=Fk c c (A8 (by omega) (A9 b)) (A9 a);have h1:=Ap hs (A9 (Br b b));have s:(y-x)*(y-x)*(M:Int)*(2^k*2^k)=((y-x)*2^k)*((y-x)*2^k)*(M:Int):=by grind
 rw[s] at h1;have h2:=FC h1 (Ap r (show (0:Int)<=(M:Int) by omega));have l:=Fu h2 (Br a a);omega
theorem Enp.meet{p q:G}(hp:Enp p)(f:Af q ≠ [])(l:∀ i,I (H (O q) i 0)<=VE (F (O q)-1) (2^113))(K:F (O q)<=8){x y a:Int}(b:0<a)(g:x<=y)(hx:0<=x)(hy:y<=a){k:Nat}(o:1920<=k)(r:(y-x)*2^k<=a)(h1:1<=wq p x a-wq p y a)(h2:1<=wq q x a-wq q y a) :
  1<=wq (Ch (O p) q) x a-wq (Ch (O p) q) y a:=by
 obtain⟨s,hs⟩:=iX hp.ne f;obtain⟨c,d,hc,hd,t⟩:=hs.mul;have L:=iV hc hd hp.ne hs.gz hs.nz t hs.one b g;apply A6;intro hn;have h:1<=wq s x a-wq s y a:=by omega
 obtain⟨u,N⟩:=hp.free hs.nz hs.dv;have P:=uE h;have Q:=uE h2;obtain⟨v,w,z⟩:=ACw (F (O s)-1) (F (O q)-1);have B:=uB (X:=1) hs.nz f hs.two (m:=F (O s)-1) (n:=F (O q)-1) (A:=oC (F (O s)-1) (F (O q)-1)) (by omega) (by omega) (by omega) (fun i=>B6 (u i) v) (fun i=>B6 (l i) w) z b g (by show -(1*a)<=x;omega) (by show y<=1*a;omega) h h2;obtain⟨e,C,num⟩:∃ e,e<=k/\WZ (F (O s)-1) (F (O q)-1) (oC (F (O s)-1) (F (O q)-1)) 1<2^e:=⟨1920,o,ACx _ rfl _ (by omega) _ (by omega)⟩;generalize WZ (F (O s)-1) (F (O q)-1) (oC (F (O s)-1) (F (O q)-1)) 1=M at *
 have D:(0:Int)<2^k:=FP (by decide);have E:(M:Int)<2^k:=by
  have J:M<2^k:=Dg num (B_ (by decide) C);have j:=Axr.2 J;rw[Ea] at j;exact j
 have R:=Ap B (A9 D);have S:=Ap r (show (0:Int)<=(M:Nat) by omega);have T:=J0 E b;have U:(y-x)*(M:Nat)*2^k=(y-x)*2^k*(M:Nat):=BE ..;omega
theorem Enp.meet_free{p q:G}(hp:Enp p)(b:Enp q){x y a:Int}(d:0<a)(f:x<=y)(hx:0<=x)(hy:y<=a){k:Nat}(g:1920<=k)(h:(y-x)*2^k<=a)(h1:1<=wq p x a-wq p y a)(h2:1<=wq q x a-wq q y a) :
  1<=wq (Ch (O p) (O q)) x a-wq (Ch (O p) (O q)) y a:=by
 obtain⟨i,j⟩:=b.free b.ne (Dv.refl _);have c:=C7 b.ne;have e:O (O q)=O q:=V7 b.ne;have r:∀ z,wq (O q) z a=wq q z a:=fun z=>by unfold wq D2;rw[e]
 exact hp.meet (Ca c.1 c.2.2.2.1) (by rw[e];exact i) (by rw[e];exact j) d f hx hy g h h1 (by rw[r,r];exact h2)
theorem A1m:2^113*7^8*15^5<=2^156:=by decide
theorem Enp.div{p g:G}(hp:Enp p)(c:Cw g)(d:B5 g=1)(hd:Dv g p):(∀ i,I (H g i 0)<=2^156)/\F g<=8:=by
 obtain⟨a,b⟩:=iY hp.ne hp.len hp.co c d hd;exact⟨fun i=>B6 (a i) (B6 (VF _ _).1 A1m),by have:=hp.len;omega⟩
def bv(u v:Int):Nat->(Nat->Int)->Int
 | 0,f=>f 0
 | n+1,f=>v*bv u v n f+u*bv u v n fun i=>f (i+1)
theorem HL(u v:Int):∀ {n:Nat} {f g:Nat->Int},(∀ i,i<=n->f i=g i)->bv u v n f=bv u v n g
 | 0,_,_,h=>h 0 (A2 _)
 | n+1,_,_,h=>by
  unfold bv;rw[HL u v (fun i hi=>h i (by omega)),HL u v (fun i hi=>h (i+1) (by omega))]
theorem Te(u v:Int):∀ (n:Nat) (f g:Nat->Int),bv u v n (fun i=>f i+g i)=bv u v n f+bv u v n g
 | 0,_,_=>rfl
 | n+1,f,g=>by
  unfold bv;rw[Te u v n f g,Te u v n (fun i=>f (i+1)) (fun i=>g (i+1))];grind
theorem Tf(u v c:Int):∀ (n:Nat) (f:Nat->Int),bv u v n (fun i=>c*f i)=c*bv u v n f
 | 0,_=>rfl
 | n+1,f=>by
  unfold bv;rw[Tf u v c n f,Tf u v c n (fun i=>f (i+1))];grind
theorem Sa(u v:Int):∀ {n:Nat} {f:Nat->Int},(∀ i,i<=n->f i=0)->bv u v n f=0
 | 0,_,h=>h 0 (A2 _)
 | n+1,_,h=>by
  unfold bv;rw[Sa u v (fun i hi=>h i (by omega)),Sa u v (fun i hi=>h (i+1) (by omega))];simp
theorem aR{u v:Int}(a:0<=u)(hv:0<=v):∀ {n:Nat} {f:Nat->Int},(∀ i,i<=n->f i<=0)->bv u v n f<=0
 | 0,_,h=>h 0 (A2 _)
 | n+1,f,h=>by
  unfold bv;have h1:=aR a hv (n:=n) (f:=f) (fun i hi=>h i (by omega));have h2:=aR a hv (n:=n) (f:=fun i=>f (i+1)) (fun i hi=>h (i+1) (by omega));have:=A8 hv (show 0 <= -bv u v n f by omega);have:=A8 a (show 0 <= -bv u v n (fun i=>f (i+1)) by omega);grind
theorem A1n{u v:Int}(a:0<=u)(hv:0<=v){n:Nat}{f:Nat->Int}(h:∀ i,i<=n->0<=f i):0<=bv u v n f:=by
 have h1:=aR a hv (n:=n) (f:=fun i => -1*f i) (fun i hi=>by have:=h i hi;omega);rw[Tf] at h1;omega
theorem YQ{u v:Int}(a:0<u)(hv:0<v):∀ {n:Nat} {f:Nat->Int},(∀ i,i<=n->0<=f i)->(∃ i,i<=n/\0<f i)->0<bv u v n f
 | 0,f,_,⟨i,h1,h2⟩=>by
  have:i=0:=by omega
  subst this;exact h2
 | n+1,f,h,⟨i,h1,h2⟩=>by
  unfold bv;have b:=A1n (A9 a) (A9 hv) (n:=n) (f:=f) (fun i hi=>h i (by omega));have c:=A1n (A9 a) (A9 hv) (n:=n) (f:=fun i=>f (i+1)) (fun i hi=>h (i+1) (by omega));have m1:=A8 (A9 hv) b;have d:=A8 (A9 a) c;cases i with
  | zero =>
   have:=Br hv (YQ a hv (n:=n) (f:=f) (fun i hi=>h i (by omega)) ⟨0,by omega,h2⟩);omega
  | succ i =>
   have:=Br a (YQ a hv (n:=n) (f:=fun i=>f (i+1)) (fun i hi=>h (i+1) (by omega)) ⟨i,by omega,h2⟩);omega
theorem uF(u:Int):∀ (n:Nat) (f:Nat->Int),bv u 0 n f=u^n*f n
 | 0,f=>by simp[bv]
 | n+1,f=>by
  unfold bv;rw[uF u n (fun i=>f (i+1)),AD];grind
def Sb(n:Nat)(f:Nat->Int)(k:Nat):Int:=2^(n-k)*bv 1 1 k f
def Sd(n:Nat)(f:Nat->Int)(i:Nat):Int:=2^i*bv 1 1 (n-i) fun j=>f (j+i)
theorem Acl(u v:Int):∀ (n:Nat) (f:Nat->Int),bv u v n (Sb n f)=bv u (2*v+u) n f
 | 0,f=>by simp[bv,Sb]
 | n+1,f=>by
  have a:bv u v n (Sb (n+1) f)=2*bv u v n (Sb n f):=by
   rw[<- Tf];refine HL u v fun i hi => ?_;unfold Sb;rw[show n+1-i=(n-i)+1 by omega,AD];grind
  have b:bv u v n (fun i=>Sb (n+1) f (i+1))=bv u v n (Sb n f)+bv u v n (Sb n fun i=>f (i+1)):=by
   rw[<- Te];refine HL u v fun i hi => ?_;unfold Sb;rw[show n+1-(i+1)=n-i by omega];have:bv 1 1 (i+1) f=bv 1 1 i f+bv 1 1 i fun j=>f (j+1):=by simp[bv]
   rw[this];grind
  have c:bv u v (n+1) (Sb (n+1) f)=v*bv u v n (Sb (n+1) f)+u*bv u v n (fun i=>Sb (n+1) f (i+1)):=rfl;have d:bv u (2*v+u) (n+1) f=(2*v+u)*bv u (2*v+u) n f+u*bv u (2*v+u) n (fun i=>f (i+1)):=rfl;rw[c,d,a,b,Acl u v n f,Acl u v n (fun i=>f (i+1))];grind
theorem Acm(u v:Int):∀ (n:Nat) (f:Nat->Int),bv u v n (Sd n f)=bv (2*u+v) v n f
 | 0,f=>by simp[bv,Sd]
 | n+1,f=>by
  have e0:∀ i,i<=n->bv 1 1 (n+1-i) (fun j=>f (j+i))=bv 1 1 (n-i) (fun j=>f (j+i))+bv 1 1 (n-i) (fun j=>f (j+(i+1))):=by
   intro i hi;rw[show n+1-i=(n-i)+1 by omega];have:∀ g:Nat->Int,bv 1 1 (n-i+1) g=bv 1 1 (n-i) g+bv 1 1 (n-i) fun j=>g (j+1):=fun g=>by simp[bv]
   rw[this];congr 2;funext j;congr 1;omega
  have a:bv u v n (Sd (n+1) f)=bv u v n (Sd n f)+bv u v n (Sd n fun i=>f (i+1)):=by
   rw[<- Te];refine HL u v fun i hi => ?_;unfold Sd;rw[e0 i hi];have:(fun j=>f (j+i+1))=fun j=>f (j+(i+1)):=by funext j;congr 1
   simp only[this];grind
  have b:bv u v n (fun i=>Sd (n+1) f (i+1))=2*bv u v n (Sd n fun i=>f (i+1)):=by
   rw[<- Tf];refine HL u v fun i hi => ?_;unfold Sd;rw[show n+1-(i+1)=n-i by omega,AD];have:(fun j=>f (j+i+1))=fun j=>f (j+(i+1)):=by funext j;congr 1
   simp only[this];grind
  have c:bv u v (n+1) (Sd (n+1) f)=v*bv u v n (Sd (n+1) f)+u*bv u v n (fun i=>Sd (n+1) f (i+1)):=rfl;have d:bv (2*u+v) v (n+1) f=v*bv (2*u+v) v n f+(2*u+v)*bv (2*u+v) v n (fun i=>f (i+1)):=rfl;rw[c,d,a,b,Acm u v n f,Acm u v n (fun i=>f (i+1))];grind
theorem VG{v S:Int}(hv:0<=v):∀ {n:Nat} {f:Nat->Int},(∀ i,i<=n -> -S<=f i/\f i<=S) -> -(S*(v+1)^n)<=bv 1 v n f/\bv 1 v n f<=S*(v+1)^n
 | 0,_,h=>by have:=h 0 (A2 _);simpa [bv] using this
 | n+1,f,h=>by
  have h1:=VG hv (n:=n) (f:=f) (fun i hi=>h i (by omega));have h2:=VG hv (n:=n) (f:=fun i=>f (i+1)) (fun i hi=>h (i+1) (by omega));unfold bv;rw[AD];generalize (v+1)^n=A at *
  have m1:=A8 hv (show 0<=bv 1 v n f+S*A by omega);have a:=A8 hv (show 0<=S*A-bv 1 v n f by omega);constructor <;> grind
theorem Akg{v b:Int}(hv:0<=v):∀ {n:Nat} {f:Nat->Int},1<=f 0->(∀ i,i<=n -> -b<=f i/\f i<=b)->v^n-b*((v+1)^n-v^n)<=bv 1 v n f
 | 0,_,c,_=>by simpa [bv] using c
 | n+1,f,c,h=>by
  have h1:=Akg hv (n:=n) (f:=f) c (fun i hi=>h i (by omega));have h2:=(VG hv (n:=n) (f:=fun i=>f (i+1)) (fun i hi=>h (i+1) (by omega))).1;unfold bv;rw[AD,AD];generalize (v+1)^n=A at *
  generalize v^n=a at *
  have m1:=A8 hv (show 0<=bv 1 v n f-(a-b*(A-a)) by omega);grind
theorem iZ:∀ (n:Nat) (e:Int),0<=e->∃ c:Int,1<=c/\∀ v:Int,c<=v->0<=(v+1)^n-v^n/\e*((v+1)^n-v^n)<v^n
 | 0,e,_=>⟨1,by decide,fun v _=>by simp⟩
 | n+1,e,g=>by
  obtain⟨c,h1,h2⟩:=iZ n (4*e+4) (by omega);refine⟨c+4*e+4,by omega,fun v hv => ?_⟩;obtain⟨d,k⟩:=h2 v (by omega);rw[AD,AD];generalize (v+1)^n=A at *
  generalize v^n=a at *
  have h:A*(v+1)-a*v=(v+1)*(A-a)+a:=by grind
  rw[h];generalize A-a=b at *
  have l:=A8 (show 0<=v+1 by omega) d;have f:0<a:=by
   have:=A8 (show 0<=4*e+4 by omega) d;omega
  refine⟨by omega,?_⟩;have m:=Br (show 0<v+1 by omega) (show 0<a-(4*e+4)*b by omega);have o:=A8 (show 0<=v-(4*e+4) by omega) (A9 f);have p:(v+1)*(a-(4*e+4)*b)=v*a+a-4*(e*((v+1)*b))-4*((v+1)*b):=by grind
  have q:(v-(4*e+4))*a=v*a-4*(e*a)-4*a:=by grind
  have i:e*((v+1)*b+a)=e*((v+1)*b)+e*a:=by grind
  have j:a*v=v*a:=AT _ _;have r:=A8 g (A9 f);rw[i,j];omega
theorem        aS (f : Nat -> Int) : ∀ n : Nat, ∃ S : Int, 0 <= S /\ ∀ i, i <= n -> -S <= f i /\ f i <= S
  | 0 => ⟨(f 0).natAbs, by omega, fun i hi => by have : i = 0 := by omega
                                                 subst this; omega⟩
  | n + 1 => by
    obtain ⟨S, h1, h2⟩ :=        aS f n
    refine ⟨S + (f (n + 1)).natAbs, by omega, fun i hi => ?_⟩
    by_cases h : i <= n
    · have := h2 i h; omega
    · have : i = n + 1 := by omega
      subst this; omega
theorem Se:∀ (n:Nat) (f:Nat->Int) (j:Nat),j<=n->(∀ i,i<j->f i=0)->0<f j->∃ a:Int,1<=a/\∀ v:Int,a<=v->0<bv 1 v n f
 | n,f,0,_,_,p=>by
  obtain⟨b,e,g⟩:=aS f n;obtain⟨a,h1,h2⟩:=iZ n b e;refine⟨a,h1,fun v hv => ?_⟩;have:=Akg (v:=v) (by omega) (n:=n) (f:=f) (by omega) g;have:=h2 v hv;omega
 | 0,f,j+1,hj,_,_=>by omega
 | n+1,f,j+1,hj,hz,hp=>by
  obtain⟨c,h,d⟩:=Se n (fun i=>f (i+1)) j (by omega) (fun i hi=>hz (i+1) (by omega)) hp;by_cases k:j+1<=n
  ·obtain⟨l,q,m⟩:=Se n f (j+1) k hz hp;refine⟨l+c,by omega,fun v hv => ?_⟩;have c1:=m v (by omega);have o:=d v (by omega);have:=Br (show 0<v by omega) c1;unfold bv;omega
  ·refine⟨c,h,fun v hv => ?_⟩;have o:=d v (by omega);have c1:bv 1 v n f=0:=Sa 1 v fun i hi=>hz i (by omega);unfold bv;rw[c1];omega
theorem YR(u v:Int):∀ (n:Nat) (f:Nat->Int),bv u v n f=bv v u n fun i=>f (n-i)
 | 0,_=>rfl
 | n+1,f=>by
  have a:bv v u n (fun i=>f (n+1-(i+1)))=bv u v n f:=by
   rw[YR u v n f];refine HL v u fun i hi => ?_;congr 1;omega
  have b:bv v u n (fun i=>f (n+1-i))=bv u v n (fun i=>f (i+1)):=by
   rw[YR u v n (fun i=>f (i+1))];refine HL v u fun i hi => ?_;congr 1;omega
  have c:bv u v (n+1) f=v*bv u v n f+u*bv u v n (fun i=>f (i+1)):=rfl;have d:bv v u (n+1) (fun i=>f (n+1-i))=u*bv v u n (fun i=>f (n+1-i))+v*bv v u n (fun i=>f (n+1-(i+1))):=rfl;rw[c,d,a,b];omega
def bin:Nat->Nat->Int
 | _,0=>1
 | 0,_+1=>0
 | n+1,k+1=>bin n k+bin n (k+1)
theorem P6:∀ {n k:Nat},n<k->bin n k=0
 | _,0,h=>by omega
 | 0,_+1,_=>rfl
 | n+1,k+1,h=>by unfold bin;rw[P6 (show n<k by omega),P6 (show n<k+1 by omega)];rfl
theorem YS(u v:Int):∀ (n i:Nat),i<=n->bv u v n (fun j=>bin j i)=bin n i*(u^i*(u+v)^(n-i))
 | 0,i,h=>by
  have:i=0:=by omega
  subst this;simp[bv,bin]
 | n+1,0,_=>by
  have h:=YS u v n 0 (by omega);have e:(fun j=>bin (j+1) 0)=fun j=>bin j 0:=by funext j;simp[bin]
  have b:bin n 0=1:=by cases n <;> rfl
  have a:bin (n+1) 0=1:=rfl;have d:bv u v (n+1) (fun j=>bin j 0)=v*bv u v n (fun j=>bin j 0)+u*bv u v n (fun j=>bin (j+1) 0):=rfl;rw[d,e,h,b,a,show n+1-0=(n-0)+1 by omega,AD];grind
 | n+1,i+1,hi=>by
  have e:(fun j=>bin (j+1) (i+1))=fun j=>bin j i+bin j (i+1):=by funext j;simp[bin]
  have d:bv u v (n+1) (fun j=>bin j (i+1))=v*bv u v n (fun j=>bin j (i+1))+u*bv u v n (fun j=>bin (j+1) (i+1)):=rfl;have a:bin (n+1) (i+1)=bin n i+bin n (i+1):=rfl;rw[d,e,Te,YS u v n i (by omega),a,show n+1-(i+1)=n-i by omega];by_cases h:i+1<=n
  ·rw[YS u v n (i+1) h,show n-i=(n-(i+1))+1 by omega,AD,AD];grind
  ·have:i=n:=by omega
   subst this;have z:bv u v i (fun j=>bin j (i+1))=0:=Sa u v fun j hj=>P6 (by omega);rw[z,P6 (show i<i+1 by omega),T9,AD];grind
def b(a:Nat->Int):G->Nat->Nat->Int
 | [],_,_=>0
 | t::ts,i,j=>bin j i*a i*t+b a ts (i+1) j
theorem oD(u v A:Int)(a:Nat->Int)(n:Nat)(c:∀ i,i<=n->a i*bin n i=A):∀ (ts:G) (i:Nat),i+F ts=n+1->bv u v n (b a ts i)=A*(u^i*hv ts u (u+v))
 | [],i,h=>by
  rw[Sa u v (f:=b a [] i) (fun j _=>rfl)];simp[hv]
 | t::ts,i,h=>by
  have d:i+1+F ts=n+1:=by simp at h;omega
  have e:b a (t::ts) i=fun j=>(a i*t)*bin j i+b a ts (i+1) j:=by
   funext j;have:b a (t::ts) i j=bin j i*a i*t+b a ts (i+1) j:=rfl;rw[this];grind
  rw[e,Te,Tf,oD u v A a n c ts (i+1) d,YS u v n i (by omega)];have g:=c i (by omega);have k:hv (t::ts) u (u+v)=t*(u+v)^F ts+u*hv ts u (u+v):=rfl;rw[k,show n-i=F ts by omega,<- g,AD];grind
end Go.Ai
namespace Go.Proofs.YtajompaehjkgkaaGreat
open Go.Ai
set_option maxRecDepth 100000
open Bool renaming false_and->QV,false_eq_true->CI
open Decidable renaming decide->E
open Go.Ai.AV renaming agg->Ao,bool->W,fresh->Ae,int->J,sl->P
open Go.Ai.Reg renaming own->Ak,val->C
open Go.IntKind renaming bits->A5,i64->X,u32->U,u64->R,wrap->Q
open Go.Proofs.Tryz renaming prog->AC
open Int renaming fdiv->d,fdiv_eq_ediv_of_nonneg->BX,mul_add->DJ,mul_le_mul->Fk,mul_le_mul_of_nonneg_left->Ax,mul_nonneg->A8,mul_one->DQ,natAbs->I,natCast_nonneg->JI,pow_succ->AD,sub_zero->FV,toNat->Y,toNat_natCast->Aa,zero_add->E7
open List renaming drop->AL,drop_eq_getElem_cons->BL,drop_zero->DA,eq_of_mem_replicate->ABr,getD->H,getD_eq_getElem?_getD->Ad,getElem?_eq_getElem->Am,getElem?_replicate->Oe,getElem?_set_ne->H5,length->F,length_eq_zero_iff->Zl,map_take->Od,mem_cons->BW,mem_of_mem_take->C5,not_mem_nil->Y6,replicate->AI,take->BF,take_add_one->W_,take_length->DV
open Nat renaming add_assoc->E1,add_zero->Gb,le_refl->A2,le_trans->B6,sub_zero->Lb
noncomputable section
noncomputable section
theorem ACy:AC.follows .mixedOrders=true:=by kernel_rfl
def AHa:List (Nat × Fx):=[(9,Yx9),(18,Yx18),(19,sB),(20,Yx20),(21,AGk),(25,Yx25),(27,Z4),(33,AGl),(36,Yx36),(37,Z5),(38,Ayu),(40,Yx40),(42,AGm),(43,Aja),(46,Ajb),(47,Yx47),(48,Yx48),(49,Yx49),(51,Ajc),(52,Yx52),(53,Ayv),(55,AGn),(56,Ayw),(57,AGo),(60,Ajd),(62,Yx62),(63,AGp),(64,Yx64),(65,Ayx),(66,Ayy),(67,gP),(68,Ayz),(69,Aza),(70,Aje),(71,Azb),(72,Ajf),(73,Z6),(74,gQ),(75,Yx75),(76,XI),(77,Yx77),(79,Ajg),(80,Azc),(81,Yx81),(82,Ajh),(83,sC),(84,Azd),(86,Aji),(87,Yx87),(88,sD),(89,Aze),(90,Ajj),(91,Yx91),(92,sE),(93,Ajk),(94,AGq),(95,Ajl),(96,AGr),(97,AGs),(98,Yx98),(99,Azf),(100,AHx),(101,AHy),(102,Aab),(103,Z7),(104,mB),(105,mC),(106,Azg),(108,mD),(109,mE),(110,Aac),(111,AHz),(112,mF),(113,AIa),(114,NA),(115,mG),(116,Aad),(117,Aae),(118,mH),(119,mI),(120,mJ),(121,Azh),(122,Aaf),(123,Z8),(124,Z9),(125,Azi),(126,AIb),(127,AIc),(128,NB),(129,Azj),(130,mK),(131,AId),(132,AIe),(133,Azk),(134,mL),(135,mM),(136,Azl),(137,Aag),(138,Azm),(139,RD),(140,ZA),(141,P_),(142,mN),(143,mO),(144,Aah),(145,Aai),(146,mP),(147,AIf),(148,AIg),(149,AIh),(150,AIi),(151,mQ),(152,mR),(153,Aaj),(154,AIj),(155,mS),(156,WE),(157,Aak),(158,Azn),(159,mT),(160,Azo),(161,Azp),(162,Aal),(163,ZB),(164,Aam),(165,OW),(166,ZC),(167,mU),(168,RE),(169,Azq),(170,Aan),(171,Aao),(172,Aap),(173,Azr),(174,mV),(175,ZD),(176,Aaq),(177,AIk),(178,mW),(179,Aar),(180,Qa),(181,Azs),(182,Aas),(183,Aat),(184,AIl),(185,Azt),(186,Aau),(187,Aav),(188,Azu),(189,Aaw)]
def DP(f:Nat):Option IFunc:=(lk AHa f).map (iF AC)
theorem A1o:AHa.all (tOk AC)=true:=by kernel_rfl
theorem ACz:∀ f ifn,DP f=some ifn->∃ fn roots,AC.funcs[f]? = some fn/\gN AC roots fn ifn=true:=Ayt A1o
abbrev T:=Io DP
abbrev Z:=Dj DP
theorem CQ(x:Fx){f:Nat}{args:AK}{r:AV}(s:Az)(h:Dj DP (iF AC x).body (I5 (iF AC x) args) .ret s)(hf:DP f=some (iF AC x):=by exact rfl)(hl:F args=x.params:=by exact rfl)(hr:In s x.res=some r:=by exact rfl):Io DP f args r:=KG hf hl h (by nofun) hr
end
theorem Io.to{a:Nat->Option IFunc}{f:Nat}{b:AK}{r c:AV}(h:Io a f b r)(e:r=c):Io a f b c:=e ▸ h
theorem By{n:Int}(h1 : -9223372036854775808<=n)(h2:n<=9223372036854775807):Q X n=n:=by
 simp only[Q,A5,IntKind.signed];simp;omega
theorem wqz{n:Int}(a:-9223372036854775808<=n:=by omega)(b:n<=9223372036854775807:=by omega):Q X n=n:=By a b
theorem wrz{n m:Int}(a:-9223372036854775808<=n:=by omega)(b:n<=9223372036854775807:=by omega)(e:n=m:=by omega):Q X n=m:=(By a b).trans e
theorem Cz(n:Int):Q R n=n % 18446744073709551616:=by
 simp only[Q,A5,IntKind.signed,QV,CI,if_false];omega
theorem Fb(n:Int):Q U n=n % 4294967296:=by
 simp only[Q,A5,IntKind.signed,QV,CI,if_false];omega
def TB0:Dd:=[]
theorem GL:CT DP TB0:=CT.nil _
def Akh:ICode:=a Azf 94 56
section
variable(a:Nat)(cs:AK)
def Yf(n:Int):Az:=C (P a cs)::L 1 (Ak 1 0 []::N n::L 18 [])
theorem ADa(n x:Int)(c1:E (n>0)=true)(b:(x==0)=true)(c:0<=Q X (n-1)/\Q X (n-1)<(a:Int))(d:BQ (AL (Y (Q X (n-1))*1) cs) 0 1 true=some (J U x)):Z Akh (Yf a cs n) .norm (Yf a cs (Q X (n-1))):=e GL 300 [bT,.v (J U x),bT] IC (FJ c1 c d b) (by kernel_rfl)
theorem ADb(n x:Int)(c1:E (n>0)=true)(b:(x==0)=false)(c:0<=Q X (n-1)/\Q X (n-1)<(a:Int))(d:BQ (AL (Y (Q X (n-1))*1) cs) 0 1 true=some (J U x)):Z Akh (Yf a cs n) xZ0 (Yf a cs n):=e GL 300 [bT,.v (J U x),bF] IC (FJ c1 c d b) (by kernel_rfl)
theorem ADc(n:Int)(c1:E (n>0)=false):Z Akh (Yf a cs n) xZ0 (Yf a cs n):=e GL 300 [bF,bF] IC (DH c1 F9) (by kernel_rfl)
end
theorem A1p(xs:G)(d:F xs<=35184372088832):∀ m,m<=F xs->Z (.loop Akh) (Yf (F xs) (A xs) m) xZ0 (Yf (F xs) (A xs) (p xs m)):=by
 intro m;induction m with
 | zero =>
  intro _;exact Aq (ADc (F xs) (A xs) ((0:Nat)) (by simp))
 | succ m c =>
  intro e;have a:Q X ((m+1:Nat)-1)=(m:Int):=wrz
  have hx:=Fo (xs:=xs) (i:=m) (by omega);simp only[p];by_cases b:H xs m 0=0
  ·rw[Ar b];have h1:=ADa (F xs) (A xs) ((m+1:Nat)) (H xs m 0) (by simp) (by rw[b];rfl) (by rw[a];omega) (by rw[a,Aa];exact hx);rw[a] at h1;exact Bk h1 (c (by omega))
  ·rw[Aw b];exact Aq (ADb (F xs) (A xs) ((m+1:Nat)) (H xs m 0) (by simp) (by simpa using b) (by rw[a];omega) (by rw[a,Aa];exact hx))
theorem Fp{xs:G}(c:F xs<=35184372088832):T 99 [sL A xs] (Ae 1 (F (Af xs)) (A (Af xs))):=by
 have d:=Mi xs (F xs);have a:F (Af xs)=p xs (F xs):=by simp[Af];omega
 have e:=A1p xs c (F xs) (A2 _);have g:0<=Y (p xs (F xs))/\Y (p xs (F xs))<=F xs/\F xs<=F xs/\(false=true->true=true):=by rw[Aa];exact⟨by omega,d,A2 _,fun h=>by cases h⟩
 have b:BF ((Y (p xs (F xs))-0)*1) (AL (0*1) (A xs))=A (Af xs):=by
  rw[Aa];simp[A,Af,Od]
 have i:F (BF ((Y (p xs (F xs))-0)*1) (AL (0*1) (A xs)))=(Y (p xs (F xs))-0)*1:=by
  rw[b,RO,a,Aa];omega
 have j:(Y (p xs (F xs))-0)<=35184372088832:=by rw[Aa];omega
 have:=KG (prog:=DP) (f:=99) (args:=[sL A xs]) (r := Ae 1 (Y (p xs (F xs))-0) (BF ((Y (p xs (F xs))-0)*1) (AL (0*1) (A xs)))) (fn:=iF AC Azf) (s:=(C (sL A xs)::L 1 (Ak 1 ((Y (p xs (F xs)))-0) (BF (((Y (p xs (F xs)))-0)*1) (AL (0*1) (A xs)))::N (p xs (F xs):Int)::L 14 (C (sL A xs)::N (p xs (F xs):Int)::C (P ((Y (p xs (F xs)))-0) (BF (((Y (p xs (F xs)))-0)*1) (AL (0*1) (A xs))))::L 1 [])))) (ex := .ret) rfl rfl
  (Ag (Fa (t:=(C (sL A xs)::L 1 (Ak 1 0 []::L 19 []))) (ex := .norm) (ps:=[]) GL 300 [] [0,2] (by kernel_rfl) trivial)
  (Ag (Fa (t:=(C (sL A xs)::L 1 (Ak 1 0 []::N (F xs:Int)::L 18 []))) (ex := .norm) (ps:=[]) GL 300 [] IC (by kernel_rfl) trivial)
  (Ag (A7 e)
  (Fa (t:=(C (sL A xs)::L 1 (Ak 1 ((Y (p xs (F xs)))-0) (BF (((Y (p xs (F xs)))-0)*1) (AL (0*1) (A xs)))::N (p xs (F xs):Int)::L 14 (C (sL A xs)::N (p xs (F xs):Int)::C (P ((Y (p xs (F xs)))-0) (BF (((Y (p xs (F xs)))-0)*1) (AL (0*1) (A xs))))::L 1 [])))) (ex := .ret) (ps:=[0<=(p xs (F xs):Int),0<=Y (p xs (F xs))/\Y (p xs (F xs))<=F xs/\F xs<=F xs/\(false=true->true=true),F (BF (((Y (p xs (F xs)))-0)*1) (AL (0*1) (A xs)))=((Y (p xs (F xs)))-0)*1,((Y (p xs (F xs)))-0)<=35184372088832]) GL 300 [] [0,2,3,18,19,20] (by kernel_rfl) ⟨(JI _),g,i,j,trivial⟩)))) (by nofun) rfl
 (first|rw[b,Aa,Lb,<- a] at this|(rw[b,Aa,Lb] at this;unfold sL at this;rw[<- a] at this));exact this
def aT(neg:Bool)(xs:G):AV :=
 match neg with
 | true=>(.frs (.st (E ((F (Af xs):Int)>0))) 1 (F (Af xs)) (A (Af xs)))
 | false=>(.frs (.st false) 1 (F (Af xs)) (A (Af xs)))
theorem ADd(neg:Bool)(xs:G)(a:F xs<=1048576):T 98 [W neg,sL A xs] (aT neg xs):=by
 unfold aT;cases neg
 ·exact Cl (r := .frs (.st false) 1 (F (Af xs)) (A (Af xs))) (ps:=[T 99 [sL A xs] (Ae 1 (F (Af xs)) (A (Af xs))),false=false]) GL rfl 300 rfl [.r (Ae 1 (F (Af xs)) (A (Af xs))),bF] (by kernel_rfl) ⟨(Fp (B6 a (by decide))),rfl,trivial⟩
 ·exact Cl (r := .frs (.st (E ((F (Af xs):Int)>0))) 1 (F (Af xs)) (A (Af xs))) (ps:=[T 99 [sL A xs] (Ae 1 (F (Af xs)) (A (Af xs))),true=true]) GL rfl 300 rfl [.r (Ae 1 (F (Af xs)) (A (Af xs))),bT] (by kernel_rfl) ⟨(Fp (B6 a (by decide))),rfl,trivial⟩
theorem U1{neg:Bool}{xs:G}(d:B9 xs)(f:F xs<=1048576):T 98 [W neg,sL A xs] (Dk (if neg then -An xs else An xs)):=by
 have h:=ADd neg xs f;have e:aT neg xs=Dk (if neg then -An xs else An xs):=by
  have hv:=BK d;have a:=Lq d;have hp:F (Af xs)=0↔An xs=0:=by
   rw[a,Zl,Lp];omega
  cases neg with
  | false =>
   have b:I (An xs)=(An xs).toNat:=by omega
   have c:decide (An xs<0)=false:=by simp;omega
   simp only[aT,Dk,CI,if_false,b,c,a]
  | true =>
   have b:I (-An xs)=(An xs).toNat:=by omega
   have c:decide ((F (Af xs):Int)>0)=decide (-An xs<0):=by
    rw[decide_eq_decide];omega
   simp only[aT,Dk,if_true,b,c,<- a]
 rw[<- e];exact h
theorem P7{u:Int}(h:0<=u/\u<18446744073709551616):B9 [Q U u,Q U (d u (2^(min (Y 32) (A5 .u64))))]/\An [Q U u,Q U (d u (2^(min (Y 32) (A5 .u64))))]=u:=by
 have e:d u (2^(min (Y 32) (A5 .u64)))=u / 4294967296:=by
  show d u 4294967296=_;rw[BX _ (by omega)]
 rw[e,Fb,Fb];refine⟨fun x hx => ?_,?_⟩
 ·simp only[BW,Y6,or_false] at hx;rcases hx with rfl | rfl <;> omega
 ·simp only[An];omega
theorem Anc(n:Int)(c1:decide (n<0)=true)(a:T 98 [W (E (n<0)),P 2 [J U (Q U (Q R (0-(Q R n)))),J U (Q U (d (Q R (0-(Q R n))) (2^(min (Y 32) (A5 .u64)))))]] (.frs (.st (E (n<0))) 1 (F (o (I n))) (A (o (I n))))):T 49 [J X n] (Ao [W (E (n<0)),sL A (o (I n))]):=Cl (ps:=[E (n<0)=true,¬ (32:Int)<0,T 98 [W (E (n<0)),P 2 [J U (Q U (Q R (0-(Q R n)))),J U (Q U (d (Q R (0-(Q R n))) (2^(min (Y 32) (A5 .u64)))))]] (.frs (.st (E (n<0))) 1 (F (o (I n))) (A (o (I n))))]) GL rfl 300 rfl [bT,.r (.frs (.st (E (n<0))) 1 (F (o (I n))) (A (o (I n))))] (by kernel_rfl) ⟨c1,(by decide),a,trivial⟩
theorem Ane(n:Int)(c1:decide (n<0)=false)(a:T 98 [W (E (n<0)),P 2 [J U (Q U (Q R n)),J U (Q U (d (Q R n) (2^(min (Y 32) (A5 .u64)))))]] (.frs (.st (E (n<0))) 1 (F (o (I n))) (A (o (I n))))):T 49 [J X n] (Ao [W (E (n<0)),sL A (o (I n))]):=Cl (ps:=[E (n<0)=false,¬ (32:Int)<0,T 98 [W (E (n<0)),P 2 [J U (Q U (Q R n)),J U (Q U (d (Q R n) (2^(min (Y 32) (A5 .u64)))))]] (.frs (.st (E (n<0))) 1 (F (o (I n))) (A (o (I n))))]) GL rfl 300 rfl [bF,.r (.frs (.st (E (n<0))) 1 (F (o (I n))) (A (o (I n))))] (by kernel_rfl) ⟨c1,(by decide),a,trivial⟩
theorem MW{n:Int}(hn : -9223372036854775808<=n/\n<=9223372036854775807):T 49 [J X n] (M n):=by
 cases c1:decide (n<0) with
 | true =>
  have f:n<0:=by simpa using c1
  have a:Q R (0-Q R n) = -n:=by rw[Cz,Cz];omega
  obtain⟨b,c⟩:=P7 (u:=Q R (0-Q R n)) (by rw[a];omega);refine Anc n c1 ?_;have:=U1 (neg:=true) b (by simp);have e:(if true=true then -An [Q U (Q R (0-Q R n)),Q U (d (Q R (0-Q R n)) (2^(min (Y 32) (A5 .u64))))] else An [Q U (Q R (0-Q R n)),Q U (d (Q R (0-Q R n)) (2^(min (Y 32) (A5 .u64))))])=n:=by
   rw[c,Ar rfl,a];omega
  rw[e,Dk,c1] at this;rw[c1];exact this
 | false =>
  have f:¬ n<0:=by simpa using c1
  have a:Q R n=n:=by rw[Cz];omega
  obtain⟨b,c⟩:=P7 (u:=Q R n) (by rw[a];omega);refine Ane n c1 ?_;have:=U1 (neg:=false) b (by simp);have e:(if false=true then -An [Q U (Q R n),Q U (d (Q R n) (2^(min (Y 32) (A5 .u64))))] else An [Q U (Q R n),Q U (d (Q R n) (2^(min (Y 32) (A5 .u64))))])=n:=by
   rw[Aw (by decide),c,a]
  rw[e,Dk,c1] at this;rw[c1];exact this
def TBA:Dd:=TB0
theorem ED:CT DP TBA:=GL
def Sf:ICode:=a mL 93 116
section
variable(a:Nat)(cs:AK)(M:Nat)(b:AK)
def J5(v i:Int):Az:=C (P a cs)::C (P M b)::L 2 (N v::N i::L 35 [])
theorem A1q(v i x y:Int)(c1:E (i>=0)=true)(c:(x != y)=true)(j:E (x<y)=true)(d:0<=i/\i<a)(f:BQ (AL (Y i*1) cs) 0 1 true=some (J U x))(g:0<=i/\i<M)(h:BQ (AL (Y i*1) b) 0 1 true=some (J U y))(k:0<=i/\i<a)(l:BQ (AL (Y i*1) cs) 0 1 true=some (J U x))(m:0<=i/\i<M)(n:BQ (AL (Y i*1) b) 0 1 true=some (J U y)):Z Sf (J5 a cs M b v i) .ret (J5 a cs M b (-1) i):=e ED 300 [bT,.v (J U x),.v (J U y),bT,.v (J U x),.v (J U y),bT] KH (IU c1 d f g h c k l m n j) (by kernel_rfl)
theorem A1r(v i x y:Int)(c1:E (i>=0)=true)(c:(x != y)=true)(j:E (x<y)=false)(d:0<=i/\i<a)(f:BQ (AL (Y i*1) cs) 0 1 true=some (J U x))(g:0<=i/\i<M)(h:BQ (AL (Y i*1) b) 0 1 true=some (J U y))(k:0<=i/\i<a)(l:BQ (AL (Y i*1) cs) 0 1 true=some (J U x))(m:0<=i/\i<M)(n:BQ (AL (Y i*1) b) 0 1 true=some (J U y)):Z Sf (J5 a cs M b v i) .ret (J5 a cs M b 1 i):=e ED 300 [bT,.v (J U x),.v (J U y),bT,.v (J U x),.v (J U y),bF] KH (IU c1 d f g h c k l m n j) (by kernel_rfl)
theorem A1s(v i x y:Int)(c1:E (i>=0)=true)(c:(x != y)=false)(d:0<=i/\i<a)(f:BQ (AL (Y i*1) cs) 0 1 true=some (J U x))(g:0<=i/\i<M)(h:BQ (AL (Y i*1) b) 0 1 true=some (J U y)):Z Sf (J5 a cs M b v i) .norm (J5 a cs M b v (Q X (i-1))):=e ED 300 [bT,.v (J U x),.v (J U y),bF] KH (Gm c1 d f g h c) (by kernel_rfl)
theorem A1t(v i:Int)(c1:E (i>=0)=false):Z Sf (J5 a cs M b v i) xZ0 (J5 a cs M b v i):=e ED 300 [bF] KH (BO c1) (by kernel_rfl)
end
def DE(a b:Int):Int:=if a<b then -1 else if b<a then 1 else 0
def B4(n:Int):Int:=if n<0 then -1 else if 0<n then 1 else 0
def M5(xs a:G):Nat->Int
 | 0=>0
 | m+1=>if H xs m 0=H a m 0 then M5 xs a m else if H xs m 0<H a m 0 then -1 else 1
theorem Fc(xs:G)(m:Nat)(h:m<F xs):An (xs.take (m+1))=An (xs.take m)+4294967296^m*H xs m 0:=by
 rw[W_,Am h,Option.toList_some,H'];have:F (xs.take m)=m:=by simp;omega
 rw[this];simp[An,Ad,Am h]
theorem jA{A a x y P:Int}(b:0<=A/\A<P)(c:0<=a/\a<P)(h:x<y):A+P*x<a+P*y:=by
 have:=Ax (show x+1<=y by omega) (show 0<=P by omega);rw[DJ,DQ] at this;omega
theorem jB{xs a:G}(hx:B9 xs)(hy:B9 a):∀ m,m<=F xs->m<=F a->M5 xs a m=DE (An (xs.take m)) (An (a.take m)):=by
 intro m;induction m with
 | zero=>intro _ _;simp[M5,DE,An]
 | succ m k =>
  intro h1 h2;simp only[M5];rw[Fc xs m (by omega),Fc a m (by omega)];have f:B9 (xs.take m):=fun x b=>hx x (C5 b);have g:B9 (a.take m):=fun x b=>hy x (C5 b);have i:=BK f;have c:=EP f;have j:=BK g;have d:=EP g;rw[show F (xs.take m)=m by simp;omega] at c;rw[show F (a.take m)=m by simp;omega] at d;by_cases h:H xs m 0=H a m 0
  ·rw[Ar h,k (by omega) (by omega),h];unfold DE;congr 1
   ·rw[eq_iff_iff];omega
   ·congr 1;rw[eq_iff_iff];omega
  ·rw[Aw h];by_cases e:H xs m 0<H a m 0
   ·rw[Ar e];have:=jA ⟨i,c⟩ ⟨j,d⟩ e;unfold DE;rw[Ar this]
   ·rw[Aw e];have:=jA ⟨j,d⟩ ⟨i,c⟩ (show H a m 0<H xs m 0 by omega);unfold DE;rw[Aw (by omega),Ar this]
theorem Anf(xs a:G)(g:F xs<=1048576)(k:F xs=F a):∀ m,m<=F xs ->
  (M5 xs a m=0/\Z (.loop Sf) (J5 (F xs) (A xs) (F a) (A a) 0 (m-1)) xZ0 (J5 (F xs) (A xs) (F a) (A a) 0 (-1))) \/
  (M5 xs a m ≠ 0/\∃ j,Z (.loop Sf) (J5 (F xs) (A xs) (F a) (A a) 0 (m-1)) .ret (J5 (F xs) (A xs) (F a) (A a) (M5 xs a m) j)):=by
 intro m;induction m with
 | zero =>
  intro _;left;refine⟨rfl,?_⟩;exact Aq (A1t (F xs) (A xs) (F a) (A a) 0 ((0:Nat)-1) (by simp))
 | succ m e =>
  intro l;have e0:((m+1:Nat):Int)-1=(m:Int):=by omega
  have f:Q X (m-1)=(m:Int)-1:=By (by omega) (by omega);have hx:=Fo (xs:=xs) (i:=m) (by omega);have hy:=Fo (xs:=a) (i:=m) (by omega);rw[e0];simp only[M5];by_cases h:H xs m 0=H a m 0
  ·rw[Ar h];have h1:=A1s (F xs) (A xs) (F a) (A a) 0 m (H xs m 0) (H a m 0) (by simp) (by simpa using h) (by omega) (by rw[Aa];exact hx) (by omega) (by rw[Aa];exact hy);rw[f] at h1;rcases e (by omega) with ⟨c,d⟩ | ⟨c,j,d⟩
   ·exact .inl ⟨c,Bk h1 d⟩
   ·exact .inr ⟨c,j,Bk h1 d⟩
  ·rw[Aw h];right;by_cases b:H xs m 0<H a m 0
   ·rw[Ar b];refine⟨by decide,(m:Int),?_⟩;exact Aq (A1q (F xs) (A xs) (F a) (A a) 0 m (H xs m 0) (H a m 0) (by simp) (by simpa using h) (by simpa using b) (by omega) (by rw[Aa];exact hx) (by omega) (by rw[Aa];exact hy) (by omega) (by rw[Aa];exact hx) (by omega) (by rw[Aa];exact hy))
   ·rw[Aw b];refine⟨by decide,(m:Int),?_⟩;exact Aq (A1r (F xs) (A xs) (F a) (A a) 0 m (H xs m 0) (H a m 0) (by simp) (by simpa using h) (by simpa using b) (by omega) (by rw[Aa];exact hx) (by omega) (by rw[Aa];exact hy) (by omega) (by rw[Aa];exact hx) (by omega) (by rw[Aa];exact hy))
section
variable(xs a:G)
theorem uG(h:((F xs:Int) != (F a:Int))=true)(h2:E ((F xs:Int)<(F a:Int))=true):T 134 [sL A xs,sL A a] (J X (-1)):=Cl (ps:=[((F xs:Int) != (F a:Int))=true,E ((F xs:Int)<(F a:Int))=true]) ED rfl 300 rfl [bT,bT] (by kernel_rfl) ⟨h,h2,trivial⟩
theorem uH(h:((F xs:Int) != (F a:Int))=true)(h2:E ((F xs:Int)<(F a:Int))=false):T 134 [sL A xs,sL A a] (J X 1):=Cl (ps:=[((F xs:Int) != (F a:Int))=true,E ((F xs:Int)<(F a:Int))=false]) ED rfl 300 rfl [bT,bF] (by kernel_rfl) ⟨h,h2,trivial⟩
theorem uI(h:((F xs:Int) != (F a:Int))=false)(b:Z (.loop Sf) (J5 (F xs) (A xs) (F a) (A a) 0 (Q X (F xs-1))) xZ0 (J5 (F xs) (A xs) (F a) (A a) 0 (-1))):T 134 [sL A xs,sL A a] (J X 0):=CQ mL (C (sL A xs)::C (sL A a)::L 2 (N 0::N (-1)::L 35 [])) (Ag (e (t:=(f xs::f a::L 2 (N 0::L 36 []))) ED 300 [] TL a0) (Ag (e (t:=(f xs::f a::L 2 (N 0::L 1 (f xs::N (F xs:Int)::f a::N (F a:Int)::C (W ((F xs:Int) != (F a:Int)))::L 30 [])))) ED 300 [bF] Ajo (BO h)) (Ag (Ag (e (t:=(f xs::f a::L 2 (N 0::N (Q X (F xs-1))::L 35 []))) ED 300 [] KH a0) (A7 b)) (e (t:=(f xs::f a::L 2 (N 0::N (-1)::L 35 []))) (ex := .ret) ED 300 [] KH a0))))
theorem uJ(r j:Int)(h:((F xs:Int) != (F a:Int))=false)(b:Z (.loop Sf) (J5 (F xs) (A xs) (F a) (A a) 0 (Q X (F xs-1))) .ret (J5 (F xs) (A xs) (F a) (A a) r j)):T 134 [sL A xs,sL A a] (J X r):=CQ mL (C (sL A xs)::C (sL A a)::L 2 (N r::N j::L 35 [])) (Ag (e (t:=(f xs::f a::L 2 (N 0::L 36 []))) ED 300 [] TL a0) (Ag (e (t:=(f xs::f a::L 2 (N 0::L 1 (f xs::N (F xs:Int)::f a::N (F a:Int)::C (W ((F xs:Int) != (F a:Int)))::L 30 [])))) ED 300 [bF] Ajo (BO h)) (AG (Ag (e (t:=(f xs::f a::L 2 (N 0::N (Q X (F xs-1))::L 35 []))) ED 300 [] KH a0) (BT b)))))
end
theorem Ly{xs a:G}(hx:G_ xs)(hy:G_ a)(h:F xs<F a):An xs<An a:=by
 have h1:=EP hx.1;have h2:=SR hy (by intro e;rw[e] at h;simp at h);have:=HT (show F xs<=F a-1 by omega);omega
theorem Sg{xs a:G}(hx:G_ xs)(hy:G_ a)(i:F xs<=1048576):T 134 [sL A xs,sL A a] (J X (DE (An xs) (An a))):=by
 by_cases b:F xs=F a
 ·have h:((F xs:Int) != (F a:Int))=false:=by rw[b];simp
  have c:=jB hx.1 hy.1 (F xs) (A2 _) (by omega);rw[DV,b,DV,<- b] at c;have f:Q X (F xs-1)=(F xs:Int)-1:=By (by omega) (by omega);rcases Anf xs a i b (F xs) (A2 _) with ⟨g,d⟩ | ⟨g,j,d⟩
  ·rw[<- c,g];exact uI xs a h (by rw[f];exact d)
  ·rw[<- c];exact uJ xs a _ j h (by rw[f];exact d)
 ·have h:((F xs:Int) != (F a:Int))=true:=by simp;omega
  by_cases k:F xs<F a
  ·have e:DE (An xs) (An a) = -1:=by unfold DE;rw[Ar (Ly hx hy k)]
   rw[e];exact uG xs a h (by simp;omega)
  ·have:=Ly hy hx (by omega);have e:DE (An xs) (An a)=1:=by unfold DE;rw[Aw (by omega),Ar this]
   rw[e];exact uH xs a h (by simp;omega)
theorem oH(n:Nat):Af (o n)=o n:=by
 have:=Lq (Da n).1;rw[this,Do,Aa]
theorem U2{n:Nat}(a:F (o n)<=1048576):T 99 [sL A (o n)] (Ae 1 (F (o n)) (A (o n))):=by
 have:=Fp (B6 a (by decide));rwa [oH] at this
section
variable(neg:Bool)(m:Nat)
def oI:AV :=
 match (F (o m):Int)==0 with
 | true=>(J X 0)
 | false=>(match neg with
 | true=>(J X (-1))
 | false=>J X 1)
theorem ADe(a:F (o m)<=1048576):T 79 [Ao [W neg,sL A (o m)]] (oI neg m):=by
 unfold oI;cases c1:((F (o m):Int)==0)
 ·cases neg
  ·exact Cl (r := J X 1) (ps:=[T 99 [sL A (o m)] (Ae 1 (F (o m)) (A (o m))),((F (o m):Int)==0)=false,false=false]) ED rfl 300 rfl [.r (Ae 1 (F (o m)) (A (o m))),bF,bF] (by kernel_rfl) ⟨(U2 a),c1,rfl,trivial⟩
  ·exact Cl (r := J X (-1)) (ps:=[T 99 [sL A (o m)] (Ae 1 (F (o m)) (A (o m))),((F (o m):Int)==0)=false,true=true]) ED rfl 300 rfl [.r (Ae 1 (F (o m)) (A (o m))),bF,bT] (by kernel_rfl) ⟨(U2 a),c1,rfl,trivial⟩
 ·exact Cl (r := J X 0) (ps:=[T 99 [sL A (o m)] (Ae 1 (F (o m)) (A (o m))),((F (o m):Int)==0)=true]) ED rfl 300 rfl [.r (Ae 1 (F (o m)) (A (o m))),bT] (by kernel_rfl) ⟨(U2 a),c1,trivial⟩
def uK:Int:=if m=0 then 0 else if neg then -1 else 1
end
theorem Ang{neg:Bool}{m:Nat}(c:F (o m)<=1048576):T 79 [Ao [W neg,sL A (o m)]] (J X (uK neg m)):=by
 have h:=ADe neg m c;have e:oI neg m = J X (uK neg m):=by
  unfold oI uK;have hz:F (o m)=0↔m=0:=by rw[Zl,Lp]
  by_cases b:m=0
  ·have a:((F (o m):Int)==0)=true:=by rw[BJ];omega
   rw[a,Ar b]
  ·have a:((F (o m):Int)==0)=false:=by rw[C3];omega
   rw[a,Aw b];cases neg <;> rfl
 rw[<- e];exact h
theorem A1u(n:Int):uK (E (n<0)) (I n)=B4 n:=by
 unfold uK B4;by_cases a:n=0
 ·subst a;rfl
 ·rw[Aw (by omega)];by_cases h1:n<0
  ·simp[h1]
  ·have h2:0<n:=by omega
   simp[h1,h2]
theorem Tg{n:Int}(a:F (o (I n))<=1048576):T 79 [M n] (J X (B4 n)):=by
 have:=Ang (neg:=decide (n<0)) a;rwa [A1u] at this
def TBB:Dd:=TBA
theorem FL:CT DP TBB:=ED
def YT:ICode:=a mP 93 116
def YU:ICode:=a mP 85 29844
section
variable(a:Nat)(f:AK)(b:Nat)(bs:AK)(n:Nat)
def O7(cs:AK)(i:Int):Az:=C (P a f)::C (P b bs)::L 2 (Ak 1 0 []::Ak 1 n cs::N i::L 59 [])
def O8(cs:AK)(i c k:Int):Az:=C (P a f)::C (P b bs)::L 2 (Ak 1 0 []::Ak 1 n cs::N i::C (J R c)::N k::L 57 [])
theorem Anh(cs g:AK)(i c k x y z:Int)(c1:E (k<b)=true)(m:0<=Q X (i+k)/\Q X (i+k)<(n:Int))(o:BQ cs (Y (Q X (i+k))*1) 1 true=some (J U z))(p:0<=i/\i<a)(q:BQ (AL (Y i*1) f) 0 1 true=some (J U x))(r:0<=k/\k<b)(s:BQ (AL (Y k*1) bs) 0 1 true=some (J U y))(u:0<=Q X (i+k)/\Q X (i+k)<(n:Int))(w:Di cs (Y (Q X (i+k))*1) [J U (Q U (Q R (c+Q R (Q R z+Q R (Q R x*Q R y)))))]=some g):Z YU (O8 a f b bs n cs i c k) .norm (O8 a f b bs n g i (d (Q R (c+Q R (Q R z+Q R (Q R x*Q R y)))) (2^(min (Y 32) (A5 .u64)))) (Q X (k+1))):=e FL 300 [bT,.v (J U z),.v (J U x),.v (J U y),.l g] gS (Kw c1 m o p q r s u w K9) (by kernel_rfl)
theorem Ani(cs:AK)(i c k:Int)(c1:E (k<b)=false):Z YU (O8 a f b bs n cs i c k) xZ2 (O8 a f b bs n cs i c k):=e FL 300 [bF] gS (BO c1) (by kernel_rfl)
theorem Acn(cs:AK)(i:Int)(h:E (i<a)=false):Z YT (O7 a f b bs n cs i) xZ0 (O7 a f b bs n cs i):=e FL 300 [bF] [0,1,4,5,6] (BO (show (E (i<(a:Int)))=false from h)) (by kernel_rfl)
theorem uL(cs g j:AK)(i c k:Int)(h:E (i<a)=true)(A:Z (.loop YU) (O8 a f b bs n cs i 0 0) xZ2 (O8 a f b bs n g i c k))(B:0<=Q X (i+b)/\Q X (i+b)<(n:Int))(D:Di g (Y (Q X (i+b))*1) [J U (Q U c)]=some j):Z YT (O7 a f b bs n cs i) .norm (O7 a f b bs n j (Q X (i+1))):=Ag (e (t:=(C (P a f)::C (P b bs)::L 2 (Ak 1 0 []::Ak 1 n cs::N i::L 8 (N i::C (P a f)::N (a:Int)::C (W (E (i<(a:Int))))::L 47 [])))) FL 300 [bT] [0,1,4,5,6,15,16,17,18] (BO (show (E (i<(a:Int)))=true from h))) (Ag (Bo (Ag (e (t:=(C (P a f)::C (P b bs)::L 2 (Ak 1 0 []::Ak 1 n cs::N i::C (J R 0)::L 7 (N i::C (P a f)::N (a:Int)::C (W (E (i<(a:Int))))::L 47 [])))) FL 300 [] [0,1,4,5,6,7,15,16,17,18] a0) (Ag (Ag (e (t:=(C (P a f)::C (P b bs)::L 2 (Ak 1 0 []::Ak 1 n cs::N i::C (J R 0)::N 0::L 57 []))) FL 300 [] gS a0) (A7 A)) (e (t:=(C (P a f)::C (P b bs)::L 2 (Ak 1 0 []::Ak 1 n j::N i::C (J R c)::N k::L 48 (.dup 5::N i::C (P b bs)::N (b:Int)::N (Q X (i+b))::C (J R c)::C (J U (Q U c))::.ptr 5 (Y (Q X (i+b))*1)::L 1 [])))) FL 300 [.l j] [0,1,4,5,6,7,8,57,58,59,60,61,62,63,64] (DH B D))))) (e (t:=(C (P a f)::C (P b bs)::L 2 (Ak 1 0 []::Ak 1 n j::N (Q X (i+1))::L 59 []))) FL 300 [] [0,1,4,5,6] a0))
end
def J6(a:Int)(bs:G)(i:Nat):Nat->Nat->G->Int->G × Int
 | 0,_,out,c=>(out,c)
 | r+1,k,out,c=>J6 a bs i r (k+1) (out.set (i+k) ((c+(H out (i+k) 0+a*H bs k 0)) % 4294967296)) ((c+(H out (i+k) 0+a*H bs k 0)) / 4294967296)
theorem aU{a b c o:Int}(d:0<=a/\a<4294967296)(hb:0<=b/\b<4294967296)(hc:0<=c/\c<4294967296)(e:0<=o/\o<4294967296) :
  0<=a*b/\a*b<=18446744065119617025/\0<=c+(o+a*b)/\c+(o+a*b)<18446744073709551616:=by
 have h1:=A8 d.1 hb.1;have h2:a*b<=4294967295*4294967295:=Fk (by omega) (by omega) hb.1 (by omega);omega
theorem Qp{xs:G}{i j:Nat}{v:Int}(h:i ≠ j):H (xs.set i v) j 0=H xs j 0:=by
 simp only[Ad,H5 h]
theorem jC{a:Int}{bs:G}{i:Nat}(g:0<=a/\a<4294967296)(hb:B9 bs):∀ (r k:Nat) (out:G) (c:Int),r+k=F bs->i+F bs<=F out->B9 out->0<=c/\c<4294967296 ->
  F (J6 a bs i r k out c).1=F out/\B9 (J6 a bs i r k out c).1/\(0<=(J6 a bs i r k out c).2/\(J6 a bs i r k out c).2<4294967296) /\
  An (J6 a bs i r k out c).1+4294967296^(i+F bs)*(J6 a bs i r k out c).2=An out+4294967296^(i+k)*(c+a*An (bs.drop k)) /\
  ∀ j,i+F bs<=j->H (J6 a bs i r k out c).1 j 0=H out j 0:=by
 intro r;induction r with
 | zero =>
  intro k out c h _ d hc;have l:k=F bs:=by omega
  subst l;refine⟨rfl,d,hc,?_,fun _ _=>rfl⟩;simp[J6,An]
 | succ r n =>
  intro k out c h s d hc;have t:=Bn hb k;have u:=Bn d (i+k);obtain⟨E,I,J,K⟩:=aU g t hc u;have v:i+k<F out:=by omega
  simp only[J6];generalize L:c+(H out (i+k) 0+a*H bs k 0)=f at *
  have w:0<=f % 4294967296/\f % 4294967296<4294967296:=by omega
  obtain⟨x,y,z,A,B⟩:=n (k+1) (out.set (i+k) (f % 4294967296)) (f / 4294967296) (by omega) (by simpa using s) (Ds d w) (by omega);refine⟨by simpa using x,y,z,?_,fun j hj => ?_⟩
  ·rw[A,EW out (i+k) _ v];have hd:An (bs.drop k)=H bs k 0+4294967296*An (bs.drop (k+1)):=by
    rw[BL (show k<F bs by omega)];simp[An,Ad,Am (show k<F bs by omega)]
   rw[hd];have hp:(4294967296:Int)^(i+(k+1))=4294967296^(i+k)*4294967296:=by rw[<- E1,AD]
   rw[hp];generalize (4294967296:Int)^(i+k)=p at *
   generalize An (bs.drop (k+1))=e at *
   have C:f=4294967296*(f / 4294967296)+f % 4294967296:=by omega
   have D:c=f-H out (i+k) 0-a*H bs k 0:=by omega
   rw[D];generalize f / 4294967296=q at *
   generalize f % 4294967296=m at *
   generalize H out (i+k) 0=o at *
   generalize H bs k 0=b at *
   subst C;grind
  ·rw[B j hj,Qp (by omega)]
theorem Aco(a bs:G)(g:B9 a)(hb:B9 bs)(n i:Nat)(hn:n<=1048576)(hi:i<F a)(z:i+F bs<=n):∀ (r k:Nat) (out:G) (c:Int),r+k=F bs->F out=n->B9 out->0<=c/\c<4294967296 ->
  Z (.loop YU) (O8 (F a) (A a) (F bs) (A bs) n (A out) i c k) xZ2
   (O8 (F a) (A a) (F bs) (A bs) n (A (J6 (H a i 0) bs i r k out c).1) i (J6 (H a i 0) bs i r k out c).2 (F bs)):=by
 intro r;induction r with
 | zero =>
  intro k out c h _ _ _;have j:k=F bs:=by omega
  subst j;exact Aq (Ani (F a) (A a) (F bs) (A bs) n (A out) i c (F bs) (by simp))
 | succ r l =>
  intro k out c h m e hc;have o:=Bn g i;have p:=Bn hb k;have q:=Bn e (i+k);obtain⟨B,C,D,E⟩:=aU o p hc q;have b:Q X (i+k)=((i+k:Nat):Int):=wrz
  have s:Q X (k+1)=((k+1:Nat):Int):=wrz
  have hz:=ZL (xs:=out) (i:=i+k) (by omega);have hx:=Fo (xs:=a) (i:=i) hi;have hy:=Fo (xs:=bs) (i:=k) (by omega);have t:=KJ (xs:=out) (i:=i+k) (v:=(c+(H out (i+k) 0+H a i 0*H bs k 0)) % 4294967296) (by omega);have f:Q R (c+Q R (Q R (H out (i+k) 0)+Q R (Q R (H a i 0)*Q R (H bs k 0))))=c+(H out (i+k) 0+H a i 0*H bs k 0):=by
   have u:Q R (H a i 0)=H a i 0:=by rw[Cz];omega
   have w:Q R (H bs k 0)=H bs k 0:=by rw[Cz];omega
   have x:Q R (H out (i+k) 0)=H out (i+k) 0:=by rw[Cz];omega
   rw[u,w,x,Cz,Cz,Cz];omega
  have y:d (c+(H out (i+k) 0+H a i 0*H bs k 0)) (2^(min (Y 32) (A5 .u64)))=(c+(H out (i+k) 0+H a i 0*H bs k 0)) / 4294967296:=by
   show d _ 4294967296=_;rw[BX _ (by omega)]
  have h1:=Anh (F a) (A a) (F bs) (A bs) n (A out) (A (out.set (i+k) ((c+(H out (i+k) 0+H a i 0*H bs k 0)) % 4294967296))) i c k (H a i 0) (H bs k 0) (H out (i+k) 0)
   (by simp;omega) (by rw[b];omega) (by rw[b,Aa];exact hz) (by omega) (by rw[Aa];exact hx) (by omega) (by rw[Aa];exact hy) (by rw[b];omega) (by rw[b,Aa,f,Fb];exact t)
  rw[f,y,s] at h1;exact Bk h1 (l (k+1) _ _ (by omega) (by simpa using m) (Ds e (by omega)) (by omega))
theorem Acp(b bs:G)(m:B9 b)(hb:B9 bs)(u:F b+F bs<=1048576):∀ (r i:Nat) (out:G),r+i=F b->F out=F b+F bs->B9 out->(∀ j,i+F bs<=j->H out j 0=0) ->
  ∃ d,F d=F b+F bs/\B9 d/\An d=An out+4294967296^i*(An (b.drop i)*An bs) /\
   Z (.loop YT) (O7 (F b) (A b) (F bs) (A bs) (F b+F bs) (A out) i) xZ0 (O7 (F b) (A b) (F bs) (A bs) (F b+F bs) (A d) (F b)):=by
 intro r;induction r with
 | zero =>
  intro i out hi g f _;have hi':i=F b:=by omega
  subst hi';refine⟨out,g,f,by simp[An],?_⟩;exact Aq (Acn (F b) (A b) (F bs) (A bs) (F b+F bs) (A out) (F b) (by simp))
 | succ r w =>
  intro i out hi g f hz;have x:=Bn m i;have h:i<F b:=by omega
  have n:=Aco b bs m hb (F b+F bs) i u h (by omega) (F bs) 0 out 0 (by omega) g f (by omega);obtain⟨y,o,s,k,l⟩:=jC (i:=i) x hb (F bs) 0 out 0 (by omega) (by omega) f (by omega);generalize J6 (H b i 0) bs i (F bs) 0 out 0=q at *
  obtain⟨e,c⟩:=q;dsimp only at y o s k l n;have t:Q X (i+F bs)=((i+F bs:Nat):Int):=wrz
  have z:Q X (i+1)=((i+1:Nat):Int):=wrz
  have B:Q U c=c:=by rw[Fb];omega
  have C:=KJ (xs:=e) (i:=i+F bs) (v:=c) (by omega);have h1:=uL (F b) (A b) (F bs) (A bs) (F b+F bs) (A out) (A e) (A (e.set (i+F bs) c)) i c (F bs) (by simp;omega) n (by rw[t];omega) (by rw[t,Aa,B];exact C);rw[z] at h1;obtain⟨d,D,E,I,J⟩:=w (i+1) (e.set (i+F bs) c) (by omega) (by simp;omega) (Ds o s) (fun j hj=>by rw[Qp (by omega),l j (by omega),hz j (by omega)]);refine⟨d,D,E,?_,Bk h1 J⟩;have hv:An (e.set (i+F bs) c)=An out+4294967296^i*(H b i 0*An bs):=by
   rw[EW e _ _ (by omega),l _ (A2 _),hz _ (A2 _)];simp only[Gb,DA,E7,FV] at k |-;exact k
  have hd:An (b.drop i)=H b i 0+4294967296*An (b.drop (i+1)):=by
   rw[BL h];simp[An,Ad,Am h]
  rw[I,hv,hd,AD];generalize (4294967296:Int)^i=p at *
  generalize An (b.drop (i+1))=a at *
  grind
theorem uM{a bs:G}(c:B9 a)(hb:B9 bs)(d:F a+F bs<=1048576) :
  ∃ out,F out=F a+F bs/\B9 out/\An out=An a*An bs/\T 146 [sL A a,sL A bs] (Ae 1 (F out) (A out)):=by
 have en:Q X (F a+F bs)=((F a+F bs:Nat):Int):=wrz
 have b:Y (Q X (F a+F bs))=F a+F bs:=by rw[en,Aa]
 obtain⟨out,h1,h2,e,g⟩:=Acp a bs c hb d (F a) 0 (AI (F a+F bs) 0) (by omega) (by simp) (fun x hx=>by rw[ABr hx];omega) (fun j _=>by simp[Ad,Oe];split <;> rfl);refine⟨out,h1,h2,?_,?_⟩
 ·rw[e,FX];simp
 have h:0<=Q X (F a+F bs)/\Q X (F a+F bs)<=1048576:=by rw[en];omega
 have i:Z (.loop YT) (O7 (F a) (A a) (F bs) (A bs) (Y (Q X (F a+F bs))) (C_ [J U 0] (Y (Q X (F a+F bs)))) 0) xZ0 (O7 (F a) (A a) (F bs) (A bs) (Y (Q X (F a+F bs))) (A out) (F a)):=by
  rw[b,G4];exact g
 have:=KG (prog:=DP) (f:=146) (args:=[sL A a,sL A bs]) (r := Ae 1 (Y (Q X (F a+F bs))) (A out)) (fn:=iF AC mP) (s:=(C (sL A a)::C (sL A bs)::L 2 (Ak 1 (Y (Q X (F a+F bs))) (A out)::L 1 (N (F a:Int)::L 59 [])))) (ex := .ret) rfl rfl
  (Ag (Fa (t:=(C (sL A a)::C (sL A bs)::L 2 (Ak 1 0 []::L 61 []))) (ex := .norm) (ps:=[]) FL 300 [] TL (by kernel_rfl) trivial)
  (Ag (Fa (t:=(C (sL A a)::C (sL A bs)::L 2 (Ak 1 0 []::Ak 1 (Y (Q X (F a+F bs))) (C_ [J U 0] (Y (Q X (F a+F bs))))::L 3 (C (sL A a)::N (F a:Int)::C (sL A bs)::N (F bs:Int)::N (Q X (F a+F bs))::L 52 [])))) (ex := .norm) (ps:=[0<=Q X (F a+F bs)/\Q X (F a+F bs)<=1048576]) FL 300 [] [0,1,4,5,9,10,11,12,13] (by kernel_rfl) ⟨h,trivial⟩)
  (Ag (Ag (Fa (t:=(C (sL A a)::C (sL A bs)::L 2 (Ak 1 0 []::Ak 1 (Y (Q X (F a+F bs))) (C_ [J U 0] (Y (Q X (F a+F bs))))::N 0::L 59 []))) (ex := .norm) (ps:=[]) FL 300 [] [0,1,4,5,6] (by kernel_rfl) trivial)
  (A7 i))
  (Fa (t:=(C (sL A a)::C (sL A bs)::L 2 (Ak 1 (Y (Q X (F a+F bs))) (A out)::L 1 (N (F a:Int)::L 59 [])))) (ex := .ret) (ps:=[]) FL 300 [] [0,1,4,6] (by kernel_rfl) trivial)))) (by nofun) rfl
 rw[b,<- h1] at this;exact this
def TBC:Dd:=TBB
theorem D8:CT DP TBC:=FL
end
end Go.Proofs.YtajompaehjkgkaaGreat
