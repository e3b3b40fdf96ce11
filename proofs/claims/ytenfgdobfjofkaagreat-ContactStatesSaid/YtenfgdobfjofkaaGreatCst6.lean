/- Texts of the proof of ContactStates: part 6 of 18. -/
import Derived.KernelRfl
import Derived.Test.YtenfgdobfjofkaaGreatCst5
namespace Go.Proofs.YtenfgdobfjofkaaGreat
open Go.Ai
set_option maxRecDepth 100000
open BitVec renaming ofInt->AT,ofInt_natCast->KE,toNat_ofNat->MI
open Bool renaming and_eq_true->U,and_self->E8,eq_false_or_eq_true->Q,false_and->Ea,false_eq_true->AC,not_eq_true'->Bl
open _root_.ByteArray renaming size->C4,toList->He
open Decidable renaming decide->G
open Go.Ai.AV renaming agg->M,bool->I,fresh->P,int->A,sl->E,tup->Hm
open Go.Ai.Reg renaming box->T,own->Av,val->Ab
open Go.IntKind renaming bits->Co,i64->D,u32->Bd,u64->Ba,wrap->O
open Go.Proofs.Tryz renaming prog->g
open Int renaming emod_lt_of_pos->Asy,emod_nonneg->A8m,fdiv->BA,fdiv_eq_ediv_of_nonneg->Gh,mul_add->IJ,mul_assoc->Jl,mul_comm->Hc,mul_ediv_add_emod->Aeu,mul_le_mul->J4,mul_le_mul_of_nonneg_left->C',mul_left_comm->kL,mul_nonneg->FS,mul_one->Aer,mul_pos->Fq,mul_sub->A8h,natAbs->A6,natCast_mul->A8l,neg_mul_neg->Aep,ofNat_le->Avj,pow_succ->FL,tdiv->Dt,tdiv_eq_ediv_of_nonneg->Ko,toNat->J,toNat_natCast->Aq,zero_add->AFo,zero_sub->N5
open List renaming all_eq_true->AKf,append_assoc->Ci,append_nil->Df,drop->R,drop_eq_getElem_cons->ET,drop_length->Avn,drop_zero->AL,eq_of_mem_replicate->A8p,getD->L,getD_eq_getElem?_getD->Z,getElem?_eq_getElem->Af,getElem?_set_ne->DX,getElem_mem->AF,length->C,length_append->Ah,length_cons->B1,length_drop->C5,length_eq_zero_iff->XO,map_append->DU,map_cons->Bg,map_nil->C1,mem_append_left->B9,mem_append_right->BT,mem_cons->Aw,mem_cons_of_mem->AJ,mem_cons_self->AKh,mem_of_mem_take->BC,mem_singleton->AP,nodup_append->Ds,not_mem_nil->A3,replicate->BP,set->CB,take->CN,take_add_one->AJm,take_append_of_le_length->F8,take_length->nI
open Nat renaming add_assoc->DC,add_le_add->iP,add_zero->Bv,beq->AKi,eq_zero_or_pos->LD,le_of_ble_eq_true->Ap,le_refl->Ay,le_trans->AA,mod_eq_of_lt->Io,mul_le_mul->A8i,pow_succ->Ta,sub_zero->Wh,zero_add->AH
open Option renaming toList_some->ACa
open Prod.mk renaming injEq->Cc
noncomputable section
def Ct(n x y:Int):Bool:=decide (-n<=x)&&decide (x<=n)&&decide (-n<=y)&&decide (y<=n)
theorem I9{n x y:Int}(h:Ct n x y=true) : -n<=x/\x<=n /\ -n<=y/\y<=n:=by
 simp[Ct] at h;omega
theorem xX{n x y:Int}(h : -n<=x/\x<=n /\ -n<=y/\y<=n):Ct n x y=true:=by
 simp[Ct];omega
section
variable(n a b:Int)
def QF:AV :=
 match decide (a<O D (0-n)) with
 | true=>(I false)
 | false=>(match decide (a>n) with
 | true=>(I false)
 | false=>(match decide (b<O D (0-n)) with
 | true=>(I false)
 | false=>(match decide (b>n) with
 | true=>(I false)
 | false=>I true)))
theorem Agu  : RQ 135 [A D n,E 1 [A D a,A D b]] (QF n a b):=by
 unfold QF;cases c1:(G (a<O D (0-n)))
 ·cases c2:(G (a>n))
  ·cases c3:(G (b<O D (0-n)))
   ·cases c4:(G (b>n))
    ·exact ALa CU rfl [bT,.v (M [A D a,A D b]),Y,Y,Y,Y,Y] (EQ Cj (show 0<=(0:Int)/\(0:Int)<(1:Nat) from (by decide)) (show Ad [A D a,A D b] 0 2 false=some (M [A D a,A D b]) from rfl) c1 c2 c3 c4 Dx)
    ·exact ALa CU rfl [bT,.v (M [A D a,A D b]),Y,Y,Y,bT] (Gs Cj (show 0<=(0:Int)/\(0:Int)<(1:Nat) from (by decide)) (show Ad [A D a,A D b] 0 2 false=some (M [A D a,A D b]) from rfl) c1 c2 c3 c4)
   ·exact ALa CU rfl [bT,.v (M [A D a,A D b]),Y,Y,bT,bT] (Gs Cj (show 0<=(0:Int)/\(0:Int)<(1:Nat) from (by decide)) (show Ad [A D a,A D b] 0 2 false=some (M [A D a,A D b]) from rfl) c1 c2 c3 Cj)
  ·exact ALa CU rfl [bT,.v (M [A D a,A D b]),Y,bT,bT,bT] (Gs Cj (show 0<=(0:Int)/\(0:Int)<(1:Nat) from (by decide)) (show Ad [A D a,A D b] 0 2 false=some (M [A D a,A D b]) from rfl) c1 c2 Cj Cj)
 ·exact ALa CU rfl [bT,.v (M [A D a,A D b]),bT,bT,bT,bT] (Gs Cj (show 0<=(0:Int)/\(0:Int)<(1:Nat) from (by decide)) (show Ad [A D a,A D b] 0 2 false=some (M [A D a,A D b]) from rfl) c1 Cj Cj Cj)
theorem A9o(h0:0<=n)(h1:n<=4611686018427387904):QF n a b = I (Ct n a b):=by
 unfold QF Ct;simp only[N5,A' (n := -n) (by omega) (by omega)];repeat' split
 all_goals (simp_all <;> omega)
end
section
variable(n a b c d:Int)
def QG:AV :=
 match decide (a<O D (0-n)) with
 | true=>(I false)
 | false=>(match decide (a>n) with
 | true=>(I false)
 | false=>(match decide (b<O D (0-n)) with
 | true=>(I false)
 | false=>(match decide (b>n) with
 | true=>(I false)
 | false=>(match decide (c<O D (0-n)) with
 | true=>(I false)
 | false=>(match decide (c>n) with
 | true=>(I false)
 | false=>(match decide (d<O D (0-n)) with
 | true=>(I false)
 | false=>(match decide (d>n) with
 | true=>(I false)
 | false=>I true)))))))
theorem Agv  : RQ 135 [A D n,E 2 [A D a,A D b,A D c,A D d]] (QG n a b c d):=by
 unfold QG;cases c1:(G (a<O D (0-n)))
 ·cases c2:(G (a>n))
  ·cases c3:(G (b<O D (0-n)))
   ·cases c4:(G (b>n))
    ·cases e:(G (c<O D (0-n)))
     ·cases f:(G (c>n))
      ·cases g:(G (d<O D (0-n)))
       ·cases h:(G (d>n))
        ·exact ALa CU rfl [bT,.v (M [A D a,A D b]),Y,Y,Y,Y,bT,.v (M [A D c,A D d]),Y,Y,Y,Y,Y] (Ec Cj (show 0<=(0:Int)/\(0:Int)<(2:Nat) from (by decide)) (show Ad [A D a,A D b,A D c,A D d] 0 2 false=some (M [A D a,A D b]) from rfl) c1 c2 c3 c4 Cj (Gs (show 0<=(1:Int)/\(1:Int)<(2:Nat) from (by decide)) (show Ad [A D c,A D d] 0 2 false=some (M [A D c,A D d]) from rfl) e f g h Dx))
        ·exact ALa CU rfl [bT,.v (M [A D a,A D b]),Y,Y,Y,Y,bT,.v (M [A D c,A D d]),Y,Y,Y,bT] (Ec Cj (show 0<=(0:Int)/\(0:Int)<(2:Nat) from (by decide)) (show Ad [A D a,A D b,A D c,A D d] 0 2 false=some (M [A D a,A D b]) from rfl) c1 c2 c3 c4 Cj (EP (show 0<=(1:Int)/\(1:Int)<(2:Nat) from (by decide)) (show Ad [A D c,A D d] 0 2 false=some (M [A D c,A D d]) from rfl) e f g h))
       ·exact ALa CU rfl [bT,.v (M [A D a,A D b]),Y,Y,Y,Y,bT,.v (M [A D c,A D d]),Y,Y,bT,bT] (Ec Cj (show 0<=(0:Int)/\(0:Int)<(2:Nat) from (by decide)) (show Ad [A D a,A D b,A D c,A D d] 0 2 false=some (M [A D a,A D b]) from rfl) c1 c2 c3 c4 Cj (EP (show 0<=(1:Int)/\(1:Int)<(2:Nat) from (by decide)) (show Ad [A D c,A D d] 0 2 false=some (M [A D c,A D d]) from rfl) e f g Cj))
      ·exact ALa CU rfl [bT,.v (M [A D a,A D b]),Y,Y,Y,Y,bT,.v (M [A D c,A D d]),Y,bT,bT,bT] (Ec Cj (show 0<=(0:Int)/\(0:Int)<(2:Nat) from (by decide)) (show Ad [A D a,A D b,A D c,A D d] 0 2 false=some (M [A D a,A D b]) from rfl) c1 c2 c3 c4 Cj (EP (show 0<=(1:Int)/\(1:Int)<(2:Nat) from (by decide)) (show Ad [A D c,A D d] 0 2 false=some (M [A D c,A D d]) from rfl) e f Cj Cj))
     ·exact ALa CU rfl [bT,.v (M [A D a,A D b]),Y,Y,Y,Y,bT,.v (M [A D c,A D d]),bT,bT,bT,bT] (Ec Cj (show 0<=(0:Int)/\(0:Int)<(2:Nat) from (by decide)) (show Ad [A D a,A D b,A D c,A D d] 0 2 false=some (M [A D a,A D b]) from rfl) c1 c2 c3 c4 Cj (EP (show 0<=(1:Int)/\(1:Int)<(2:Nat) from (by decide)) (show Ad [A D c,A D d] 0 2 false=some (M [A D c,A D d]) from rfl) e Cj Cj Cj))
    ·exact ALa CU rfl [bT,.v (M [A D a,A D b]),Y,Y,Y,bT] (Gs Cj (show 0<=(0:Int)/\(0:Int)<(2:Nat) from (by decide)) (show Ad [A D a,A D b,A D c,A D d] 0 2 false=some (M [A D a,A D b]) from rfl) c1 c2 c3 c4)
   ·exact ALa CU rfl [bT,.v (M [A D a,A D b]),Y,Y,bT,bT] (Gs Cj (show 0<=(0:Int)/\(0:Int)<(2:Nat) from (by decide)) (show Ad [A D a,A D b,A D c,A D d] 0 2 false=some (M [A D a,A D b]) from rfl) c1 c2 c3 Cj)
  ·exact ALa CU rfl [bT,.v (M [A D a,A D b]),Y,bT,bT,bT] (Gs Cj (show 0<=(0:Int)/\(0:Int)<(2:Nat) from (by decide)) (show Ad [A D a,A D b,A D c,A D d] 0 2 false=some (M [A D a,A D b]) from rfl) c1 c2 Cj Cj)
 ·exact ALa CU rfl [bT,.v (M [A D a,A D b]),bT,bT,bT,bT] (Gs Cj (show 0<=(0:Int)/\(0:Int)<(2:Nat) from (by decide)) (show Ad [A D a,A D b,A D c,A D d] 0 2 false=some (M [A D a,A D b]) from rfl) c1 Cj Cj Cj)
theorem A9p(h0:0<=n)(h1:n<=4611686018427387904):QG n a b c d = I (Ct n a b&&Ct n c d):=by
 unfold QG Ct;simp only[N5,A' (n := -n) (by omega) (by omega)];repeat' split
 all_goals (simp_all <;> omega)
end
def ACx:u->Option (AV × List Prop)
 | [A D n,E 1 [A D a,A D b]]=>some (I (Ct n a b),[0<=n,n<=4611686018427387904])
 | [A D n,E 2 [A D a,A D b,A D c,A D d]]=>some (I (Ct n a b&&Ct n c d),[0<=n,n<=4611686018427387904])
 | _=>none
def TI1:Bx:=(135,ACx)::A0f
theorem CV:Be CQ TI1:=Be.cons CU (by
 intro args r ps h a;unfold ACx at h;split at h
 ·cases h;exact A9o _ _ _  a.1 a.2.1 ▸ Agu _ _ _ 
 ·cases h;exact A9p _ _ _ _ _  a.1 a.2.1 ▸ Agv _ _ _ _ _ 
 ·cases h)
section
variable(n a b:Int)
def QH:AV :=
 match decide (a<O D (0-n)) with
 | true=>(I false)
 | false=>(match decide (a>n) with
 | true=>(I false)
 | false=>(match decide (b<O D (0-n)) with
 | true=>(I false)
 | false=>(match decide (b>n) with
 | true=>(I false)
 | false=>I true)))
theorem Agw  : RQ 145 [A D n,E 1 [A D a,A D b]] (QH n a b):=by
 unfold QH;cases c1:(G (a<O D (0-n)))
 ·cases c2:(G (a>n))
  ·cases c3:(G (b<O D (0-n)))
   ·cases c4:(G (b>n))
    ·exact ALa CV rfl [bT,.v (M [A D a,A D b]),Y,Y,Y,Y,Y] (EQ Cj (show 0<=(0:Int)/\(0:Int)<(1:Nat) from (by decide)) (show Ad [A D a,A D b] 0 2 false=some (M [A D a,A D b]) from rfl) c1 c2 c3 c4 Dx)
    ·exact ALa CV rfl [bT,.v (M [A D a,A D b]),Y,Y,Y,bT] (Gs Cj (show 0<=(0:Int)/\(0:Int)<(1:Nat) from (by decide)) (show Ad [A D a,A D b] 0 2 false=some (M [A D a,A D b]) from rfl) c1 c2 c3 c4)
   ·exact ALa CV rfl [bT,.v (M [A D a,A D b]),Y,Y,bT,bT] (Gs Cj (show 0<=(0:Int)/\(0:Int)<(1:Nat) from (by decide)) (show Ad [A D a,A D b] 0 2 false=some (M [A D a,A D b]) from rfl) c1 c2 c3 Cj)
  ·exact ALa CV rfl [bT,.v (M [A D a,A D b]),Y,bT,bT,bT] (Gs Cj (show 0<=(0:Int)/\(0:Int)<(1:Nat) from (by decide)) (show Ad [A D a,A D b] 0 2 false=some (M [A D a,A D b]) from rfl) c1 c2 Cj Cj)
 ·exact ALa CV rfl [bT,.v (M [A D a,A D b]),bT,bT,bT,bT] (Gs Cj (show 0<=(0:Int)/\(0:Int)<(1:Nat) from (by decide)) (show Ad [A D a,A D b] 0 2 false=some (M [A D a,A D b]) from rfl) c1 Cj Cj Cj)
theorem A9q(h0:0<=n)(h1:n<=4611686018427387904):QH n a b = I (Ct n a b):=by
 unfold QH Ct;simp only[N5,A' (n := -n) (by omega) (by omega)];repeat' split
 all_goals (simp_all <;> omega)
end
section
variable(n c d a b e f:Int)
def QI:AV :=
 match decide (c<O D (0-n)) with
 | true=>(I false)
 | false=>(match decide (c>n) with
 | true=>(I false)
 | false=>(match decide (d<O D (0-n)) with
 | true=>(I false)
 | false=>(match decide (d>n) with
 | true=>(I false)
 | false=>(match decide (a<O D (0-n)) with
 | true=>(I false)
 | false=>(match decide (a>n) with
 | true=>(I false)
 | false=>(match decide (b<O D (0-n)) with
 | true=>(I false)
 | false=>(match decide (b>n) with
 | true=>(I false)
 | false=>(match decide (e<O D (0-n)) with
 | true=>(I false)
 | false=>(match decide (e>n) with
 | true=>(I false)
 | false=>(match decide (f<O D (0-n)) with
 | true=>(I false)
 | false=>(match decide (f>n) with
 | true=>(I false)
 | false=>I true)))))))))))
theorem Agx  : RQ 145 [A D n,E 3 [A D c,A D d,A D a,A D b,A D e,A D f]] (QI n c d a b e f):=by
 unfold QI;cases c1:(G (c<O D (0-n)))
 ·cases c2:(G (c>n))
  ·cases c3:(G (d<O D (0-n)))
   ·cases c4:(G (d>n))
    ·cases g:(G (a<O D (0-n)))
     ·cases h:(G (a>n))
      ·cases i:(G (b<O D (0-n)))
       ·cases j:(G (b>n))
        ·cases k:(G (e<O D (0-n)))
         ·cases l:(G (e>n))
          ·cases m:(G (f<O D (0-n)))
           ·cases o:(G (f>n))
            ·exact ALa CV rfl [bT,.v (M [A D c,A D d]),Y,Y,Y,Y,bT,.v (M [A D a,A D b]),Y,Y,Y,Y,bT,.v (M [A D e,A D f]),Y,Y,Y,Y,Y] (ac Cj (ac (show 0<=(0:Int)/\(0:Int)<(3:Nat) from (by decide)) (Ec (show Ad [A D c,A D d,A D a,A D b,A D e,A D f] 0 2 false=some (M [A D c,A D d]) from rfl) c1 c2 c3 c4 Cj (show 0<=(1:Int)/\(1:Int)<(3:Nat) from (by decide)) (show Ad [A D a,A D b,A D e,A D f] 0 2 false=some (M [A D a,A D b]) from rfl) (Em g h i j Cj (show 0<=(2:Int)/\(2:Int)<(3:Nat) from (by decide)) (show Ad [A D e,A D f] 0 2 false=some (M [A D e,A D f]) from rfl) k l m o Dx))))
            ·exact ALa CV rfl [bT,.v (M [A D c,A D d]),Y,Y,Y,Y,bT,.v (M [A D a,A D b]),Y,Y,Y,Y,bT,.v (M [A D e,A D f]),Y,Y,Y,bT] (ac Cj (Ec (show 0<=(0:Int)/\(0:Int)<(3:Nat) from (by decide)) (show Ad [A D c,A D d,A D a,A D b,A D e,A D f] 0 2 false=some (M [A D c,A D d]) from rfl) c1 c2 c3 c4 Cj (show 0<=(1:Int)/\(1:Int)<(3:Nat) from (by decide)) (Em (show Ad [A D a,A D b,A D e,A D f] 0 2 false=some (M [A D a,A D b]) from rfl) g h i j Cj (show 0<=(2:Int)/\(2:Int)<(3:Nat) from (by decide)) (show Ad [A D e,A D f] 0 2 false=some (M [A D e,A D f]) from rfl) k l m o)))
           ·exact ALa CV rfl [bT,.v (M [A D c,A D d]),Y,Y,Y,Y,bT,.v (M [A D a,A D b]),Y,Y,Y,Y,bT,.v (M [A D e,A D f]),Y,Y,bT,bT] (ac Cj (Ec (show 0<=(0:Int)/\(0:Int)<(3:Nat) from (by decide)) (show Ad [A D c,A D d,A D a,A D b,A D e,A D f] 0 2 false=some (M [A D c,A D d]) from rfl) c1 c2 c3 c4 Cj (show 0<=(1:Int)/\(1:Int)<(3:Nat) from (by decide)) (Em (show Ad [A D a,A D b,A D e,A D f] 0 2 false=some (M [A D a,A D b]) from rfl) g h i j Cj (show 0<=(2:Int)/\(2:Int)<(3:Nat) from (by decide)) (show Ad [A D e,A D f] 0 2 false=some (M [A D e,A D f]) from rfl) k l m Cj)))
          ·exact ALa CV rfl [bT,.v (M [A D c,A D d]),Y,Y,Y,Y,bT,.v (M [A D a,A D b]),Y,Y,Y,Y,bT,.v (M [A D e,A D f]),Y,bT,bT,bT] (ac Cj (Ec (show 0<=(0:Int)/\(0:Int)<(3:Nat) from (by decide)) (show Ad [A D c,A D d,A D a,A D b,A D e,A D f] 0 2 false=some (M [A D c,A D d]) from rfl) c1 c2 c3 c4 Cj (show 0<=(1:Int)/\(1:Int)<(3:Nat) from (by decide)) (Em (show Ad [A D a,A D b,A D e,A D f] 0 2 false=some (M [A D a,A D b]) from rfl) g h i j Cj (show 0<=(2:Int)/\(2:Int)<(3:Nat) from (by decide)) (show Ad [A D e,A D f] 0 2 false=some (M [A D e,A D f]) from rfl) k l Cj Cj)))
         ·exact ALa CV rfl [bT,.v (M [A D c,A D d]),Y,Y,Y,Y,bT,.v (M [A D a,A D b]),Y,Y,Y,Y,bT,.v (M [A D e,A D f]),bT,bT,bT,bT] (ac Cj (Ec (show 0<=(0:Int)/\(0:Int)<(3:Nat) from (by decide)) (show Ad [A D c,A D d,A D a,A D b,A D e,A D f] 0 2 false=some (M [A D c,A D d]) from rfl) c1 c2 c3 c4 Cj (show 0<=(1:Int)/\(1:Int)<(3:Nat) from (by decide)) (Em (show Ad [A D a,A D b,A D e,A D f] 0 2 false=some (M [A D a,A D b]) from rfl) g h i j Cj (show 0<=(2:Int)/\(2:Int)<(3:Nat) from (by decide)) (show Ad [A D e,A D f] 0 2 false=some (M [A D e,A D f]) from rfl) k Cj Cj Cj)))
        ·exact ALa CV rfl [bT,.v (M [A D c,A D d]),Y,Y,Y,Y,bT,.v (M [A D a,A D b]),Y,Y,Y,bT] (Ec Cj (show 0<=(0:Int)/\(0:Int)<(3:Nat) from (by decide)) (show Ad [A D c,A D d,A D a,A D b,A D e,A D f] 0 2 false=some (M [A D c,A D d]) from rfl) c1 c2 c3 c4 Cj (EP (show 0<=(1:Int)/\(1:Int)<(3:Nat) from (by decide)) (show Ad [A D a,A D b,A D e,A D f] 0 2 false=some (M [A D a,A D b]) from rfl) g h i j))
       ·exact ALa CV rfl [bT,.v (M [A D c,A D d]),Y,Y,Y,Y,bT,.v (M [A D a,A D b]),Y,Y,bT,bT] (Ec Cj (show 0<=(0:Int)/\(0:Int)<(3:Nat) from (by decide)) (show Ad [A D c,A D d,A D a,A D b,A D e,A D f] 0 2 false=some (M [A D c,A D d]) from rfl) c1 c2 c3 c4 Cj (EP (show 0<=(1:Int)/\(1:Int)<(3:Nat) from (by decide)) (show Ad [A D a,A D b,A D e,A D f] 0 2 false=some (M [A D a,A D b]) from rfl) g h i Cj))
      ·exact ALa CV rfl [bT,.v (M [A D c,A D d]),Y,Y,Y,Y,bT,.v (M [A D a,A D b]),Y,bT,bT,bT] (Ec Cj (show 0<=(0:Int)/\(0:Int)<(3:Nat) from (by decide)) (show Ad [A D c,A D d,A D a,A D b,A D e,A D f] 0 2 false=some (M [A D c,A D d]) from rfl) c1 c2 c3 c4 Cj (EP (show 0<=(1:Int)/\(1:Int)<(3:Nat) from (by decide)) (show Ad [A D a,A D b,A D e,A D f] 0 2 false=some (M [A D a,A D b]) from rfl) g h Cj Cj))
     ·exact ALa CV rfl [bT,.v (M [A D c,A D d]),Y,Y,Y,Y,bT,.v (M [A D a,A D b]),bT,bT,bT,bT] (Ec Cj (show 0<=(0:Int)/\(0:Int)<(3:Nat) from (by decide)) (show Ad [A D c,A D d,A D a,A D b,A D e,A D f] 0 2 false=some (M [A D c,A D d]) from rfl) c1 c2 c3 c4 Cj (EP (show 0<=(1:Int)/\(1:Int)<(3:Nat) from (by decide)) (show Ad [A D a,A D b,A D e,A D f] 0 2 false=some (M [A D a,A D b]) from rfl) g Cj Cj Cj))
    ·exact ALa CV rfl [bT,.v (M [A D c,A D d]),Y,Y,Y,bT] (Gs Cj (show 0<=(0:Int)/\(0:Int)<(3:Nat) from (by decide)) (show Ad [A D c,A D d,A D a,A D b,A D e,A D f] 0 2 false=some (M [A D c,A D d]) from rfl) c1 c2 c3 c4)
   ·exact ALa CV rfl [bT,.v (M [A D c,A D d]),Y,Y,bT,bT] (Gs Cj (show 0<=(0:Int)/\(0:Int)<(3:Nat) from (by decide)) (show Ad [A D c,A D d,A D a,A D b,A D e,A D f] 0 2 false=some (M [A D c,A D d]) from rfl) c1 c2 c3 Cj)
  ·exact ALa CV rfl [bT,.v (M [A D c,A D d]),Y,bT,bT,bT] (Gs Cj (show 0<=(0:Int)/\(0:Int)<(3:Nat) from (by decide)) (show Ad [A D c,A D d,A D a,A D b,A D e,A D f] 0 2 false=some (M [A D c,A D d]) from rfl) c1 c2 Cj Cj)
 ·exact ALa CV rfl [bT,.v (M [A D c,A D d]),bT,bT,bT,bT] (Gs Cj (show 0<=(0:Int)/\(0:Int)<(3:Nat) from (by decide)) (show Ad [A D c,A D d,A D a,A D b,A D e,A D f] 0 2 false=some (M [A D c,A D d]) from rfl) c1 Cj Cj Cj)
theorem A9r(h0:0<=n)(h1:n<=4611686018427387904):QI n c d a b e f = I (Ct n c d&&Ct n a b&&Ct n e f):=by
 unfold QI Ct;simp only[N5,A' (n := -n) (by omega) (by omega)];repeat' split
 all_goals (simp_all <;> omega)
end
def ACy:u->Option (AV × List Prop)
 | [A D n,E 1 [A D a,A D b]]=>some (I (Ct n a b),[0<=n,n<=4611686018427387904])
 | [A D n,E 3 [A D a,A D b,A D c,A D d,A D e,A D f]]=>some (I (Ct n a b&&Ct n c d&&Ct n e f),[0<=n,n<=4611686018427387904])
 | _=>none
def TI2:Bx:=(145,ACy)::TI1
theorem YX:Be CQ TI2:=Be.cons CV (by
 intro args r ps h a;unfold ACy at h;split at h
 ·cases h;exact A9q _ _ _  a.1 a.2.1 ▸ Agw _ _ _ 
 ·cases h;exact A9r _ _ _ _ _ _ _  a.1 a.2.1 ▸ Agx _ _ _ _ _ _ _ 
 ·cases h)
def YY(x y:Int):Int × Int :=
 (O Ba (O Ba (O Ba (BA x (2^(min (J 32) (Co .u64)))*BA y (2^(min (J 32) (Co .u64))))+BA (O Ba (O Ba (BA x (2^(min (J 32) (Co .u64)))*O Ba ((AT (Co .u64) y &&& AT (Co .u64) 4294967295).toNat))+BA (O Ba (O Ba ((AT (Co .u64) x &&& AT (Co .u64) 4294967295).toNat)*O Ba ((AT (Co .u64) y &&& AT (Co .u64) 4294967295).toNat))) (2^(min (J 32) (Co .u64))))) (2^(min (J 32) (Co .u64))))+BA (O Ba (O Ba ((AT (Co .u64) (O Ba (O Ba (BA x (2^(min (J 32) (Co .u64)))*O Ba ((AT (Co .u64) y &&& AT (Co .u64) 4294967295).toNat))+BA (O Ba (O Ba ((AT (Co .u64) x &&& AT (Co .u64) 4294967295).toNat)*O Ba ((AT (Co .u64) y &&& AT (Co .u64) 4294967295).toNat))) (2^(min (J 32) (Co .u64))))) &&& AT (Co .u64) 4294967295).toNat)+O Ba (O Ba ((AT (Co .u64) x &&& AT (Co .u64) 4294967295).toNat)*BA y (2^(min (J 32) (Co .u64)))))) (2^(min (J 32) (Co .u64)))),O Ba (x*y))
theorem A0g(x y:Int)  : RQ 226 [A Ba x,A Ba y] (Hm [A Ba ((YY x y).1),A Ba ((YY x y).2)]):=by
 unfold YY;exact ALa YX rfl [] (Fh NO NO NO NO NO)
theorem OE{n:Int}(h1:0<=n)(h2:n<18446744073709551616):O Ba n=n:=by
 simp only[O,Co,IntKind.signed,Ea,AC,if_false];omega
theorem UR(n:Int):O Ba n=n % 18446744073709551616:=by
 simp only[O,Co,IntKind.signed,Ea,AC,if_false];omega
theorem pI{x:Int}(h1:0<=x)(h2:x<18446744073709551616):O Ba ((AT (Co .u64) x &&& AT (Co .u64) 4294967295).toNat)=x % 4294967296:=by
 obtain⟨n,rfl⟩:∃ n:Nat,x=n:=⟨x.toNat,by omega⟩;show O Ba ((AT 64 (n:Int) &&& AT 64 ((4294967295:Nat):Int)).toNat)=_;rw[BitVec.toNat_and,KE,KE,MI,MI,Io (by omega),Io (by omega)];have:n &&& 4294967295=n % 4294967296:=Nat.and_two_pow_sub_one_eq_mod n 32;rw[this];have:=Nat.mod_lt n (show 0<4294967296 by omega);rw[OE (by omega) (by omega)];omega
theorem AHc{x:Int}:BA x (2^(min (J 32) (Co .u64)))=x / 4294967296:=by
 show BA x 4294967296=_;rw[Gh _ (by omega)]
theorem T8{a b M:Int}(h1:0<=a)(h2:a<=M)(c:0<=b)(d:b<=M):0<=a*b/\a*b<=M*M :=
 ⟨FS h1 c,J4 h2 d c (by omega)⟩
theorem Ars{x y:Int}(h:0<=x/\x<18446744073709551616/\0<=y/\y<18446744073709551616):YY x y=((x*y) / 18446744073709551616,(x*y) % 18446744073709551616):=by
 obtain⟨f,g,i,j⟩:=h;unfold YY;rw[pI f g,pI i j];simp only[AHc];generalize l:x / 4294967296=a;generalize m:x % 4294967296=b;generalize o:y / 4294967296=c;generalize p:y % 4294967296=d;have q:=T8 (a:=a) (b:=c) (M:=4294967295) (by omega) (by omega) (by omega) (by omega);have r:=T8 (a:=a) (b:=d) (M:=4294967295) (by omega) (by omega) (by omega) (by omega);have s:=T8 (a:=b) (b:=c) (M:=4294967295) (by omega) (by omega) (by omega) (by omega);have t:=T8 (a:=b) (b:=d) (M:=4294967295) (by omega) (by omega) (by omega) (by omega);have e:x*y=(a*c)*18446744073709551616+(a*d+b*c)*4294967296+b*d:=by
  have ex:x=a*4294967296+b:=by omega
  have k:y=c*4294967296+d:=by omega
  rw[ex,k];grind
 rw[OE (n:=b*d) (by omega) (by omega),OE (n:=a*d) (by omega) (by omega),OE (n:=a*c) (by omega) (by omega),OE (n:=b*c) (by omega) (by omega)];rw[OE (n:=a*d+b*d / 4294967296) (by omega) (by omega)];rw[pI (by omega) (by omega)];rw[OE (n:=(a*d+b*d / 4294967296) % 4294967296+b*c) (by omega) (by omega)];rw[OE (n:=a*c+(a*d+b*d / 4294967296) / 4294967296) (by omega) (by omega)];rw[OE (by omega) (by omega),UR (x*y),e];congr 1;omega
theorem Agy{x y:Int}(h:0<=x/\x<18446744073709551616/\0<=y/\y<18446744073709551616):RQ 226 [A Ba x,A Ba y] (Hm [A Ba ((x*y) / 18446744073709551616),A Ba ((x*y) % 18446744073709551616)]):=by
 have:=A0g x y;rw[Ars h] at this;exact this
theorem Nb(x y:Int):0<=O Ba x/\O Ba x<18446744073709551616/\0<=O Ba y/\O Ba y<18446744073709551616:=by
 rw[UR,UR];omega
def ACz:u->Option (AV × List Prop)
 | [A Ba x,A Ba y]=>some (Hm [A Ba ((x*y) / 18446744073709551616),A Ba ((x*y) % 18446744073709551616)],[0<=x/\x<18446744073709551616/\0<=y/\y<18446744073709551616])
 | _=>none
def TI3:Bx:=(226,ACz)::TI2
theorem N':Be CQ TI3:=Be.cons YX (by
 intro args r ps h a;unfold ACz at h;split at h
 ·cases h;exact Agy a.1
 ·cases h)
def QJ(c a n:Int):Bool :=
 match decide (((O Ba c*O Ba c) / 18446744073709551616)<((O Ba (O D (a*a))*O Ba n) / 18446744073709551616)) with
 | true=>(true)
 | false=>(match ((O Ba c*O Ba c) / 18446744073709551616)==((O Ba (O D (a*a))*O Ba n) / 18446744073709551616) with
 | true=>((G (((O Ba c*O Ba c) % 18446744073709551616)<((O Ba (O D (a*a))*O Ba n) % 18446744073709551616))))
 | false=>false)
theorem A0h(c a n:Int)  : RQ 137 [A D c,A D a,A D n] (I (QJ c a n)):=by
 unfold QJ;cases c1:(G (((O Ba c*O Ba c) / 18446744073709551616)<((O Ba (O D (a*a))*O Ba n) / 18446744073709551616)))
 ·cases c2:(((O Ba c*O Ba c) / 18446744073709551616)==((O Ba (O D (a*a))*O Ba n) / 18446744073709551616))
  ·exact ALa N' rfl [Y,Y,Y,Y] (EP (show 0<=O Ba c/\O Ba c<18446744073709551616/\0<=O Ba c/\O Ba c<18446744073709551616 from (Nb _ _)) (show 0<=O Ba (O D (a*a))/\O Ba (O D (a*a))<18446744073709551616/\0<=O Ba n/\O Ba n<18446744073709551616 from (Nb _ _)) c1 c2 c1 c2)
  ·exact ALa N' rfl [Y,bT,Y,bT] (EP (show 0<=O Ba c/\O Ba c<18446744073709551616/\0<=O Ba c/\O Ba c<18446744073709551616 from (Nb _ _)) (show 0<=O Ba (O D (a*a))/\O Ba (O D (a*a))<18446744073709551616/\0<=O Ba n/\O Ba n<18446744073709551616 from (Nb _ _)) c1 c2 c1 c2)
 ·exact ALa N' rfl [bT] (Fa (show 0<=O Ba c/\O Ba c<18446744073709551616/\0<=O Ba c/\O Ba c<18446744073709551616 from (Nb _ _)) (show 0<=O Ba (O D (a*a))/\O Ba (O D (a*a))<18446744073709551616/\0<=O Ba n/\O Ba n<18446744073709551616 from (Nb _ _)) c1)
def ADa:u->Option (AV × List Prop)
 | [A D c,A D a,A D n]=>some (I (QJ c a n),[])
 | _=>none
def TI4:Bx:=(137,ADa)::TI3
theorem Jy:Be CQ TI4:=Be.cons N' (by
 intro args r ps h a;unfold ADa at h;split at h
 ·cases h;exact A0h _ _ _ 
 ·cases h)
section
variable(a b c d e:Int)
def FZ:Bool :=
 match Ct 2097152 a b with
 | true=>(match Ct 1048576 c d with
 | true=>(match decide (e<1) with
 | true=>(false)
 | false=>(match decide (e>524288) with
 | true=>(false)
 | false=>((G (Bs ((X a b c d).1) ((X a b c d).2) ((X a b c d).1) ((X a b c d).2)<O D (e*e))))))
 | false=>false)
 | false=>(false)
theorem Amc  : RQ 62 [M [A D a,A D b],M [A D c,A D d],A D e] (I (FZ a b c d e)):=by
 unfold FZ;cases c1:(Ct 2097152 a b)
 ·exact ALa Jy rfl [bT,bT,bT,bT] (EP NP Cd (AKj c1) Cj Cj Cj)
 ·cases c2:(Ct 1048576 c d)
  ·exact ALa Jy rfl [Y,bT,bT,bT] (EQ NP Cd (AKg c1) NQ OB (AKj c2) Cj Cj)
  ·cases c3:(G (e<1))
   ·cases c4:(G (e>524288))
    ·exact ALa Jy rfl [Y,Y,Y,Y] (EQ NP Cd (AKg c1) NQ OB (AKg c2) c3 c4)
    ·exact ALa Jy rfl [Y,Y,Y,bT] (EQ NP Cd (AKg c1) NQ OB (AKg c2) c3 c4)
   ·exact ALa Jy rfl [Y,Y,bT,bT] (EQ NP Cd (AKg c1) NQ OB (AKg c2) c3 Cj)
end
def g62:u->Option (AV × List Prop)
 | [M [A D a,A D b],M [A D c,A D d],A D e]=>some (I (FZ a b c d e),[])
 | _=>none
def TI5:Bx:=(62,g62)::TI4
theorem Gf:Be CQ TI5:=Be.cons Jy (by
 intro args r ps h a;unfold g62 at h;split at h
 ·cases h;exact Amc _ _ _ _ _ 
 ·cases h)
section
variable(e f a b c d g:Int)
def KY:Bool :=
 match Ct 2097152 e f with
 | true=>(match Ct 1048576 a b&&Ct 1048576 c d with
 | true=>(match decide (g<1) with
 | true=>(false)
 | false=>(match decide (g>524288) with
 | true=>(false)
 | false=>(match FZ e f a b g with
 | true=>(true)
 | false=>(match FZ e f c d g with
 | true=>(true)
 | false=>(match decide (Bs ((X e f a b).1) ((X e f a b).2) ((X c d a b).1) ((X c d a b).2)<=0) with
 | true=>(false)
 | false=>(match decide (Bs ((X e f a b).1) ((X e f a b).2) ((X c d a b).1) ((X c d a b).2)>=Bs ((X c d a b).1) ((X c d a b).2) ((X c d a b).1) ((X c d a b).2)) with
 | true=>(false)
 | false=>((QJ (if (O D (0-(Bq ((X c d a b).1) ((X c d a b).2) ((X e f a b).1) ((X e f a b).2))))>(Bq ((X c d a b).1) ((X c d a b).2) ((X e f a b).1) ((X e f a b).2)) then (O D (0-(Bq ((X c d a b).1) ((X c d a b).2) ((X e f a b).1) ((X e f a b).2)))) else (Bq ((X c d a b).1) ((X c d a b).2) ((X e f a b).1) ((X e f a b).2))) g (Bs ((X c d a b).1) ((X c d a b).2) ((X c d a b).1) ((X c d a b).2))))))))))
 | false=>false)
 | false=>(false)
theorem Amd  : RQ 57 [M [A D e,A D f],M [A D a,A D b],M [A D c,A D d],A D g] (I (KY e f a b c d g)):=by
 unfold KY;cases c1:(Ct 2097152 e f)
 ·exact ALa Gf rfl [bT,bT,bT,bT] (EP NP Cd (AKj c1) Cj Cj Cj)
 ·cases c2:(Ct 1048576 a b&&Ct 1048576 c d)
  ·exact ALa Gf rfl [Y,bT,bT,bT] (EQ NP Cd (AKg c1) NQ OB (AKj c2) Cj Cj)
  ·cases c3:(G (g<1))
   ·cases c4:(G (g>524288))
    ·cases h:(FZ e f a b g)
     ·cases i:(FZ e f c d g)
      ·cases j:(G (Bs ((X e f a b).1) ((X e f a b).2) ((X c d a b).1) ((X c d a b).2)<=0))
       ·cases k:(G (Bs ((X e f a b).1) ((X e f a b).2) ((X c d a b).1) ((X c d a b).2)>=Bs ((X c d a b).1) ((X c d a b).2) ((X c d a b).1) ((X c d a b).2)))
        ·exact ALa Gf rfl [Y,Y,Y,Y,Y,Y,Y,Y] (Em NP Cd (AKg c1) NQ OB (AKg c2) c3 c4 h i j k)
        ·exact ALa Gf rfl [Y,Y,Y,Y,Y,Y,Y,bT] (Em NP Cd (AKg c1) NQ OB (AKg c2) c3 c4 h i j k)
       ·exact ALa Gf rfl [Y,Y,Y,Y,Y,Y,bT,bT] (Em NP Cd (AKg c1) NQ OB (AKg c2) c3 c4 h i j Cj)
      ·exact ALa Gf rfl [Y,Y,Y,Y,Y,bT] (Fm NP Cd (AKg c1) NQ OB (AKg c2) c3 c4 h i)
     ·exact ALa Gf rfl [Y,Y,Y,Y,bT,bT] (Fm NP Cd (AKg c1) NQ OB (AKg c2) c3 c4 h Cj)
    ·exact ALa Gf rfl [Y,Y,Y,bT] (EQ NP Cd (AKg c1) NQ OB (AKg c2) c3 c4)
   ·exact ALa Gf rfl [Y,Y,bT,bT] (EQ NP Cd (AKg c1) NQ OB (AKg c2) c3 Cj)
end
def g57:u->Option (AV × List Prop)
 | [M [A D a,A D b],M [A D c,A D d],M [A D e,A D f],A D g]=>some (I (KY a b c d e f g),[])
 | _=>none
def TI6:Bx:=(57,g57)::TI5
theorem Hn:Be CQ TI6:=Be.cons Gf (by
 intro args r ps h a;unfold g57 at h;split at h
 ·cases h;exact Amd _ _ _ _ _ _ _ 
 ·cases h)
theorem KZ(a b c d:Int):Bs a b c d<=9223372036854775807:=by
 unfold Bs;split
 next h=>simp only[U] at h;have e:=CI h.1;have f:=CI h.2;have g:=Ep (x:=a) (y:=c) (by omega) (by omega) (by omega) (by omega);have i:=Ep (x:=b) (y:=d) (by omega) (by omega) (by omega) (by omega);omega
 ·omega
def DJ(a b c d ex e:Int):Int × Bool :=
 match Ct 1048576 a b&&Ct 1048576 c d&&Ct 1048576 ex e with
 | true=>(match (O D (EY (Bs ((X c d a b).1) ((X c d a b).2) ((X c d a b).1) ((X c d a b).2))*EY (Bs ((X c d a b).1) ((X c d a b).2) ((X c d a b).1) ((X c d a b).2)))) != (Bs ((X c d a b).1) ((X c d a b).2) ((X c d a b).1) ((X c d a b).2)) with
 | true=>((0,false))
 | false=>(match (Bs ((X ex e a b).1) ((X ex e a b).2) ((X ex e a b).1) ((X ex e a b).2)) != (Bs ((X c d a b).1) ((X c d a b).2) ((X c d a b).1) ((X c d a b).2)) with
 | true=>((0,false))
 | false=>(match decide (EY (Bs ((X c d a b).1) ((X c d a b).2) ((X c d a b).1) ((X c d a b).2))<1) with
 | true=>((0,false))
 | false=>(match decide (EY (Bs ((X c d a b).1) ((X c d a b).2) ((X c d a b).1) ((X c d a b).2))>262144) with
 | true=>((0,false))
 | false=>(match decide (Bq ((X c d a b).1) ((X c d a b).2) ((X ex e a b).1) ((X ex e a b).2)<=0) with
 | true=>((0,false))
 | false=>((EY (Bs ((X c d a b).1) ((X c d a b).2) ((X c d a b).1) ((X c d a b).2)),true)))))))
 | false=>((0,false))
theorem A0i(nm:ByteArray)(h a b c d ex e rs i j k:Int)  : RQ 144 [M [.str nm,A D h,A D a,A D b,A D c,A D d,A D ex,A D e,A D rs,A D i,A D j,A D k]] (Hm [A D ((DJ a b c d ex e).1),I ((DJ a b c d ex e).2)]):=by
 unfold DJ;cases c1:(Ct 1048576 a b&&Ct 1048576 c d&&Ct 1048576 ex e)
 ·exact ALa Hn rfl [bT] (Fa NQ OB (AKj c1))
 ·cases c2:((O D (EY (Bs ((X c d a b).1) ((X c d a b).2) ((X c d a b).1) ((X c d a b).2))*EY (Bs ((X c d a b).1) ((X c d a b).2) ((X c d a b).1) ((X c d a b).2)))) != (Bs ((X c d a b).1) ((X c d a b).2) ((X c d a b).1) ((X c d a b).2)))
  ·cases c3:((Bs ((X ex e a b).1) ((X ex e a b).2) ((X ex e a b).1) ((X ex e a b).2)) != (Bs ((X c d a b).1) ((X c d a b).2) ((X c d a b).1) ((X c d a b).2)))
   ·cases c4:(G (EY (Bs ((X c d a b).1) ((X c d a b).2) ((X c d a b).1) ((X c d a b).2))<1))
    ·cases f:(G (EY (Bs ((X c d a b).1) ((X c d a b).2) ((X c d a b).1) ((X c d a b).2))>262144))
     ·cases g:(G (Bq ((X c d a b).1) ((X c d a b).2) ((X ex e a b).1) ((X ex e a b).2)<=0))
      ·exact ALa Hn rfl [Y,Y,Y,Y,Y,Y] (K0 NQ OB (AKg c1) (show (Bs ((X c d a b).1) ((X c d a b).2) ((X c d a b).1) ((X c d a b).2))<=9223372036854775807 from (KZ _ _ _ _)) c2 c3 c4 f g)
      ·exact ALa Hn rfl [Y,Y,Y,Y,Y,bT] (K0 NQ OB (AKg c1) (show (Bs ((X c d a b).1) ((X c d a b).2) ((X c d a b).1) ((X c d a b).2))<=9223372036854775807 from (KZ _ _ _ _)) c2 c3 c4 f g)
     ·exact ALa Hn rfl [Y,Y,Y,Y,bT,bT] (K0 NQ OB (AKg c1) (show (Bs ((X c d a b).1) ((X c d a b).2) ((X c d a b).1) ((X c d a b).2))<=9223372036854775807 from (KZ _ _ _ _)) c2 c3 c4 f Cj)
    ·exact ALa Hn rfl [Y,Y,Y,bT,bT,bT] (K0 NQ OB (AKg c1) (show (Bs ((X c d a b).1) ((X c d a b).2) ((X c d a b).1) ((X c d a b).2))<=9223372036854775807 from (KZ _ _ _ _)) c2 c3 c4 Cj Cj)
   ·exact ALa Hn rfl [Y,Y,bT,bT,bT,bT] (K0 NQ OB (AKg c1) (show (Bs ((X c d a b).1) ((X c d a b).2) ((X c d a b).1) ((X c d a b).2))<=9223372036854775807 from (KZ _ _ _ _)) c2 c3 Cj Cj Cj)
  ·exact ALa Hn rfl [Y,bT,bT,bT,bT,bT] (K0 NQ OB (AKg c1) (show (Bs ((X c d a b).1) ((X c d a b).2) ((X c d a b).1) ((X c d a b).2))<=9223372036854775807 from (KZ _ _ _ _)) c2 Cj Cj Cj Cj)
def ADb:u->Option (AV × List Prop)
 | [M [.str _,A D _,A D a,A D b,A D c,A D d,A D ex,A D e,A D _,A D _,A D _,A D _]]=>some (Hm [A D ((DJ a b c d ex e).1),I ((DJ a b c d ex e).2)],[])
 | _=>none
def TI7:Bx:=(144,ADb)::TI6
theorem FE:Be CQ TI7:=Be.cons Hn (by
 intro args r ps h a;unfold ADb at h;split at h
 ·cases h;exact A0i _ _ _ _ _ _ _ _ _ _ _ _ 
 ·cases h)
def QK(px py a b c d ex e f:Int):Bool :=
 match (DJ a b c d ex e).2 with
 | true=>(match decide (f<1) with
 | true=>(false)
 | false=>(match decide (f>=((DJ a b c d ex e).1)) with
 | true=>(false)
 | false=>(match Ct 2097152 px py with
 | true=>(match FZ px py c d f with
 | true=>(true)
 | false=>(match FZ px py ex e f with
 | true=>(true)
 | false=>(match decide (Bq ((X c d a b).1) ((X c d a b).2) ((X px py a b).1) ((X px py a b).2)<=0) with
 | true=>(false)
 | false=>(match decide (Bq ((X px py a b).1) ((X px py a b).2) ((X ex e a b).1) ((X ex e a b).2)<=0) with
 | true=>(false)
 | false=>(match decide (Bs ((X px py a b).1) ((X px py a b).2) ((X px py a b).1) ((X px py a b).2)<O D (O D (((DJ a b c d ex e).1)+f)*O D (((DJ a b c d ex e).1)+f))) with
 | true=>((G (Bs ((X px py a b).1) ((X px py a b).2) ((X px py a b).1) ((X px py a b).2)>O D (O D (((DJ a b c d ex e).1)-f)*O D (((DJ a b c d ex e).1)-f)))))
 | false=>false)))))
 | false=>false)))
 | false=>false
theorem Ame(px py:Int)(nm:ByteArray)(l a b c d ex e rs m n o f:Int)  : RQ 61 [M [A D px,A D py],M [.str nm,A D l,A D a,A D b,A D c,A D d,A D ex,A D e,A D rs,A D m,A D n,A D o],A D f] (I (QK px py a b c d ex e f)):=by
 unfold QK;cases c1:((DJ a b c d ex e).2)
 ·exact ALa FE rfl [bT,bT,bT,bT] (Fk (AKj c1) Cj Cj Cj)
 ·cases c2:(G (f<1))
  ·cases c3:(G (f>=((DJ a b c d ex e).1)))
   ·cases c4:(Ct 2097152 px py)
    ·exact ALa FE rfl [Y,Y,Y,bT] (EP (AKg c1) c2 c3 NP Cd (AKj c4))
    ·cases g:(FZ px py c d f)
     ·cases h:(FZ px py ex e f)
      ·cases i:(G (Bq ((X c d a b).1) ((X c d a b).2) ((X px py a b).1) ((X px py a b).2)<=0))
       ·cases j:(G (Bq ((X px py a b).1) ((X px py a b).2) ((X ex e a b).1) ((X ex e a b).2)<=0))
        ·cases k:(G (Bs ((X px py a b).1) ((X px py a b).2) ((X px py a b).1) ((X px py a b).2)<O D (O D (((DJ a b c d ex e).1)+f)*O D (((DJ a b c d ex e).1)+f))))
         ·exact ALa FE rfl [Y,Y,Y,Y,Y,Y,Y,Y,Y] (G3 (AKg c1) c2 c3 NP Cd (AKg c4) g h i j k)
         ·exact ALa FE rfl [Y,Y,Y,Y,Y,Y,Y,Y,bT] (G3 (AKg c1) c2 c3 NP Cd (AKg c4) g h i j k)
        ·exact ALa FE rfl [Y,Y,Y,Y,Y,Y,Y,bT] (Fm (AKg c1) c2 c3 NP Cd (AKg c4) g h i j)
       ·exact ALa FE rfl [Y,Y,Y,Y,Y,Y,bT,bT] (Fm (AKg c1) c2 c3 NP Cd (AKg c4) g h i Cj)
      ·exact ALa FE rfl [Y,Y,Y,Y,Y,bT] (EQ (AKg c1) c2 c3 NP Cd (AKg c4) g h)
     ·exact ALa FE rfl [Y,Y,Y,Y,bT,bT] (EQ (AKg c1) c2 c3 NP Cd (AKg c4) g Cj)
   ·exact ALa FE rfl [Y,Y,bT,bT] (Fk (AKg c1) c2 c3 Cj)
  ·exact ALa FE rfl [Y,bT,bT,bT] (Fk (AKg c1) c2 Cj Cj)
def g61:u->Option (AV × List Prop)
 | [M [A D px,A D py],M [.str _,A D _,A D a,A D b,A D c,A D d,A D ex,A D e,A D _,A D _,A D _,A D _],A D f]=>some (I (QK px py a b c d ex e f),[])
 | _=>none
def TI8:Bx:=(61,g61)::TI7
theorem D8:Be CQ TI8:=Be.cons FE (by
 intro args r ps h a;unfold g61 at h;split at h
 ·cases h;exact Ame _ _ _ _ _ _ _ _ _ _ _ _ _ _ _ 
 ·cases h)
def C8(lo hi x:Int):Bool:=decide (lo<=x)&&decide (x<=hi)
section
variable(lo hi a:Int)
def QL:AV :=
 match decide (a<lo) with
 | true=>(I false)
 | false=>(match decide (a>hi) with
 | true=>(I false)
 | false=>I true)
theorem Agz  : RQ 147 [A D lo,A D hi,E 1 [A D a]] (QL lo hi a):=by
 unfold QL;cases c1:(G (a<lo))
 ·cases c2:(G (a>hi))
  ·exact ALa D8 rfl [bT,.v (A D a),Y,Y,Y] (EP Cj (show 0<=(0:Int)/\(0:Int)<(1:Nat) from (by decide)) (show Ad [A D a] 0 1 true=some (A D a) from rfl) c1 c2 Dx)
  ·exact ALa D8 rfl [bT,.v (A D a),Y,bT] (Fh Cj (show 0<=(0:Int)/\(0:Int)<(1:Nat) from (by decide)) (show Ad [A D a] 0 1 true=some (A D a) from rfl) c1 c2)
 ·exact ALa D8 rfl [bT,.v (A D a),bT,bT] (Fh Cj (show 0<=(0:Int)/\(0:Int)<(1:Nat) from (by decide)) (show Ad [A D a] 0 1 true=some (A D a) from rfl) c1 Cj)
theorem A9s:QL lo hi a = I (C8 lo hi a):=by
 unfold QL C8;repeat' split
 all_goals (simp_all <;> omega)
end
section
variable(lo hi a b:Int)
def QM:AV :=
 match decide (a<lo) with
 | true=>(I false)
 | false=>(match decide (a>hi) with
 | true=>(I false)
 | false=>(match decide (b<lo) with
 | true=>(I false)
 | false=>(match decide (b>hi) with
 | true=>(I false)
 | false=>I true)))
theorem Aha  : RQ 147 [A D lo,A D hi,E 2 [A D a,A D b]] (QM lo hi a b):=by
 unfold QM;cases c1:(G (a<lo))
 ·cases c2:(G (a>hi))
  ·cases c3:(G (b<lo))
   ·cases c4:(G (b>hi))
    ·exact ALa D8 rfl [bT,.v (A D a),Y,Y,bT,.v (A D b),Y,Y,Y] (G3 Cj (show 0<=(0:Int)/\(0:Int)<(2:Nat) from (by decide)) (show Ad [A D a,A D b] 0 1 true=some (A D a) from rfl) c1 c2 Cj (show 0<=(1:Int)/\(1:Int)<(2:Nat) from (by decide)) (show Ad [A D b] 0 1 true=some (A D b) from rfl) c3 c4 Dx)
    ·exact ALa D8 rfl [bT,.v (A D a),Y,Y,bT,.v (A D b),Y,bT] (Fm Cj (show 0<=(0:Int)/\(0:Int)<(2:Nat) from (by decide)) (show Ad [A D a,A D b] 0 1 true=some (A D a) from rfl) c1 c2 Cj (show 0<=(1:Int)/\(1:Int)<(2:Nat) from (by decide)) (show Ad [A D b] 0 1 true=some (A D b) from rfl) c3 c4)
   ·exact ALa D8 rfl [bT,.v (A D a),Y,Y,bT,.v (A D b),bT,bT] (Fm Cj (show 0<=(0:Int)/\(0:Int)<(2:Nat) from (by decide)) (show Ad [A D a,A D b] 0 1 true=some (A D a) from rfl) c1 c2 Cj (show 0<=(1:Int)/\(1:Int)<(2:Nat) from (by decide)) (show Ad [A D b] 0 1 true=some (A D b) from rfl) c3 Cj)
  ·exact ALa D8 rfl [bT,.v (A D a),Y,bT] (Fh Cj (show 0<=(0:Int)/\(0:Int)<(2:Nat) from (by decide)) (show Ad [A D a,A D b] 0 1 true=some (A D a) from rfl) c1 c2)
 ·exact ALa D8 rfl [bT,.v (A D a),bT,bT] (Fh Cj (show 0<=(0:Int)/\(0:Int)<(2:Nat) from (by decide)) (show Ad [A D a,A D b] 0 1 true=some (A D a) from rfl) c1 Cj)
theorem A9t:QM lo hi a b = I (C8 lo hi a&&C8 lo hi b):=by
 unfold QM C8;repeat' split
 all_goals (simp_all <;> omega)
end
section
variable(lo hi b a c:Int)
def QN:AV :=
 match decide (b<lo) with
 | true=>(I false)
 | false=>(match decide (b>hi) with
 | true=>(I false)
 | false=>(match decide (a<lo) with
 | true=>(I false)
 | false=>(match decide (a>hi) with
 | true=>(I false)
 | false=>(match decide (c<lo) with
 | true=>(I false)
 | false=>(match decide (c>hi) with
 | true=>(I false)
 | false=>I true)))))
theorem Ahb  : RQ 147 [A D lo,A D hi,E 3 [A D b,A D a,A D c]] (QN lo hi b a c):=by
 unfold QN;cases c1:(G (b<lo))
 ·cases c2:(G (b>hi))
  ·cases c3:(G (a<lo))
   ·cases c4:(G (a>hi))
    ·cases d:(G (c<lo))
     ·cases e:(G (c>hi))
      ·exact ALa D8 rfl [bT,.v (A D b),Y,Y,bT,.v (A D a),Y,Y,bT,.v (A D c),Y,Y,Y] (Ec Cj (show 0<=(0:Int)/\(0:Int)<(3:Nat) from (by decide)) (show Ad [A D b,A D a,A D c] 0 1 true=some (A D b) from rfl) c1 c2 Cj (show 0<=(1:Int)/\(1:Int)<(3:Nat) from (by decide)) (show Ad [A D a,A D c] 0 1 true=some (A D a) from rfl) (EQ c3 c4 Cj (show 0<=(2:Int)/\(2:Int)<(3:Nat) from (by decide)) (show Ad [A D c] 0 1 true=some (A D c) from rfl) d e Dx))
      ·exact ALa D8 rfl [bT,.v (A D b),Y,Y,bT,.v (A D a),Y,Y,bT,.v (A D c),Y,bT] (Ec Cj (show 0<=(0:Int)/\(0:Int)<(3:Nat) from (by decide)) (show Ad [A D b,A D a,A D c] 0 1 true=some (A D b) from rfl) c1 c2 Cj (show 0<=(1:Int)/\(1:Int)<(3:Nat) from (by decide)) (show Ad [A D a,A D c] 0 1 true=some (A D a) from rfl) (Gs c3 c4 Cj (show 0<=(2:Int)/\(2:Int)<(3:Nat) from (by decide)) (show Ad [A D c] 0 1 true=some (A D c) from rfl) d e))
     ·exact ALa D8 rfl [bT,.v (A D b),Y,Y,bT,.v (A D a),Y,Y,bT,.v (A D c),bT,bT] (Ec Cj (show 0<=(0:Int)/\(0:Int)<(3:Nat) from (by decide)) (show Ad [A D b,A D a,A D c] 0 1 true=some (A D b) from rfl) c1 c2 Cj (show 0<=(1:Int)/\(1:Int)<(3:Nat) from (by decide)) (show Ad [A D a,A D c] 0 1 true=some (A D a) from rfl) (Gs c3 c4 Cj (show 0<=(2:Int)/\(2:Int)<(3:Nat) from (by decide)) (show Ad [A D c] 0 1 true=some (A D c) from rfl) d Cj))
    ·exact ALa D8 rfl [bT,.v (A D b),Y,Y,bT,.v (A D a),Y,bT] (Fm Cj (show 0<=(0:Int)/\(0:Int)<(3:Nat) from (by decide)) (show Ad [A D b,A D a,A D c] 0 1 true=some (A D b) from rfl) c1 c2 Cj (show 0<=(1:Int)/\(1:Int)<(3:Nat) from (by decide)) (show Ad [A D a,A D c] 0 1 true=some (A D a) from rfl) c3 c4)
   ·exact ALa D8 rfl [bT,.v (A D b),Y,Y,bT,.v (A D a),bT,bT] (Fm Cj (show 0<=(0:Int)/\(0:Int)<(3:Nat) from (by decide)) (show Ad [A D b,A D a,A D c] 0 1 true=some (A D b) from rfl) c1 c2 Cj (show 0<=(1:Int)/\(1:Int)<(3:Nat) from (by decide)) (show Ad [A D a,A D c] 0 1 true=some (A D a) from rfl) c3 Cj)
  ·exact ALa D8 rfl [bT,.v (A D b),Y,bT] (Fh Cj (show 0<=(0:Int)/\(0:Int)<(3:Nat) from (by decide)) (show Ad [A D b,A D a,A D c] 0 1 true=some (A D b) from rfl) c1 c2)
 ·exact ALa D8 rfl [bT,.v (A D b),bT,bT] (Fh Cj (show 0<=(0:Int)/\(0:Int)<(3:Nat) from (by decide)) (show Ad [A D b,A D a,A D c] 0 1 true=some (A D b) from rfl) c1 Cj)
theorem A9u:QN lo hi b a c = I (C8 lo hi b&&C8 lo hi a&&C8 lo hi c):=by
 unfold QN C8;repeat' split
 all_goals (simp_all <;> omega)
end
def ADc:u->Option (AV × List Prop)
 | [A D lo,A D hi,E 1 [A D a]]=>some (I (C8 lo hi a),[])
 | [A D lo,A D hi,E 2 [A D a,A D b]]=>some (I (C8 lo hi a&&C8 lo hi b),[])
 | [A D lo,A D hi,E 3 [A D a,A D b,A D c]]=>some (I (C8 lo hi a&&C8 lo hi b&&C8 lo hi c),[])
 | _=>none
def TI9:Bx:=(147,ADc)::TI8
theorem DM:Be CQ TI9:=Be.cons D8 (by
 intro args r ps h a;unfold ADc at h;split at h
 ·cases h;exact A9s _ _ _  ▸ Agz _ _ _ 
 ·cases h;exact A9t _ _ _ _  ▸ Aha _ _ _ _ 
 ·cases h;exact A9u _ _ _ _ _  ▸ Ahb _ _ _ _ _ 
 ·cases h)
def GX(px py ln lo hi a b mx:Int):Bool:=C8 (-1048576) 1048576 px&&C8 (-1048576) 1048576 py&&C8 1 262144 ln&&C8 (-256) 256 lo&&C8 (-256) 256 hi&&decide (lo<hi)&&C8 1 64 a&&C8 1 64 b&&C8 1 64 mx&&decide (O D (mx*ln)<=2097152)
def pJ(px py ln lo hi a b mx c:Int):Bool :=
 match C8 (-1048576) 1048576 px&&C8 (-1048576) 1048576 py with
 | true=>(match C8 1 262144 ln with
 | true=>(match C8 (-256) 256 lo&&C8 (-256) 256 hi with
 | true=>(match decide (lo<hi) with
 | true=>(match C8 1 64 a&&C8 1 64 b&&C8 1 64 mx with
 | true=>(match decide (O D (mx*ln)<=2097152) with
 | true=>((C8 (-256) 256 c))
 | false=>false)
 | false=>false)
 | false=>false)
 | false=>false)
 | false=>false)
 | false=>false
theorem Ahc(nm:ByteArray)(f px py ln:Int)(g:Bool)(lo hi a b mx rs h co i d:Int)  : RQ 146 [M [.str nm,A D f,A D px,A D py,A D ln,I g,A D lo,A D hi,A D a,A D b,A D mx,A D rs,A D h,A D co,A D i],E 1 [A D d]] (I (pJ px py ln lo hi a b mx d)):=by
 unfold pJ;cases c1:(C8 (-1048576) 1048576 px&&C8 (-1048576) 1048576 py)
 ·exact ALa DM rfl [Y,Y,Y,Y,Y,Y] (EP c1 Dx Dx Dx Dx Dx)
 ·cases c2:(C8 1 262144 ln)
  ·exact ALa DM rfl [bT,Y,Y,Y,Y,Y] (EP c1 c2 Dx Dx Dx Dx)
  ·cases c3:(C8 (-256) 256 lo&&C8 (-256) 256 hi)
   ·exact ALa DM rfl [bT,bT,Y,Y,Y,Y] (EP c1 c2 c3 Dx Dx Dx)
   ·cases c4:(G (lo<hi))
    ·exact ALa DM rfl [bT,bT,bT,Y,Y,Y] (EP c1 c2 c3 c4 Dx Dx)
    ·cases c:(C8 1 64 a&&C8 1 64 b&&C8 1 64 mx)
     ·exact ALa DM rfl [bT,bT,bT,bT,Y,Y] (EP c1 c2 c3 c4 c Dx)
     ·cases e:(G (O D (mx*ln)<=2097152))
      ·exact ALa DM rfl [bT,bT,bT,bT,bT,Y] (EP c1 c2 c3 c4 c e)
      ·exact ALa DM rfl [bT,bT,bT,bT,bT,bT] (EP c1 c2 c3 c4 c e)
theorem Art(px py ln lo hi a b mx c:Int):pJ px py ln lo hi a b mx c=(GX px py ln lo hi a b mx&&C8 (-256) 256 c):=by
 unfold pJ GX;repeat' split
 all_goals (simp_all <;> omega)
def pK(px py ln lo hi a b mx c d:Int):Bool :=
 match C8 (-1048576) 1048576 px&&C8 (-1048576) 1048576 py with
 | true=>(match C8 1 262144 ln with
 | true=>(match C8 (-256) 256 lo&&C8 (-256) 256 hi with
 | true=>(match decide (lo<hi) with
 | true=>(match C8 1 64 a&&C8 1 64 b&&C8 1 64 mx with
 | true=>(match decide (O D (mx*ln)<=2097152) with
 | true=>((C8 (-256) 256 c&&C8 (-256) 256 d))
 | false=>false)
 | false=>false)
 | false=>false)
 | false=>false)
 | false=>false)
 | false=>false
theorem Ahd(nm:ByteArray)(g px py ln:Int)(h:Bool)(lo hi a b mx rs i co j d e:Int)  : RQ 146 [M [.str nm,A D g,A D px,A D py,A D ln,I h,A D lo,A D hi,A D a,A D b,A D mx,A D rs,A D i,A D co,A D j],E 2 [A D d,A D e]] (I (pK px py ln lo hi a b mx d e)):=by
 unfold pK;cases c1:(C8 (-1048576) 1048576 px&&C8 (-1048576) 1048576 py)
 ·exact ALa DM rfl [Y,Y,Y,Y,Y,Y] (EP c1 Dx Dx Dx Dx Dx)
 ·cases c2:(C8 1 262144 ln)
  ·exact ALa DM rfl [bT,Y,Y,Y,Y,Y] (EP c1 c2 Dx Dx Dx Dx)
  ·cases c3:(C8 (-256) 256 lo&&C8 (-256) 256 hi)
   ·exact ALa DM rfl [bT,bT,Y,Y,Y,Y] (EP c1 c2 c3 Dx Dx Dx)
   ·cases c4:(G (lo<hi))
    ·exact ALa DM rfl [bT,bT,bT,Y,Y,Y] (EP c1 c2 c3 c4 Dx Dx)
    ·cases c:(C8 1 64 a&&C8 1 64 b&&C8 1 64 mx)
     ·exact ALa DM rfl [bT,bT,bT,bT,Y,Y] (EP c1 c2 c3 c4 c Dx)
     ·cases f:(G (O D (mx*ln)<=2097152))
      ·exact ALa DM rfl [bT,bT,bT,bT,bT,Y] (EP c1 c2 c3 c4 c f)
      ·exact ALa DM rfl [bT,bT,bT,bT,bT,bT] (EP c1 c2 c3 c4 c f)
theorem Aru(px py ln lo hi a b mx c d:Int):pK px py ln lo hi a b mx c d=(GX px py ln lo hi a b mx&&C8 (-256) 256 c&&C8 (-256) 256 d):=by
 unfold pK GX;repeat' split
 all_goals (simp_all <;> omega)
def ADd:u->Option (AV × List Prop)
 | [M [.str _,A D _,A D px,A D py,A D ln,I _,A D lo,A D hi,A D a,A D b,A D mx,A D _,A D _,A D _,A D _],E 1 [A D c]]=>some (I (GX px py ln lo hi a b mx&&C8 (-256) 256 c),[])
 | [M [.str _,A D _,A D px,A D py,A D ln,I _,A D lo,A D hi,A D a,A D b,A D mx,A D _,A D _,A D _,A D _],E 2 [A D c,A D d]]=>some (I (GX px py ln lo hi a b mx&&C8 (-256) 256 c&&C8 (-256) 256 d),[])
 | _=>none
def ADe:Bx:=(146,ADd)::TI9
theorem P4:Be CQ ADe:=Be.cons DM (by
 intro args r ps h a;unfold ADd at h;split at h
 ·cases h;exact Art _ _ _ _ _ _ _ _ _  ▸ Ahc _ _ _ _ _ _ _ _ _ _ _ _ _ _ _ _ 
 ·cases h;exact Aru _ _ _ _ _ _ _ _ _ _  ▸ Ahd _ _ _ _ _ _ _ _ _ _ _ _ _ _ _ _ _ 
 ·cases h)
def Cp(a:Bool)(k b:Int):Int × Int × Int :=
 match a with
 | true=>((O D (0-(O D ((O D (b*b))-(O D (k*k))))),O D (O D (2*b)*k),O D (O D (b*b)+O D (k*k))))
 | false=>((O D ((O D (b*b))-(O D (k*k))),O D (O D (2*b)*k),O D (O D (b*b)+O D (k*k))))
theorem A0j(nm:ByteArray)(c px py ln:Int)(a:Bool)(lo hi d e mx rs f co g k b:Int)  : RQ 148 [M [.str nm,A D c,A D px,A D py,A D ln,I a,A D lo,A D hi,A D d,A D e,A D mx,A D rs,A D f,A D co,A D g],A D k,A D b] (Hm [M [A D ((Cp a k b).1),A D ((Cp a k b).2.1)],A D ((Cp a k b).2.2)]):=by
 unfold Cp;cases a
 ·exact ALa P4 rfl [Y] (Bc iY)
 ·exact ALa P4 rfl [bT] (Bc EJ)
def ADf:u->Option (AV × List Prop)
 | [M [.str _,A D _,A D _,A D _,A D _,I a,A D _,A D _,A D _,A D _,A D _,A D _,A D _,A D _,A D _],A D k,A D b]=>some (Hm [M [A D ((Cp a k b).1),A D ((Cp a k b).2.1)],A D ((Cp a k b).2.2)],[])
 | _=>none
def ADg:Bx:=(148,ADf)::ADe
theorem Ho:Be CQ ADg:=Be.cons P4 (by
 intro args r ps h a;unfold ADf at h;split at h
 ·cases h;exact A0j _ _ _ _ _ _ _ _ _ _ _ _ _ _ _ _ _ 
 ·cases h)
def JP(a b px py ln:Int)(c:Bool)(lo hi e f mx k d:Int):Bool :=
 match GX px py ln lo hi e f mx&&C8 (-256) 256 k with
 | true=>(match C8 1 524288 d with
 | true=>(match C8 (-2097152) 2097152 a&&C8 (-2097152) 2097152 b with
 | true=>(match decide (Bs ((X a b px py).1) ((X a b px py).2) ((Cp c k 256).1) ((Cp c k 256).2.1)<=0) with
 | true=>((G (Bs ((X a b px py).1) ((X a b px py).2) ((X a b px py).1) ((X a b px py).2)<O D (d*d))))
 | false=>(match decide (Bs ((X a b px py).1) ((X a b px py).2) ((Cp c k 256).1) ((Cp c k 256).2.1)>=O D (ln*((Cp c k 256).2.2))) with
 | true=>((G (O D (((Cp c k 256).2.2)*O D ((O D (Bs ((X a b px py).1) ((X a b px py).2) ((X a b px py).1) ((X a b px py).2)+O D (ln*ln)))-(O D (d*d))))<O D (O D (2*ln)*Bs ((X a b px py).1) ((X a b px py).2) ((Cp c k 256).1) ((Cp c k 256).2.1)))))
 | false=>((G ((if (O D (0-(Bq ((Cp c k 256).1) ((Cp c k 256).2.1) ((X a b px py).1) ((X a b px py).2))))>(Bq ((Cp c k 256).1) ((Cp c k 256).2.1) ((X a b px py).1) ((X a b px py).2)) then (O D (0-(Bq ((Cp c k 256).1) ((Cp c k 256).2.1) ((X a b px py).1) ((X a b px py).2)))) else (Bq ((Cp c k 256).1) ((Cp c k 256).2.1) ((X a b px py).1) ((X a b px py).2)))<O D (d*((Cp c k 256).2.2)))))))
 | false=>false)
 | false=>false)
 | false=>false
theorem Amf(a b:Int)(nm:ByteArray)(h px py ln:Int)(c:Bool)(lo hi d e mx rs i co j k f:Int)  : RQ 63 [M [A D a,A D b],M [.str nm,A D h,A D px,A D py,A D ln,I c,A D lo,A D hi,A D d,A D e,A D mx,A D rs,A D i,A D co,A D j],A D k,A D f] (I (JP a b px py ln c lo hi d e mx k f)):=by
 unfold JP;cases c1:(GX px py ln lo hi d e mx&&C8 (-256) 256 k)
 ·exact ALa Ho rfl [bT,bT,bT] (Fa (AKj c1) Cj Cj)
 ·cases c2:(C8 1 524288 f)
  ·exact ALa Ho rfl [Y,bT,bT] (Fa (AKg c1) (AKj c2) Cj)
  ·cases c3:(C8 (-2097152) 2097152 a&&C8 (-2097152) 2097152 b)
   ·exact ALa Ho rfl [Y,Y,bT] (Fa (AKg c1) (AKg c2) (AKj c3))
   ·cases c4:(G (Bs ((X a b px py).1) ((X a b px py).2) ((Cp c k 256).1) ((Cp c k 256).2.1)<=0))
    ·cases g:(G (Bs ((X a b px py).1) ((X a b px py).2) ((Cp c k 256).1) ((Cp c k 256).2.1)>=O D (ln*((Cp c k 256).2.2))))
     ·exact ALa Ho rfl [Y,Y,Y,Y,Y] (Fh (AKg c1) (AKg c2) (AKg c3) c4 g)
     ·exact ALa Ho rfl [Y,Y,Y,Y,bT] (Fh (AKg c1) (AKg c2) (AKg c3) c4 g)
    ·exact ALa Ho rfl [Y,Y,Y,bT] (Fk (AKg c1) (AKg c2) (AKg c3) c4)
def g63:u->Option (AV × List Prop)
 | [M [A D a,A D b],M [.str _,A D _,A D px,A D py,A D ln,I c,A D lo,A D hi,A D d,A D e,A D mx,A D _,A D _,A D _,A D _],A D k,A D f]=>some (I (JP a b px py ln c lo hi d e mx k f),[])
 | _=>none
def ADh:Bx:=(63,g63)::ADg
theorem G4:Be CQ ADh:=Be.cons Ho (by
 intro args r ps h a;unfold g63 at h;split at h
 ·cases h;exact Amf _ _ _ _ _ _ _ _ _ _ _ _ _ _ _ _ _ _ _ 
 ·cases h)
def YZ(a b c d n:Int):Bool :=
 match e a b with
 | true=>(match e c d with
 | true=>(match decide (n<1) with
 | true=>(false)
 | false=>(match decide ((if (O D (0-(O D (a-c))))>(O D (a-c)) then (O D (0-(O D (a-c)))) else (O D (a-c)))<n) with
 | true=>(match decide ((if (O D (0-(O D (b-d))))>(O D (b-d)) then (O D (0-(O D (b-d)))) else (O D (b-d)))<n) with
 | true=>(match decide (n>2147483648) with
 | true=>(true)
 | false=>((G (O D (O D (O D (a-c)*O D (a-c))+O D (O D (b-d)*O D (b-d)))<O D (n*n)))))
 | false=>false)
 | false=>false))
 | false=>false)
 | false=>false
theorem Amg(p1 p2 q1 q2 n:Int)  : RQ 64 [M [A D p1,A D p2],M [A D q1,A D q2],A D n] (I (YZ p1 p2 q1 q2 n)):=by
 unfold YZ;cases c1:(e p1 p2)
 ·exact ALa G4 rfl [bT,bT,bT] (Fa (AKj c1) Cj Cj)
 ·cases c2:(e q1 q2)
  ·exact ALa G4 rfl [Y,bT,bT] (Fa (AKg c1) (AKj c2) Cj)
  ·cases c3:(G (n<1))
   ·cases c4:(G ((if (O D (0-(O D (p1-q1))))>(O D (p1-q1)) then (O D (0-(O D (p1-q1)))) else (O D (p1-q1)))<n))
    ·exact ALa G4 rfl [Y,Y,Y,Y,Y] (Fh (AKg c1) (AKg c2) c3 c4 Dx)
    ·cases a:(G ((if (O D (0-(O D (p2-q2))))>(O D (p2-q2)) then (O D (0-(O D (p2-q2)))) else (O D (p2-q2)))<n))
     ·exact ALa G4 rfl [Y,Y,Y,bT,Y] (Fh (AKg c1) (AKg c2) c3 c4 a)
     ·cases b:(G (n>2147483648))
      ·exact ALa G4 rfl [Y,Y,Y,bT,bT,Y,bT,Y] (EQ (AKg c1) (AKg c2) c3 c4 a b a b)
      ·exact ALa G4 rfl [Y,Y,Y,bT,bT,bT,bT,bT] (EQ (AKg c1) (AKg c2) c3 c4 a b a b)
   ·exact ALa G4 rfl [Y,Y,bT] (Fa (AKg c1) (AKg c2) c3)
def g64:u->Option (AV × List Prop)
 | [M [A D a,A D b],M [A D c,A D d],A D n]=>some (I (YZ a b c d n),[])
 | _=>none
def ADi:Bx:=(64,g64)::ADh
theorem JQ:Be CQ ADi:=Be.cons G4 (by
 intro args r ps h a;unfold g64 at h;split at h
 ·cases h;exact Amg _ _ _ _ _ 
 ·cases h)
def Xv(x y:Int):AV :=
 match decide (x>=(-1073741824)) with
 | true=>(match decide (x<=1073741824) with
 | true=>(match decide (y>=(-1073741824)) with
 | true=>(I (G (y<=1073741824)))
 | false=>I false)
 | false=>I false)
 | false=>I false
theorem A0k(x y:Int)  : RQ 138 [M [A D x,A D y]] (Xv x y):=by
 unfold Xv;cases c1:(G (x>=(-1073741824)))
 ·exact ALa JQ rfl [Y,Y,Y] (Fa c1 Dx Dx)
 ·cases c2:(G (x<=1073741824))
  ·exact ALa JQ rfl [bT,Y,Y] (Fa c1 c2 Dx)
  ·cases c3:(G (y>=(-1073741824)))
   ·exact ALa JQ rfl [bT,bT,Y] (Fa c1 c2 c3)
   ·exact ALa JQ rfl [bT,bT,bT] (Fa c1 c2 c3)
theorem e138(x y:Int):Xv x y = I (e x y):=by
 unfold Xv e;repeat' split
 all_goals (simp_all <;> omega)
def ADj:u->Option (AV × List Prop)
 | [M [A D x,A D y]]=>some (I (e x y),[])
 | _=>none
def ADk:Bx:=(138,ADj)::ADi
theorem P5:Be CQ ADk:=Be.cons JQ (by
 intro args r ps h a;unfold ADj at h;split at h
 ·cases h;exact e138 _ _ ▸ A0k _ _
 ·cases h)
def Xw(x y:Int):AV :=
 match e x y with
 | true=>(M [A D x,A D y])
 | false=>M [A D 0,A D 0]
theorem A0l(x y:Int)  : RQ 139 [M [A D x,A D y]] (Xw x y):=by
 unfold Xw;cases c1:(e x y)
 ·exact ALa P5 rfl [Y] (Bc c1)
 ·exact ALa P5 rfl [bT] (Bc c1)
theorem e139(x y:Int):Xw x y = M [A D (E9 x y).1,A D (E9 x y).2]:=by
 unfold Xw E9;cases h:e x y <;> rfl
def ADl:u->Option (AV × List Prop)
 | [M [A D x,A D y]]=>some (M [A D (E9 x y).1,A D (E9 x y).2],[])
 | _=>none
def ADm:Bx:=(139,ADl)::ADk
theorem LM:Be CQ ADm:=Be.cons P5 (by
 intro args r ps h a;unfold ADl at h;split at h
 ·cases h;exact e139 _ _ ▸ A0l _ _
 ·cases h)
section
variable(a b c d:Int)
def pL:AV :=
 match e a b with
 | true=>(match e c d with
 | true=>(M [A D ((E9 (O D (a-c)) (O D (b-d))).1),A D ((E9 (O D (a-c)) (O D (b-d))).2)])
 | false=>M [A D 0,A D 0])
 | false=>(M [A D 0,A D 0])
theorem A9v  : RQ 59 [M [A D a,A D b],M [A D c,A D d]] (pL a b c d):=by
 unfold pL;cases c1:(e a b)
 ·exact ALa LM rfl [bT,bT] (Gd (AKj c1) Cj)
 ·cases c2:(e c d)
  ·exact ALa LM rfl [Y,bT] (Gd (AKg c1) (AKj c2))
  ·exact ALa LM rfl [Y,Y] (Gd (AKg c1) (AKg c2))
theorem e59:pL a b c d = M [A D (X a b c d).1,A D (X a b c d).2]:=by
 unfold pL X;cases h1:e a b
 ·rfl
 ·cases h2:e c d
  ·rfl
  ·have f:=CI h1;have g:=CI h2;simp only[E8,if_true,A' (n:=a-c) (by omega) (by omega),A' (n:=b-d) (by omega) (by omega)]
end
def g59:u->Option (AV × List Prop)
 | [M [A D a,A D b],M [A D c,A D d]]=>some (M [A D (X a b c d).1,A D (X a b c d).2],[])
 | _=>none
def ADn:Bx:=(59,g59)::ADm
theorem LN:Be CQ ADn:=Be.cons LM (by
 intro args r ps h a;unfold g59 at h;split at h
 ·cases h;exact e59 _ _ _ _ ▸ A9v _ _ _ _
 ·cases h)
section
variable(a b c d:Int)
def Xx:AV :=
 match e a b with
 | true=>(match e c d with
 | true=>(A D (O D (O D (a*c)+O D (b*d))))
 | false=>A D 0)
 | false=>(A D 0)
theorem A0m  : RQ 141 [M [A D a,A D b],M [A D c,A D d]] (Xx a b c d):=by
 unfold Xx;cases c1:(e a b)
 ·exact ALa LN rfl [bT,bT] (Gd (AKj c1) Cj)
 ·cases c2:(e c d)
  ·exact ALa LN rfl [Y,bT] (Gd (AKg c1) (AKj c2))
  ·exact ALa LN rfl [Y,Y] (Gd (AKg c1) (AKg c2))
theorem e141:Xx a b c d = A D (Bs a b c d):=by
 unfold Xx Bs;cases h1:e a b
 ·rfl
 ·cases h2:e c d
  ·rfl
  ·have f:=CI h1;have g:=CI h2;have h:=Ep (x:=a) (y:=c) (by omega) (by omega) (by omega) (by omega);have i:=Ep (x:=b) (y:=d) (by omega) (by omega) (by omega) (by omega);simp only[E8,if_true,A' (n:=a*c) (by omega) (by omega),A' (n:=b*d) (by omega) (by omega),A' (n:=a*c+b*d) (by omega) (by omega)]
end
def ADo:u->Option (AV × List Prop)
 | [M [A D a,A D b],M [A D c,A D d]]=>some (A D (Bs a b c d),[])
 | _=>none
def ADp:Bx:=(141,ADo)::ADn
theorem LO:Be CQ ADp:=Be.cons LN (by
 intro args r ps h a;unfold ADo at h;split at h
 ·cases h;exact e141 _ _ _ _ ▸ A0m _ _ _ _
 ·cases h)
section
variable(a b c d:Int)
def pM:AV :=
 match e a b with
 | true=>(match e c d with
 | true=>(A D (O D ((O D (a*d))-(O D (b*c)))))
 | false=>A D 0)
 | false=>(A D 0)
theorem A9w  : RQ 58 [M [A D a,A D b],M [A D c,A D d]] (pM a b c d):=by
 unfold pM;cases c1:(e a b)
 ·exact ALa LO rfl [bT,bT] (Gd (AKj c1) Cj)
 ·cases c2:(e c d)
  ·exact ALa LO rfl [Y,bT] (Gd (AKg c1) (AKj c2))
  ·exact ALa LO rfl [Y,Y] (Gd (AKg c1) (AKg c2))
theorem e58:pM a b c d = A D (Bq a b c d):=by
 unfold pM Bq;cases h1:e a b
 ·rfl
 ·cases h2:e c d
  ·rfl
  ·have f:=CI h1;have g:=CI h2;have h:=Ep (x:=a) (y:=d) (by omega) (by omega) (by omega) (by omega);have i:=Ep (x:=b) (y:=c) (by omega) (by omega) (by omega) (by omega);simp only[E8,if_true,A' (n:=a*d) (by omega) (by omega),A' (n:=b*c) (by omega) (by omega),A' (n:=a*d-b*c) (by omega) (by omega)]
end
def g58:u->Option (AV × List Prop)
 | [M [A D a,A D b],M [A D c,A D d]]=>some (A D (Bq a b c d),[])
 | _=>none
def ADq:Bx:=(58,g58)::ADp
theorem IA:Be CQ ADq:=Be.cons LO (by
 intro args r ps h a;unfold g58 at h;split at h
 ·cases h;exact e58 _ _ _ _ ▸ A9w _ _ _ _
 ·cases h)
def DK(a b n:Int):Int × Int :=
 match e a b with
 | true=>(match a==0&&(b==0&&true) with
 | true=>((0,0))
 | false=>(match decide (n>2147483648) with
 | true=>((0,0))
 | false=>(match decide (n<(-2147483648)) with
 | true=>((0,0))
 | false=>(((E9 (O D (a*n)) (O D (b*n))).1,(E9 (O D (a*n)) (O D (b*n))).2)))))
 | false=>((0,0))
theorem A0n(a b n:Int)  : RQ 150 [M [A D a,A D b],A D n] (M [A D ((DK a b n).1),A D ((DK a b n).2)]):=by
 unfold DK;cases c1:(e a b)
 ·exact ALa IA rfl [bT,bT,bT,bT] (Fk (AKj c1) Cj Cj Cj)
 ·cases c2:(a==0&&(b==0&&true))
  ·cases c3:(G (n>2147483648))
   ·cases c4:(G (n<(-2147483648)))
    ·exact ALa IA rfl [Y,Y,Y,Y] (Fk (AKg c1) c2 c3 c4)
    ·exact ALa IA rfl [Y,Y,Y,bT] (Fk (AKg c1) c2 c3 c4)
   ·exact ALa IA rfl [Y,Y,bT,bT] (Fk (AKg c1) c2 c3 Cj)
  ·exact ALa IA rfl [Y,bT,bT,bT] (Fk (AKg c1) c2 Cj Cj)
def ADr:u->Option (AV × List Prop)
 | [M [A D a,A D b],A D n]=>some (M [A D ((DK a b n).1),A D ((DK a b n).2)],[])
 | _=>none
def ADs:Bx:=(150,ADr)::ADq
theorem JR:Be CQ ADs:=Be.cons IA (by
 intro args r ps h a;unfold ADr at h;split at h
 ·cases h;exact A0n _ _ _ 
 ·cases h)
def I0(x y m:Int):Bool :=
 match decide (x>=O D (0-m)) with
 | true=>(match decide (x<=m) with
 | true=>(match decide (y>=O D (0-m)) with
 | true=>((G (y<=m)))
 | false=>false)
 | false=>false)
 | false=>false
theorem A0o(x y m:Int)  : RQ 140 [M [A D x,A D y],A D m] (I (I0 x y m)):=by
 unfold I0;cases c1:(G (x>=O D (0-m)))
 ·exact ALa JR rfl [Y,Y,Y] (Fa c1 Dx Dx)
 ·cases c2:(G (x<=m))
  ·exact ALa JR rfl [bT,Y,Y] (Fa c1 c2 Dx)
  ·cases c3:(G (y>=O D (0-m)))
   ·exact ALa JR rfl [bT,bT,Y] (Fa c1 c2 c3)
   ·exact ALa JR rfl [bT,bT,bT] (Fa c1 c2 c3)
def ADt:u->Option (AV × List Prop)
 | [M [A D x,A D y],A D m]=>some (I (I0 x y m),[])
 | _=>none
def ADu:Bx:=(140,ADt)::ADs
theorem IB:Be CQ ADu:=Be.cons JR (by
 intro args r ps h a;unfold ADt at h;split at h
 ·cases h;exact A0o _ _ _ 
 ·cases h)
section
variable(a b c d e:Int)
def Gv:Bool :=
 match I0 a b 2097152 with
 | true=>(match I0 c d 1048576 with
 | true=>(match decide (e<1) with
 | true=>(false)
 | false=>(match decide (e>524288) with
 | true=>(false)
 | false=>((G (Bs ((X a b c d).1) ((X a b c d).2) ((X a b c d).1) ((X a b c d).2)<O D (e*e))))))
 | false=>false)
 | false=>(false)
theorem Amh  : RQ 66 [M [A D a,A D b],M [A D c,A D d],A D e] (I (Gv a b c d e)):=by
 unfold Gv;cases c1:(I0 a b 2097152)
 ·exact ALa IB rfl [bT,bT,bT,bT] (Fk (AKj c1) Cj Cj Cj)
 ·cases c2:(I0 c d 1048576)
  ·exact ALa IB rfl [Y,bT,bT,bT] (Fk (AKg c1) (AKj c2) Cj Cj)
  ·cases c3:(G (e<1))
   ·cases c4:(G (e>524288))
    ·exact ALa IB rfl [Y,Y,Y,Y] (Fk (AKg c1) (AKg c2) c3 c4)
    ·exact ALa IB rfl [Y,Y,Y,bT] (Fk (AKg c1) (AKg c2) c3 c4)
   ·exact ALa IB rfl [Y,Y,bT,bT] (Fk (AKg c1) (AKg c2) c3 Cj)
end
def g66:u->Option (AV × List Prop)
 | [M [A D a,A D b],M [A D c,A D d],A D e]=>some (I (Gv a b c d e),[])
 | _=>none
def ADv:Bx:=(66,g66)::ADu
theorem P6:Be CQ ADv:=Be.cons IB (by
 intro args r ps h a;unfold g66 at h;split at h
 ·cases h;exact Amh _ _ _ _ _ 
 ·cases h)
def BK(n a b:Int):Bool :=
 match decide (n>=a) with
 | true=>((G (n<=b)))
 | false=>false
theorem Es(n a b:Int)  : RQ 118 [A D n,A D a,A D b] (I (BK n a b)):=by
 unfold BK;cases c1:(G (n>=a))
 ·exact ALa P6 rfl [Y] (Bc c1)
 ·exact ALa P6 rfl [bT] (Bc c1)
def ADw:u->Option (AV × List Prop)
 | [A D n,A D a,A D b]=>some (I (BK n a b),[])
 | _=>none
def ADx:Bx:=(118,ADw)::ADv
theorem P7:Be CQ ADx:=Be.cons P6 (by
 intro args r ps h a;unfold ADw at h;split at h
 ·cases h;exact Es _ _ _ 
 ·cases h)
def BH(x y m:Int):Bool :=
 match BK x (O D (0-m)) m with
 | true=>((BK y (O D (0-m)) m))
 | false=>false
theorem GR(x y m:Int)  : RQ 119 [M [A D x,A D y],A D m] (I (BH x y m)):=by
 unfold BH;cases c1:(BK x (O D (0-m)) m)
 ·exact ALa P7 rfl [Y] (Bc c1)
 ·exact ALa P7 rfl [bT] (Bc c1)
def ADy:u->Option (AV × List Prop)
 | [M [A D x,A D y],A D m]=>some (I (BH x y m),[])
 | _=>none
def ADz:Bx:=(119,ADy)::ADx
theorem F4:Be CQ ADz:=Be.cons P7 (by
 intro args r ps h a;unfold ADy at h;split at h
 ·cases h;exact GR _ _ _ 
 ·cases h)
def Y_(px py ln lo hi a b mx:Int):Bool :=
 match BH px py 1048576 with
 | true=>(match BK ln 1 262144 with
 | true=>(match BK lo (-256) 256 with
 | true=>(match BK hi (-256) 256 with
 | true=>(match decide (lo<hi) with
 | true=>(match BK a 1 64 with
 | true=>(match BK b 1 64 with
 | true=>(match BK mx 1 64 with
 | true=>((G (O D (mx*ln)<=2097152)))
 | false=>false)
 | false=>false)
 | false=>false)
 | false=>false)
 | false=>false)
 | false=>false)
 | false=>false)
 | false=>false
theorem P8(nm:ByteArray)(g px py ln:Int)(h:Bool)(lo hi c d mx rs i co j:Int)  : RQ 154 [M [.str nm,A D g,A D px,A D py,A D ln,I h,A D lo,A D hi,A D c,A D d,A D mx,A D rs,A D i,A D co,A D j]] (I (Y_ px py ln lo hi c d mx)):=by
 unfold Y_;cases c1:(BH px py 1048576)
 ·exact ALa F4 rfl [Y,Y,Y,Y,Y,Y,Y,Y] (EQ c1 Dx Dx Dx Dx Dx Dx Dx)
 ·cases c2:(BK ln 1 262144)
  ·exact ALa F4 rfl [bT,Y,Y,Y,Y,Y,Y,Y] (EQ c1 c2 Dx Dx Dx Dx Dx Dx)
  ·cases c3:(BK lo (-256) 256)
   ·exact ALa F4 rfl [bT,bT,Y,Y,Y,Y,Y,Y] (EQ c1 c2 c3 Dx Dx Dx Dx Dx)
   ·cases c4:(BK hi (-256) 256)
    ·exact ALa F4 rfl [bT,bT,bT,Y,Y,Y,Y,Y] (EQ c1 c2 c3 c4 Dx Dx Dx Dx)
    ·cases a:(G (lo<hi))
     ·exact ALa F4 rfl [bT,bT,bT,bT,Y,Y,Y,Y] (EQ c1 c2 c3 c4 a Dx Dx Dx)
     ·cases b:(BK c 1 64)
      ·exact ALa F4 rfl [bT,bT,bT,bT,bT,Y,Y,Y] (EQ c1 c2 c3 c4 a b Dx Dx)
      ·cases e:(BK d 1 64)
       ·exact ALa F4 rfl [bT,bT,bT,bT,bT,bT,Y,Y] (EQ c1 c2 c3 c4 a b e Dx)
       ·cases f:(BK mx 1 64)
        ·exact ALa F4 rfl [bT,bT,bT,bT,bT,bT,bT,Y] (EQ c1 c2 c3 c4 a b e f)
        ·exact ALa F4 rfl [bT,bT,bT,bT,bT,bT,bT,bT] (EQ c1 c2 c3 c4 a b e f)
def AEa:u->Option (AV × List Prop)
 | [M [.str _,A D _,A D px,A D py,A D ln,I _,A D lo,A D hi,A D a,A D b,A D mx,A D _,A D _,A D _,A D _]]=>some (I (Y_ px py ln lo hi a b mx),[])
 | _=>none
def AEb:Bx:=(154,AEa)::ADz
theorem P9:Be CQ AEb:=Be.cons F4 (by
 intro args r ps h a;unfold AEa at h;split at h
 ·cases h;exact P8 _ _ _ _ _ _ _ _ _ _ _ _ _ _ _ 
 ·cases h)
def PA(k:Int):Bool :=
 match decide (k>=(-256)) with
 | true=>((G (k<=256)))
 | false=>false
theorem T9(k:Int)  : RQ 155 [A D k] (I (PA k)):=by
 unfold PA;cases c1:(G (k>=(-256)))
 ·exact ALa P9 rfl [Y] (Bc c1)
 ·exact ALa P9 rfl [bT] (Bc c1)
def AEc:u->Option (AV × List Prop)
 | [A D k]=>some (I (PA k),[])
 | _=>none
def AEd:Bx:=(155,AEc)::AEb
theorem IC:Be CQ AEd:=Be.cons P9 (by
 intro args r ps h a;unfold AEc at h;split at h
 ·cases h;exact T9 _ 
 ·cases h)
def Za(a b c d n:Int):Bool :=
 match e a b with
 | true=>(match e c d with
 | true=>(match decide ((if (O D (0-(O D (a-c))))>(O D (a-c)) then (O D (0-(O D (a-c)))) else (O D (a-c)))<n) with
 | true=>(match decide ((if (O D (0-(O D (b-d))))>(O D (b-d)) then (O D (0-(O D (b-d)))) else (O D (b-d)))<n) with
 | true=>((G (O D (O D (O D (a-c)*O D (a-c))+O D (O D (b-d)*O D (b-d)))<O D (n*n))))
 | false=>false)
 | false=>false)
 | false=>false)
 | false=>false
theorem pN(a b c d n:Int)  : RQ 68 [M [A D a,A D b],M [A D c,A D d],A D n] (I (Za a b c d n)):=by
 unfold Za;cases c1:(e a b)
 ·exact ALa IC rfl [bT,bT] (Gd (AKj c1) Cj)
 ·cases c2:(e c d)
  ·exact ALa IC rfl [Y,bT] (Gd (AKg c1) (AKj c2))
  ·cases c3:(G ((if (O D (0-(O D (a-c))))>(O D (a-c)) then (O D (0-(O D (a-c)))) else (O D (a-c)))<n))
   ·exact ALa IC rfl [Y,Y,Y,Y] (Fk (AKg c1) (AKg c2) c3 Dx)
   ·cases c4:(G ((if (O D (0-(O D (b-d))))>(O D (b-d)) then (O D (0-(O D (b-d)))) else (O D (b-d)))<n))
    ·exact ALa IC rfl [Y,Y,bT,Y] (Fk (AKg c1) (AKg c2) c3 c4)
    ·exact ALa IC rfl [Y,Y,bT,bT] (Fk (AKg c1) (AKg c2) c3 c4)
def g68:u->Option (AV × List Prop)
 | [M [A D a,A D b],M [A D c,A D d],A D n]=>some (I (Za a b c d n),[])
 | _=>none
def AEe:Bx:=(68,g68)::AEd
theorem xY:Be CQ AEe:=Be.cons IC (by
 intro args r ps h a;unfold g68 at h;split at h
 ·cases h;exact pN _ _ _ _ _ 
 ·cases h)
def AEf:Bx:=AEe
theorem Dc:Be CQ AEf:=xY
def Zb:ICode:=Ca Agd 94 56
section
variable(n lo hi:Int)
def M6:H:=vi n::V 2 (vi lo::vi hi::V 18 [])
theorem A0p(c1:G (lo<hi)=true)(c2:G (O D (O D (Dt (O D (O D (lo+hi)+1)) 2)*O D (Dt (O D (O D (lo+hi)+1)) 2))<=n)=true):Aa Zb (M6 n lo hi) .norm (M6 n (O D (Dt (O D (O D (lo+hi)+1)) 2)) hi):=B Dc [bT,bT] T0 (Fa c1 (show ¬ (2:Int)=0 from (by decide)) c2)
theorem A0q(c1:G (lo<hi)=true)(c2:G (O D (O D (Dt (O D (O D (lo+hi)+1)) 2)*O D (Dt (O D (O D (lo+hi)+1)) 2))<=n)=false):Aa Zb (M6 n lo hi) .norm (M6 n lo (O D (O D (Dt (O D (O D (lo+hi)+1)) 2)-1))):=B Dc [bT,Y] T0 (Fa c1 (show ¬ (2:Int)=0 from (by decide)) c2)
theorem xZ(c1:G (lo<hi)=false):Aa Zb (M6 n lo hi) xZ0 (M6 n lo hi):=B Dc [Y] T0 (Bc c1)
end
theorem Arv(n r hi:Int)(a:Aa (.loop Zb) (M6 n 0 3037000499) xZ0 (M6 n r hi)):RQ 248 [A D n] (A D r):=K4 Agd (V 2 (vi r::V 20 [])) (BU (N (B Dc [] T0 a0) (N (A0 a) (B Dc [] [2] a0))))
theorem PB{x n:Nat}(a:0<x):x<=n / x↔x*x<=n:=Nat.le_div_iff_mul_le a
theorem pO(n:Nat):∀ k r,r*r<=n->n<(r+2^k)*(r+2^k)->Er n k r*Er n k r<=n/\n<(Er n k r+1)*(Er n k r+1):=by
 intro k;induction k with
 | zero=>intro r h1 h2;simpa [Er] using ⟨h1,h2⟩
 | succ k a =>
  intro r h1 h2;have b:0<2^k:=Nat.two_pow_pos k;unfold Er;split
  ·rename_i h;rw[PB (by omega)] at h;refine a _ h ?_;have e:r+2^k+2^k=r+2^(k+1):=by rw[Ta];omega
   rw[e];exact h2
  next h=>rw[PB (by omega)] at h;exact a r h1 (by omega)
theorem TA{a b:Int}(c:0<=a)(h:a<=b):a*a<=b*b:=J4 h h c (by omega)
theorem lV{n r:Int}(h0:0<=n)(h1:n<=9223372036854775807)(hr:0<=r)(a:r*r<=n)(b:n<(r+1)*(r+1)):EY n=r:=by
 have c:∃ q:Nat,EY n=q/\((q:Int)*q<=n)/\n<((q:Int)+1)*((q:Int)+1):=by
  unfold EY;by_cases hn:n<=0
  ·rw[Ae hn];exact⟨0,rfl,by omega,by omega⟩
  ·rw[Al hn];obtain⟨x,y⟩:=pO n.toNat 32 0 (by omega) (by omega);refine⟨_,rfl,?_,?_⟩
   ·have:((Er n.toNat 32 0*Er n.toNat 32 0:Nat):Int)<=(n.toNat:Nat):=Avj.2 x;rw[A8l] at this;omega
   ·have:(n.toNat:Int)<(((Er n.toNat 32 0+1)*(Er n.toNat 32 0+1):Nat):Int):=Int.ofNat_lt.2 y;rw[A8l,Int.natCast_add,Int.natCast_one] at this;omega
 obtain⟨q,e,d,f⟩:=c;rw[e];rcases Int.lt_trichotomy (q:Int) r with h | h | h
 ·have:=TA (a:=(q:Int)+1) (b:=r) (by omega) (by omega);omega
 ·exact h
 ·have:=TA (a:=r+1) (b:=(q:Int)) (by omega) (by omega);omega
theorem Ahe{n:Int}(_hn:0<=n):∀ (d:Nat) (lo hi:Int),0<=lo->lo<=hi->hi<=3037000499->(hi-lo).toNat<=d->lo*lo<=n->n<(hi+1)*(hi+1) ->
  ∃ r,Aa (.loop Zb) (M6 n lo hi) xZ0 (M6 n r r)/\0<=r/\r*r<=n/\n<(r+1)*(r+1):=by
 intro d;induction d with
 | zero =>
  intro lo hi h0 h1 h2 q c g;have e:lo=hi:=by omega
  subst e;exact⟨lo,f (xZ n lo lo (As (by omega))),h0,c,g⟩
 | succ d l =>
  intro lo hi h0 h1 h2 q c g;by_cases p:lo<hi
  ·have s:O D (lo+hi)=lo+hi:=A' (by omega) (by omega);have t:O D (lo+hi+1)=lo+hi+1:=A' (by omega) (by omega);have u:Dt (lo+hi+1) 2=(lo+hi+1) / 2:=Ko (by omega);have v:O D ((lo+hi+1) / 2)=(lo+hi+1) / 2:=A' (by omega) (by omega);have z:lo<(lo+hi+1) / 2/\(lo+hi+1) / 2<=hi:=by omega
   have i:=A0p n lo hi (o p);have h:=A0q n lo hi (o p);rw[s,t,u,v] at i h;generalize (lo+hi+1) / 2=m at *
   have A:=TA (a:=m) (b:=3037000499) (by omega) (by omega);have B:=TA (a:=0) (b:=m) (by omega) (by omega);have w:O D (m*m)=m*m:=A' (by omega) (by omega);have x:O D (m-1)=m-1:=A' (by omega) (by omega);rw[w] at i h;rw[x] at h;by_cases hc:m*m<=n
   ·obtain⟨r,j,k⟩:=l m hi (by omega) (by omega) h2 (by omega) hc g;exact⟨r,AB (i (o hc)) j,k⟩
   ·have y:m-1+1=m:=by omega
    obtain⟨r,j,k⟩:=l lo (m-1) h0 (by omega) (by omega) (by omega) c (by rw[y];omega);exact⟨r,AB (h (As hc)) j,k⟩
  ·have e:lo=hi:=by omega
   subst e;exact⟨lo,f (xZ n lo lo (As (by omega))),h0,c,g⟩
theorem Arw{n:Int}(h:0<=n/\n<=9223372036854775807):RQ 248 [A D n] (A D (EY n)):=by
 obtain⟨r,k,h0,h1,h2⟩:=Ahe h.1 3037000499 0 3037000499 (by omega) (by omega) (by omega) (by omega) (by omega) (by omega);rw[lV h.1 h.2 h0 h1 h2];exact Arv n r r k
theorem PC(a b:Int):0<=Bs a b a b/\Bs a b a b<=9223372036854775807:=by
 have h1:=KZ a b a b;refine⟨?_,h1⟩;unfold Bs;split
 ·have x:∀ c:Int,0<=c*c:=fun c=>by
   rcases Int.le_total 0 c with h | h
   ·exact FS h h
   ·exact Int.mul_nonneg_of_nonpos_of_nonpos h h
  have:=x a;have:=x b;omega
 ·omega
def AEg:u->Option (AV × List Prop)
 | [A D n]=>some (A D (EY n),[0<=n/\n<=9223372036854775807])
 | _=>none
def TJ1:Bx:=(248,AEg)::AEf
theorem GF:Be CQ TJ1:=Be.cons Dc (by
 intro args r ps h a;unfold AEg at h;split at h
 ·cases h;exact Arw a.1
 ·cases h)
def Gw(a b c d ex e:Int):Int :=
 match BH a b 1048576 with
 | true=>(match BH c d 1048576 with
 | true=>(match BH ex e 1048576 with
 | true=>(match (O D (EY (Bs ((X c d a b).1) ((X c d a b).2) ((X c d a b).1) ((X c d a b).2))*EY (Bs ((X c d a b).1) ((X c d a b).2) ((X c d a b).1) ((X c d a b).2)))) != (Bs ((X c d a b).1) ((X c d a b).2) ((X c d a b).1) ((X c d a b).2)) with
 | true=>(0)
 | false=>(match (Bs ((X c d a b).1) ((X c d a b).2) ((X c d a b).1) ((X c d a b).2)) != (Bs ((X ex e a b).1) ((X ex e a b).2) ((X ex e a b).1) ((X ex e a b).2)) with
 | true=>(0)
 | false=>(match decide (EY (Bs ((X c d a b).1) ((X c d a b).2) ((X c d a b).1) ((X c d a b).2))>262144) with
 | true=>(0)
 | false=>(match decide (Bq ((X c d a b).1) ((X c d a b).2) ((X ex e a b).1) ((X ex e a b).2)<=0) with
 | true=>(0)
 | false=>((EY (Bs ((X c d a b).1) ((X c d a b).2) ((X c d a b).1) ((X c d a b).2))))))))
 | false=>(0))
 | false=>(0))
 | false=>(0)
theorem Zc(nm:ByteArray)(i a b c d ex e rs j k l:Int)  : RQ 176 [M [.str nm,A D i,A D a,A D b,A D c,A D d,A D ex,A D e,A D rs,A D j,A D k,A D l]] (A D (Gw a b c d ex e)):=by
 unfold Gw;cases c1:(BH a b 1048576)
 ·exact ALa GF rfl [bT,bT,bT] (Fa (AKj c1) Cj Cj)
 ·cases c2:(BH c d 1048576)
  ·exact ALa GF rfl [Y,bT,bT] (Fa (AKg c1) (AKj c2) Cj)
  ·cases c3:(BH ex e 1048576)
   ·exact ALa GF rfl [Y,Y,bT] (Fa (AKg c1) (AKg c2) (AKj c3))
   ·cases c4:((O D (EY (Bs ((X c d a b).1) ((X c d a b).2) ((X c d a b).1) ((X c d a b).2))*EY (Bs ((X c d a b).1) ((X c d a b).2) ((X c d a b).1) ((X c d a b).2)))) != (Bs ((X c d a b).1) ((X c d a b).2) ((X c d a b).1) ((X c d a b).2)))
    ·cases f:((Bs ((X c d a b).1) ((X c d a b).2) ((X c d a b).1) ((X c d a b).2)) != (Bs ((X ex e a b).1) ((X ex e a b).2) ((X ex e a b).1) ((X ex e a b).2)))
     ·cases g:(G (EY (Bs ((X c d a b).1) ((X c d a b).2) ((X c d a b).1) ((X c d a b).2))>262144))
      ·cases h:(G (Bq ((X c d a b).1) ((X c d a b).2) ((X ex e a b).1) ((X ex e a b).2)<=0))
       ·exact ALa GF rfl [Y,Y,Y,Y,Y,Y,Y] (EQ (AKg c1) (AKg c2) (AKg c3) (show 0<=Bs ((X c d a b).1) ((X c d a b).2) ((X c d a b).1) ((X c d a b).2)/\Bs ((X c d a b).1) ((X c d a b).2) ((X c d a b).1) ((X c d a b).2)<=9223372036854775807 from (PC _ _)) c4 f g h)
       ·exact ALa GF rfl [Y,Y,Y,Y,Y,Y,bT] (EQ (AKg c1) (AKg c2) (AKg c3) (show 0<=Bs ((X c d a b).1) ((X c d a b).2) ((X c d a b).1) ((X c d a b).2)/\Bs ((X c d a b).1) ((X c d a b).2) ((X c d a b).1) ((X c d a b).2)<=9223372036854775807 from (PC _ _)) c4 f g h)
      ·exact ALa GF rfl [Y,Y,Y,Y,Y,bT,bT] (EQ (AKg c1) (AKg c2) (AKg c3) (show 0<=Bs ((X c d a b).1) ((X c d a b).2) ((X c d a b).1) ((X c d a b).2)/\Bs ((X c d a b).1) ((X c d a b).2) ((X c d a b).1) ((X c d a b).2)<=9223372036854775807 from (PC _ _)) c4 f g Cj)
     ·exact ALa GF rfl [Y,Y,Y,Y,bT,bT,bT] (EQ (AKg c1) (AKg c2) (AKg c3) (show 0<=Bs ((X c d a b).1) ((X c d a b).2) ((X c d a b).1) ((X c d a b).2)/\Bs ((X c d a b).1) ((X c d a b).2) ((X c d a b).1) ((X c d a b).2)<=9223372036854775807 from (PC _ _)) c4 f Cj Cj)
    ·exact ALa GF rfl [Y,Y,Y,bT,bT,bT,bT] (EQ (AKg c1) (AKg c2) (AKg c3) (show 0<=Bs ((X c d a b).1) ((X c d a b).2) ((X c d a b).1) ((X c d a b).2)/\Bs ((X c d a b).1) ((X c d a b).2) ((X c d a b).1) ((X c d a b).2)<=9223372036854775807 from (PC _ _)) c4 Cj Cj Cj)
def AEh:u->Option (AV × List Prop)
 | [M [.str _,A D _,A D a,A D b,A D c,A D d,A D ex,A D e,A D _,A D _,A D _,A D _]]=>some (A D (Gw a b c d ex e),[])
 | _=>none
def TJ2:Bx:=(176,AEh)::TJ1
theorem Zd:Be CQ TJ2:=Be.cons GF (by
 intro args r ps h a;unfold AEh at h;split at h
 ·cases h;exact Zc _ _ _ _ _ _ _ _ _ _ _ _ 
 ·cases h)
def DS(a b c d ex e:Int):Int × Bool :=
 (Gw a b c d ex e,G (Gw a b c d ex e>0))
theorem A9x(nm:ByteArray)(f a b c d ex e rs g h i:Int)  : RQ 76 [M [.str nm,A D f,A D a,A D b,A D c,A D d,A D ex,A D e,A D rs,A D g,A D h,A D i]] (Hm [A D ((DS a b c d ex e).1),I ((DS a b c d ex e).2)]):=by
 unfold DS;exact ALa Zd rfl [] a0
def g76:u->Option (AV × List Prop)
 | [M [.str _,A D _,A D a,A D b,A D c,A D d,A D ex,A D e,A D _,A D _,A D _,A D _]]=>some (Hm [A D ((DS a b c d ex e).1),I ((DS a b c d ex e).2)],[])
 | _=>none
def TJ3:Bx:=(76,g76)::TJ2
theorem K_:Be CQ TJ3:=Be.cons Zd (by
 intro args r ps h a;unfold g76 at h;split at h
 ·cases h;exact A9x _ _ _ _ _ _ _ _ _ _ _ _ 
 ·cases h)
def Ze(x y:Int):Bool :=
 match decide (x<(-536870912)) with
 | true=>(true)
 | false=>(match decide (x>536870912) with
 | true=>(true)
 | false=>(match decide (y<(-536870912)) with
 | true=>(true)
 | false=>((G (y>536870912)))))
theorem A0r(x y:Int)  : RQ 229 [M [A D x,A D y]] (I (Ze x y)):=by
 unfold Ze;cases c1:(G (x<(-536870912)))
 ·cases c2:(G (x>536870912))
  ·cases c3:(G (y<(-536870912)))
   ·exact ALa K_ rfl [Y,Y,Y] (Fa c1 c2 c3)
   ·exact ALa K_ rfl [Y,Y,bT] (Fa c1 c2 c3)
  ·exact ALa K_ rfl [Y,bT,bT] (Fa c1 c2 Cj)
 ·exact ALa K_ rfl [bT,bT,bT] (Fa c1 Cj Cj)
def AEi:u->Option (AV × List Prop)
 | [M [A D x,A D y]]=>some (I (Ze x y),[])
 | _=>none
def TJ4:Bx:=(229,AEi)::TJ3
theorem Lb:Be CQ TJ4:=Be.cons K_ (by
 intro args r ps h a;unfold AEi at h;split at h
 ·cases h;exact A0r _ _ 
 ·cases h)
def Lc(a b e f ex g c d:Int):Bool :=
 match (DS a b e f ex g).2 with
 | true=>(match Ze c d with
 | true=>(false)
 | false=>(match decide (Bq ((X e f a b).1) ((X e f a b).2) ((X c d ((DK a b 256).1) ((DK a b 256).2)).1) ((X c d ((DK a b 256).1) ((DK a b 256).2)).2)>0) with
 | true=>((G (Bq ((X c d ((DK a b 256).1) ((DK a b 256).2)).1) ((X c d ((DK a b 256).1) ((DK a b 256).2)).2) ((X ex g a b).1) ((X ex g a b).2)>0)))
 | false=>false))
 | false=>false
theorem A0s(nm:ByteArray)(h a b c d ex g rs i j k e f:Int)  : RQ 149 [M [.str nm,A D h,A D a,A D b,A D c,A D d,A D ex,A D g,A D rs,A D i,A D j,A D k],M [A D e,A D f]] (I (Lc a b c d ex g e f)):=by
 unfold Lc;cases c1:((DS a b c d ex g).2)
 ·exact ALa Lb rfl [bT,bT] (Gd (AKj c1) Cj)
 ·cases c2:(Ze e f)
  ·cases c3:(G (Bq ((X c d a b).1) ((X c d a b).2) ((X e f ((DK a b 256).1) ((DK a b 256).2)).1) ((X e f ((DK a b 256).1) ((DK a b 256).2)).2)>0))
   ·exact ALa Lb rfl [Y,Y,Y] (Fa (AKg c1) c2 c3)
   ·exact ALa Lb rfl [Y,Y,bT] (Fa (AKg c1) c2 c3)
  ·exact ALa Lb rfl [Y,bT] (Gd (AKg c1) c2)
def AEj:u->Option (AV × List Prop)
 | [M [.str _,A D _,A D a,A D b,A D c,A D d,A D ex,A D e,A D _,A D _,A D _,A D _],M [A D f,A D g]]=>some (I (Lc a b c d ex e f g),[])
 | _=>none
def TJ5:Bx:=(149,AEj)::TJ4
theorem EH:Be CQ TJ5:=Be.cons Lb (by
 intro args r ps h a;unfold AEj at h;split at h
 ·cases h;exact A0s _ _ _ _ _ _ _ _ _ _ _ _ _ _ 
 ·cases h)
def Nc(px py a b c d ex e f:Int):Bool :=
 match (DS a b c d ex e).2 with
 | true=>(match decide (f<1) with
 | true=>(false)
 | false=>(match decide (f>=((DS a b c d ex e).1)) with
 | true=>(false)
 | false=>(match decide (px<(-2097152)) with
 | true=>(false)
 | false=>(match decide (px>2097152) with
 | true=>(false)
 | false=>(match decide (py<(-2097152)) with
 | true=>(false)
 | false=>(match decide (py>2097152) with
 | true=>(false)
 | false=>(match Gv px py c d f with
 | true=>(true)
 | false=>(match Gv px py ex e f with
 | true=>(true)
 | false=>(match Lc a b c d ex e ((DK px py 256).1) ((DK px py 256).2) with
 | true=>(match decide (Bs ((X px py a b).1) ((X px py a b).2) ((X px py a b).1) ((X px py a b).2)<O D (O D (((DS a b c d ex e).1)+f)*O D (((DS a b c d ex e).1)+f))) with
 | true=>((G (Bs ((X px py a b).1) ((X px py a b).2) ((X px py a b).1) ((X px py a b).2)>O D (O D (((DS a b c d ex e).1)-f)*O D (((DS a b c d ex e).1)-f)))))
 | false=>false)
 | false=>false)))))))))
 | false=>false
theorem Ami(px py:Int)(nm:ByteArray)(n a b c d ex e rs o p q f:Int)  : RQ 65 [M [A D px,A D py],M [.str nm,A D n,A D a,A D b,A D c,A D d,A D ex,A D e,A D rs,A D o,A D p,A D q],A D f] (I (Nc px py a b c d ex e f)):=by
 unfold Nc;cases c1:((DS a b c d ex e).2)
 ·exact ALa EH rfl [bT,bT,bT,bT,bT,bT,bT] (Gs (AKj c1) Cj Cj Cj Cj Cj Cj)
 ·cases c2:(G (f<1))
  ·cases c3:(G (f>=((DS a b c d ex e).1)))
   ·cases c4:(G (px<(-2097152)))
    ·cases g:(G (px>2097152))
     ·cases h:(G (py<(-2097152)))
      ·cases i:(G (py>2097152))
       ·cases j:(Gv px py c d f)
        ·cases k:(Gv px py ex e f)
         ·cases l:(Lc a b c d ex e ((DK px py 256).1) ((DK px py 256).2))
          ·exact ALa EH rfl [Y,Y,Y,Y,Y,Y,Y,Y,Y,Y,Y] (G3 (AKg c1) c2 c3 c4 g h i j k l Dx)
          ·cases m:(G (Bs ((X px py a b).1) ((X px py a b).2) ((X px py a b).1) ((X px py a b).2)<O D (O D (((DS a b c d ex e).1)+f)*O D (((DS a b c d ex e).1)+f))))
           ·exact ALa EH rfl [Y,Y,Y,Y,Y,Y,Y,Y,Y,bT,Y] (G3 (AKg c1) c2 c3 c4 g h i j k l m)
           ·exact ALa EH rfl [Y,Y,Y,Y,Y,Y,Y,Y,Y,bT,bT] (G3 (AKg c1) c2 c3 c4 g h i j k l m)
         ·exact ALa EH rfl [Y,Y,Y,Y,Y,Y,Y,Y,bT] (K0 (AKg c1) c2 c3 c4 g h i j k)
        ·exact ALa EH rfl [Y,Y,Y,Y,Y,Y,Y,bT,bT] (K0 (AKg c1) c2 c3 c4 g h i j Cj)
       ·exact ALa EH rfl [Y,Y,Y,Y,Y,Y,bT] (Gs (AKg c1) c2 c3 c4 g h i)
      ·exact ALa EH rfl [Y,Y,Y,Y,Y,bT,bT] (Gs (AKg c1) c2 c3 c4 g h Cj)
     ·exact ALa EH rfl [Y,Y,Y,Y,bT,bT,bT] (Gs (AKg c1) c2 c3 c4 g Cj Cj)
    ·exact ALa EH rfl [Y,Y,Y,bT,bT,bT,bT] (Gs (AKg c1) c2 c3 c4 Cj Cj Cj)
   ·exact ALa EH rfl [Y,Y,bT,bT,bT,bT,bT] (Gs (AKg c1) c2 c3 Cj Cj Cj Cj)
  ·exact ALa EH rfl [Y,bT,bT,bT,bT,bT,bT] (Gs (AKg c1) c2 Cj Cj Cj Cj Cj)
def g65:u->Option (AV × List Prop)
 | [M [A D px,A D py],M [.str _,A D _,A D a,A D b,A D c,A D d,A D ex,A D e,A D _,A D _,A D _,A D _],A D f]=>some (I (Nc px py a b c d ex e f),[])
 | _=>none
def TJ6:Bx:=(65,g65)::TJ5
theorem Ahf:Be CQ TJ6:=Be.cons EH (by
 intro args r ps h a;unfold g65 at h;split at h
 ·cases h;exact Ami _ _ _ _ _ _ _ _ _ _ _ _ _ _ _ 
 ·cases h)
def A0t:Bx:=TJ6
theorem N_:Be CQ A0t:=Ahf
def C9(c:Int):Bool :=
 match decide (c>=97) with
 | true=>((G (c<=122)))
 | false=>false
theorem Ld(c:Int)  : RQ 221 [A .u8 c] (I (C9 c)):=by
 unfold C9;cases c1:(G (c>=97))
 ·exact ALa N_ rfl [Y] (Bc c1)
 ·exact ALa N_ rfl [bT] (Bc c1)
def AEk:u->Option (AV × List Prop)
 | [A .u8 c]=>some (I (C9 c),[])
 | _=>none
def TQ1:Bx:=(221,AEk)::A0t
theorem Zf:Be CQ TQ1:=Be.cons N_ (by
 intro args r ps h a;unfold AEk at h;split at h
 ·cases h;exact Ld _ 
 ·cases h)
def IX(c:Int):Bool :=
 match decide (c>=48) with
 | true=>((G (c<=57)))
 | false=>false
theorem yA(c:Int)  : RQ 222 [A .u8 c] (I (IX c)):=by
 unfold IX;cases c1:(G (c>=48))
 ·exact ALa Zf rfl [Y] (Bc c1)
 ·exact ALa Zf rfl [bT] (Bc c1)
theorem d:Be CQ []:=Be.nil _
def PK:ICode:=Ca Sn 93 116
section
variable(s:ByteArray)
def HN(z:Bool)(i:Int):H:=Ab (.str s)::V 1 (Ab (I z)::vi i::V 32 [])
theorem A2e(z:Bool)(i c:Int)(c1:G (i<(C4 s:Int))=true)(c2:C9 c=true)(a:((if 0<=i then (s)[J i]? else none).map fun c=>(c.toNat:Int))=some c):Aa PK (HN s z i) .norm (HN s z (O D (i+1))):=B d [bT,.v (A .u8 c),.r (I (C9 c)),Y,Y] RR (Fh c1 a (show RQ 221 [A .u8 c] (I (C9 c)) from Ld _) (AKg c2) iY)
theorem A2f(z:Bool)(i c:Int)(c1:G (i<(C4 s:Int))=true)(c2:C9 c=false)(c3:IX c=true)(a:((if 0<=i then (s)[J i]? else none).map fun c=>(c.toNat:Int))=some c):Aa PK (HN s z i) .norm (HN s z (O D (i+1))):=B d [bT,.v (A .u8 c),.r (I (C9 c)),bT,.v (A .u8 c),.r (I (IX c)),Y] RR (Gs c1 a (show RQ 221 [A .u8 c] (I (C9 c)) from Ld _) (AKj c2) a (show RQ 222 [A .u8 c] (I (IX c)) from yA _) (AKg c3))
theorem A2g(z:Bool)(i c:Int)(c1:G (i<(C4 s:Int))=true)(c2:C9 c=false)(c3:IX c=false)(a:((if 0<=i then (s)[J i]? else none).map fun c=>(c.toNat:Int))=some c):Aa PK (HN s z i) .ret (HN s false i):=B d [bT,.v (A .u8 c),.r (I (C9 c)),bT,.v (A .u8 c),.r (I (IX c)),bT] RR (Gs c1 a (show RQ 221 [A .u8 c] (I (C9 c)) from Ld _) (AKj c2) a (show RQ 222 [A .u8 c] (I (IX c)) from yA _) (AKj c3))
theorem A2h(z:Bool)(i:Int)(c1:G (i<(C4 s:Int))=false):Aa PK (HN s z i) xZ0 (HN s z i):=B d [Y] RR (Bc c1)
theorem zD(c1:((C4 s:Int)==0)=true):RQ 121 [.str s] (I false):=K4 Sn (V 2 (Ab (I false)::V 33 [])) (BU (BS (m (B d [bT,bT,bT] [2] (Fa c1 EJ EJ)))))
theorem zE(c1:((C4 s:Int)==0)=false)(c2:G ((C4 s:Int)>12)=true):RQ 121 [.str s] (I false):=K4 Sn (V 2 (Ab (I false)::V 33 [])) (BU (BS (m (B d [Y,bT,bT] [2] (Fa c1 c2 EJ)))))
theorem zF(c i:Int)(z:Bool)(c1:((C4 s:Int)==0)=false)(c2:G ((C4 s:Int)>12)=false)(c3:C9 c=true)(a:((if 0<=0 then (s)[J 0]? else none).map fun c=>(c.toNat:Int))=some c)(b:Aa (.loop PK) (HN s false 0) xZ0 (HN s z i)):RQ 121 [.str s] (I true):=K4 Sn (V 2 (Ab (I true)::V 33 [])) (BU (BS (N (B d [Y,Y,.v (A .u8 c),.r (I (C9 c)),Y] RR (Fh c1 c2 a (show RQ 221 [A .u8 c] (I (C9 c)) from Ld _) (AKg c3))) (N (A0 b) (B d [] [2] a0)))))
theorem zG(c:Int)(c1:((C4 s:Int)==0)=false)(c2:G ((C4 s:Int)>12)=false)(c3:C9 c=false)(a:((if 0<=0 then (s)[J 0]? else none).map fun c=>(c.toNat:Int))=some c):RQ 121 [.str s] (I false):=K4 Sn (V 2 (Ab (I false)::V 33 [])) (BU (BS (m (B d [Y,Y,.v (A .u8 c),.r (I (C9 c)),bT] [2] (Fh c1 c2 a (show RQ 221 [A .u8 c] (I (C9 c)) from Ld _) (AKj c3))))))
theorem zH(c i:Int)(z:Bool)(c1:((C4 s:Int)==0)=false)(c2:G ((C4 s:Int)>12)=false)(c3:C9 c=true)(a:((if 0<=0 then (s)[J 0]? else none).map fun c=>(c.toNat:Int))=some c)(b:Aa (.loop PK) (HN s false 0) .ret (HN s z i)):RQ 121 [.str s] (I z):=K4 Sn (Ab (.str s)::V 1 (Ab (I z)::vi i::V 32 [])) (BU (BS (N (B d [Y,Y,.v (A .u8 c),.r (I (C9 c)),Y] RR (Fh c1 c2 a (show RQ 221 [A .u8 c] (I (C9 c)) from Ld _) (AKg c3))) (m (AG b)))))
end
structure Rw where
 s:ByteArray
 a:Bool
 b:Bool
def cE(r:Rw):u:=[.str r.s,I r.a,I r.b]
def Anc(t:Tbl):H:=V 1 (T t.cs::V 289 [])
def F_(t:Tbl)(os:List Rw):H:=V 1 (T t.cs::V 1 (Av 3 (C os) (F cE os)::V 287 []))
def ZA(t:Tbl):H:=V 1 (T t.cs::V 1 (Av 3 0 []::V 287 []))
def zI:ICode := .region false (i (Ca Mx 98 2))
theorem jL(t:Tbl)   : Aa zI (CL (iF g Mx) [M t.cs]) .norm (Anc t):=B d [] [1] a0
def zJ:ICode := .region false [o1 3 (.nlo 3)]
theorem jM(t:Tbl)   : Aa zJ (Anc t) .norm (ZA t):=B d [] [1,3] a0
def IY(t:Tbl)(i:Int)(os:List Rw):H:=V 1 (T t.cs::V 1 (Av 3 (C os) (F cE os)::vi i::V 286 []))
def PL(t:Tbl)(i:Int)(a:Nat)(co:u):H:=V 1 (T t.cs::V 1 (Av 3 a co::vi i::V 286 []))
def PM:ICode := .region false [o1 4 (.mov (.c (.int .i64 0)))]
theorem TG(t:Tbl)   : Aa PM (ZA t) .norm (IY t 0 ([])):=B d [] Ps a0
def Nf(t:Tbl)(i:Int)(os:List Rw)(e:El):H:=V 1 (T t.cs::V 1 (Av 3 (C os) (F cE os)::vi i::T (cZ e)::V 285 []))
def ZB:ICode := .region false (i (Ca Mx 88 3730))
def K5:ICode:=Ca Mx 93 116
section
variable(t:Tbl)(i:Int)(os:List Rw)
theorem ZC(b:Bool)(e:El)(c1:G (i<C t.zo)=true)(c2:G (e.n 1<e.n 3)=true)(a:0<=i/\i<C t.zo)(c:At cZ 9 t.zo i e)(f:Aa ZB (Nf t i os e) .norm (CB (Nf t i os e) 6 (Ab (I b))))(g:C os+1<=1048576):Aa K5 (IY t i os) .norm (PL t (O D (i+1)) (C os+1) (F cE os++([.str e.s,I b,I (G (e.n 2<e.n 4))]:u))):=N (B (t:=V 1 (T t.cs::V 1 (Av 3 (C os) (F cE os)::vi i::V 286 []))) d [bT] Ps (Bc c1)) (N (x (N (B d [.v (M (cZ e))] [1,3,4,5] (Gd a c)) (N f (B (t:=V 1 (T t.cs::V 1 (Av 3 (C os+1) (F cE os++([.str e.s,I b,I (G (e.n 2<e.n 4))]:u))::vi i::V 59 (Ab (I (G (e.n 1<e.n 3)))::V 226 [])))) d [bT] [1,3,4,64] (Fa c2 (show C ([.str e.s,I b,I (G (e.n 2<e.n 4))]:u)=1*3 from rfl) g))))) (B d [] Ps a0))
theorem ZD(b:Bool)(e:El)(c1:G (i<C t.zo)=true)(c2:G (e.n 1<e.n 3)=false)(a:0<=i/\i<C t.zo)(c:At cZ 9 t.zo i e)(f:Aa ZB (Nf t i os e) .norm (CB (Nf t i os e) 6 (Ab (I b))))(g:C os+1<=1048576):Aa K5 (IY t i os) .norm (PL t (O D (i+1)) (C os+1) (F cE os++([.str e.s,I b,I false]:u))):=N (B (t:=V 1 (T t.cs::V 1 (Av 3 (C os) (F cE os)::vi i::V 286 []))) d [bT] Ps (Bc c1)) (N (x (N (B d [.v (M (cZ e))] [1,3,4,5] (Gd a c)) (N f (B (t:=V 1 (T t.cs::V 1 (Av 3 (C os+1) (F cE os++([.str e.s,I b,I false]:u))::vi i::V 59 (Ab (I (G (e.n 1<e.n 3)))::V 226 [])))) d [Y] [1,3,4,64] (Fa c2 (show C ([.str e.s,I b,I false]:u)=1*3 from rfl) g))))) (B d [] Ps a0))
theorem ZE(c1:G (i<C t.zo)=false):Aa K5 (IY t i os) xZ0 (IY t i os):=m (B d [Y] Ps (Bc c1))
def JD:H:=V 1 (T t.cs::V 1 (Av 3 (C os) (F cE os)::V 3 (vi i::V 283 [])))
end
def TH(t:Tbl)(i:Int)(a:Nat)(co:u):H:=V 1 (T t.cs::V 1 (Av 3 a co::V 3 (vi i::V 283 [])))
def PN:ICode := .region false [o1 7 (.mov (.c (.int .i64 0)))]
theorem UU(t:Tbl)(os:List Rw)   : Aa PN (F_ t os) .norm (JD t 0 os):=B d [] MW a0
def TI(t:Tbl)(i:Int)(os:List Rw)(e:El):H:=V 1 (T t.cs::V 1 (Av 3 (C os) (F cE os)::V 3 (vi i::T (AN e)::V 282 [])))
def zK:ICode := .region false (i (Ca Mx 87 7826))
def LP:ICode:=Ca Mx 92 244
section
variable(t:Tbl)(i:Int)(os:List Rw)
theorem ZF(b:Bool)(e:El)(c1:G (i<C t.sa)=true)(a:0<=i/\i<C t.sa)(c:At AN 10 t.sa i e)(f:Aa zK (TI t i os e) .norm (CB (TI t i os e) 9 (Ab (I b))))(g:C os+1<=1048576):Aa LP (JD t i os) .norm (TH t (O D (i+1)) (C os+1) (F cE os++([.str e.s,I b,I (G (e.n 3<t.r0))]:u))):=N (B (t:=V 1 (T t.cs::V 1 (Av 3 (C os) (F cE os)::V 3 (vi i::V 283 [])))) d [bT] MW (Bc c1)) (N (x (N (B d [.v (M (AN e))] [1,3,7,8] (Gd a c)) (N f (B (t:=V 1 (T t.cs::V 1 (Av 3 (C os+1) (F cE os++([.str e.s,I b,I (G (e.n 3<t.r0))]:u))::V 3 (vi i::V 283 [])))) d [] MW (Gd (show C ([.str e.s,I b,I (G (e.n 3<t.r0))]:u)=1*3 from rfl) g))))) (B d [] MW a0))
theorem ZG(c1:G (i<C t.sa)=false):Aa LP (JD t i os) xZ2 (JD t i os):=m (B d [Y] MW (Bc c1))
def H5:H:=V 1 (T t.cs::V 1 (Av 3 (C os) (F cE os)::V 6 (vi i::V 280 [])))
end
def Lh(t:Tbl)(i:Int)(a:Nat)(co:u):H:=V 1 (T t.cs::V 1 (Av 3 a co::V 6 (vi i::V 280 [])))
def PO:ICode := .region false [o1 10 (.mov (.c (.int .i64 0)))]
theorem UV(t:Tbl)(os:List Rw)   : Aa PO (F_ t os) .norm (H5 t 0 os):=B d [] Pr a0
def IZ:ICode:=Ca Mx 91 500
section
variable(t:Tbl)(i:Int)(os:List Rw)
theorem ZH(e:El)(c1:G (i<C t.la)=true)(c2:BK (e.n 0) 0 3=true)(c3:BH (e.n 1) (e.n 2) 1048576=true)(c4:BK (e.n 3) 1 262144=true)(a:0<=i/\i<C t.la)(b:C os+1<=1048576)(c:At cL 6 t.la i e):Aa IZ (H5 t i os) .norm (Lh t (O D (i+1)) (C os+1) (F cE os++([.str e.s,I (BK (e.n 4) (-1) 63),I true]:u))):=B d [bT,.v (M (cL e)),.r (I (BK (e.n 0) 0 3)),bT,.r (I (BH (e.n 1) (e.n 2) 1048576)),bT,.r (I (BK (e.n 3) 1 262144)),bT,.r (I (BK (e.n 4) (-1) 63))] Pr (Em c1 a c (show RQ 118 [A D (e.n 0),A D 0,A D 3] (I (BK (e.n 0) 0 3)) from Es _ _ _) c2 (show RQ 119 [M [A D (e.n 1),A D (e.n 2)],A D 1048576] (I (BH (e.n 1) (e.n 2) 1048576)) from GR _ _ _) c3 (show RQ 118 [A D (e.n 3),A D 1,A D 262144] (I (BK (e.n 3) 1 262144)) from Es _ _ _) c4 (show RQ 118 [A D (e.n 4),A D (-1),A D 63] (I (BK (e.n 4) (-1) 63)) from Es _ _ _) (show C ([.str e.s,I (BK (e.n 4) (-1) 63),I true]:u)=1*3 from rfl) b)
theorem ZI(e:El)(c1:G (i<C t.la)=true)(c2:BK (e.n 0) 0 3=true)(c3:BH (e.n 1) (e.n 2) 1048576=true)(c4:BK (e.n 3) 1 262144=false)(a:0<=i/\i<C t.la)(b:C os+1<=1048576)(c:At cL 6 t.la i e):Aa IZ (H5 t i os) .norm (Lh t (O D (i+1)) (C os+1) (F cE os++([.str e.s,I false,I true]:u))):=B d [bT,.v (M (cL e)),.r (I (BK (e.n 0) 0 3)),bT,.r (I (BH (e.n 1) (e.n 2) 1048576)),bT,.r (I (BK (e.n 3) 1 262144)),Y] Pr (G3 c1 a c (show RQ 118 [A D (e.n 0),A D 0,A D 3] (I (BK (e.n 0) 0 3)) from Es _ _ _) c2 (show RQ 119 [M [A D (e.n 1),A D (e.n 2)],A D 1048576] (I (BH (e.n 1) (e.n 2) 1048576)) from GR _ _ _) c3 (show RQ 118 [A D (e.n 3),A D 1,A D 262144] (I (BK (e.n 3) 1 262144)) from Es _ _ _) c4 (show C ([.str e.s,I false,I true]:u)=1*3 from rfl) b)
theorem ZJ(e:El)(c1:G (i<C t.la)=true)(c2:BK (e.n 0) 0 3=true)(c3:BH (e.n 1) (e.n 2) 1048576=false)(a:0<=i/\i<C t.la)(b:C os+1<=1048576)(c:At cL 6 t.la i e):Aa IZ (H5 t i os) .norm (Lh t (O D (i+1)) (C os+1) (F cE os++([.str e.s,I false,I true]:u))):=B d [bT,.v (M (cL e)),.r (I (BK (e.n 0) 0 3)),bT,.r (I (BH (e.n 1) (e.n 2) 1048576)),Y,Y] Pr (Fm c1 a c (show RQ 118 [A D (e.n 0),A D 0,A D 3] (I (BK (e.n 0) 0 3)) from Es _ _ _) c2 (show RQ 119 [M [A D (e.n 1),A D (e.n 2)],A D 1048576] (I (BH (e.n 1) (e.n 2) 1048576)) from GR _ _ _) c3 iY (show C ([.str e.s,I false,I true]:u)=1*3 from rfl) b)
theorem ZK(e:El)(c1:G (i<C t.la)=true)(c2:BK (e.n 0) 0 3=false)(a:0<=i/\i<C t.la)(b:C os+1<=1048576)(c:At cL 6 t.la i e):Aa IZ (H5 t i os) .norm (Lh t (O D (i+1)) (C os+1) (F cE os++([.str e.s,I false,I true]:u))):=B d [bT,.v (M (cL e)),.r (I (BK (e.n 0) 0 3)),Y,Y,Y] Pr (K0 c1 a c (show RQ 118 [A D (e.n 0),A D 0,A D 3] (I (BK (e.n 0) 0 3)) from Es _ _ _) c2 iY iY (show C ([.str e.s,I false,I true]:u)=1*3 from rfl) b)
theorem ZL(c1:G (i<C t.la)=false):Aa IZ (H5 t i os) xZ4 (H5 t i os):=B d [Y] Pr (Bc c1)
def I_:H:=V 1 (T t.cs::V 1 (Av 3 (C os) (F cE os)::V 8 (vi i::V 278 [])))
end
def PP(t:Tbl)(i:Int)(a:Nat)(co:u):H:=V 1 (T t.cs::V 1 (Av 3 a co::V 8 (vi i::V 278 [])))
def PQ:ICode := .region false [o1 12 (.mov (.c (.int .i64 0)))]
theorem UW(t:Tbl)(os:List Rw)   : Aa PQ (F_ t os) .norm (I_ t 0 os):=B d [] Wv a0
def Ng(t:Tbl)(i:Int)(os:List Rw)(e:El):H:=V 1 (T t.cs::V 1 (Av 3 (C os) (F cE os)::V 8 (vi i::T (cR e)::V 277 [])))
def ZM:ICode := .region false (i (Ca Mx 85 32402))
def K6:ICode:=Ca Mx 90 1012
section
variable(t:Tbl)(i:Int)(os:List Rw)
theorem ZN(b:Bool)(e:El)(c1:G (i<C t.ra)=true)(c2:((e.n 0) != (e.n 1))=true)(a:0<=i/\i<C t.ra)(c:At cR 8 t.ra i e)(f:Aa ZM (Ng t i os e) .norm (CB (Ng t i os e) 14 (Ab (I b))))(g:C os+1<=1048576):Aa K6 (I_ t i os) .norm (PP t (O D (i+1)) (C os+1) (F cE os++([.str e.s,I b,I (!(e.n 5==0&&(e.n 6==0&&true)))]:u))):=N (B (t:=V 1 (T t.cs::V 1 (Av 3 (C os) (F cE os)::V 8 (vi i::V 278 [])))) d [bT] Wv (Bc c1)) (N (x (N (B d [.v (M (cR e))] [1,3,12,13] (Gd a c)) (N f (B (t:=V 1 (T t.cs::V 1 (Av 3 (C os+1) (F cE os++([.str e.s,I b,I (!(e.n 5==0&&(e.n 6==0&&true)))]:u))::V 8 (vi i::V 278 [])))) d [bT] Wv (Fa c2 (show C ([.str e.s,I b,I (!(e.n 5==0&&(e.n 6==0&&true)))]:u)=1*3 from rfl) g))))) (B d [] Wv a0))
theorem ZO(b:Bool)(e:El)(c1:G (i<C t.ra)=true)(c2:((e.n 0) != (e.n 1))=false)(a:0<=i/\i<C t.ra)(c:At cR 8 t.ra i e)(f:Aa ZM (Ng t i os e) .norm (CB (Ng t i os e) 14 (Ab (I b))))(g:C os+1<=1048576):Aa K6 (I_ t i os) .norm (PP t (O D (i+1)) (C os+1) (F cE os++([.str e.s,I b,I false]:u))):=N (B (t:=V 1 (T t.cs::V 1 (Av 3 (C os) (F cE os)::V 8 (vi i::V 278 [])))) d [bT] Wv (Bc c1)) (N (x (N (B d [.v (M (cR e))] [1,3,12,13] (Gd a c)) (N f (B (t:=V 1 (T t.cs::V 1 (Av 3 (C os+1) (F cE os++([.str e.s,I b,I false]:u))::V 8 (vi i::V 278 [])))) d [Y] Wv (Fa c2 (show C ([.str e.s,I b,I false]:u)=1*3 from rfl) g))))) (B d [] Wv a0))
theorem ZP(c1:G (i<C t.ra)=false):Aa K6 (I_ t i os) xZ6 (I_ t i os):=m (B d [Y] Wv (Bc c1))
def Ij:H:=V 1 (T t.cs::V 1 (Av 3 (C os) (F cE os)::V 11 (vi i::V 275 [])))
end
def Nh(t:Tbl)(i:Int)(a:Nat)(co:u):H:=V 1 (T t.cs::V 1 (Av 3 a co::V 11 (vi i::V 275 [])))
def PR:ICode := .region false [o1 15 (.mov (.c (.int .i64 0)))]
theorem UX(t:Tbl)(os:List Rw)   : Aa PR (F_ t os) .norm (Ij t 0 os):=B d [] [1,3,15] a0
def JE:ICode:=Ca Mx 89 2036
section
variable(t:Tbl)(i:Int)(os:List Rw)
theorem ZQ(e:El)(c1:G (i<C t.dr)=true)(c2:BK (e.n 0) 0 3=true)(c3:BH (e.n 1) (e.n 2) 1048576=true)(a:0<=i/\i<C t.dr)(b:C os+1<=1048576)(c:At cD 5 t.dr i e):Aa JE (Ij t i os) .norm (Nh t (O D (i+1)) (C os+1) (F cE os++([.str e.s,I (BK (e.n 3) 1 262144),I true]:u))):=B d [bT,.v (M (cD e)),.r (I (BK (e.n 0) 0 3)),bT,.r (I (BH (e.n 1) (e.n 2) 1048576)),bT,.r (I (BK (e.n 3) 1 262144))] [1,3,15] (Fm c1 a c (show RQ 118 [A D (e.n 0),A D 0,A D 3] (I (BK (e.n 0) 0 3)) from Es _ _ _) c2 (show RQ 119 [M [A D (e.n 1),A D (e.n 2)],A D 1048576] (I (BH (e.n 1) (e.n 2) 1048576)) from GR _ _ _) c3 (show RQ 118 [A D (e.n 3),A D 1,A D 262144] (I (BK (e.n 3) 1 262144)) from Es _ _ _) (show C ([.str e.s,I (BK (e.n 3) 1 262144),I true]:u)=1*3 from rfl) b)
theorem ZR(e:El)(c1:G (i<C t.dr)=true)(c2:BK (e.n 0) 0 3=true)(c3:BH (e.n 1) (e.n 2) 1048576=false)(a:0<=i/\i<C t.dr)(b:C os+1<=1048576)(c:At cD 5 t.dr i e):Aa JE (Ij t i os) .norm (Nh t (O D (i+1)) (C os+1) (F cE os++([.str e.s,I false,I true]:u))):=B d [bT,.v (M (cD e)),.r (I (BK (e.n 0) 0 3)),bT,.r (I (BH (e.n 1) (e.n 2) 1048576)),Y] [1,3,15] (K0 c1 a c (show RQ 118 [A D (e.n 0),A D 0,A D 3] (I (BK (e.n 0) 0 3)) from Es _ _ _) c2 (show RQ 119 [M [A D (e.n 1),A D (e.n 2)],A D 1048576] (I (BH (e.n 1) (e.n 2) 1048576)) from GR _ _ _) c3 (show C ([.str e.s,I false,I true]:u)=1*3 from rfl) b)
theorem ZS(e:El)(c1:G (i<C t.dr)=true)(c2:BK (e.n 0) 0 3=false)(a:0<=i/\i<C t.dr)(b:C os+1<=1048576)(c:At cD 5 t.dr i e):Aa JE (Ij t i os) .norm (Nh t (O D (i+1)) (C os+1) (F cE os++([.str e.s,I false,I true]:u))):=B d [bT,.v (M (cD e)),.r (I (BK (e.n 0) 0 3)),Y,Y] [1,3,15] (EQ c1 a c (show RQ 118 [A D (e.n 0),A D 0,A D 3] (I (BK (e.n 0) 0 3)) from Es _ _ _) c2 iY (show C ([.str e.s,I false,I true]:u)=1*3 from rfl) b)
theorem ZT(c1:G (i<C t.dr)=false):Aa JE (Ij t i os) xZ8 (Ij t i os):=B d [Y] [1,3,15] (Bc c1)
def H6:H:=V 1 (T t.cs::V 1 (Av 3 (C os) (F cE os)::V 13 (vi i::V 273 [])))
end
def Li(t:Tbl)(i:Int)(a:Nat)(co:u):H:=V 1 (T t.cs::V 1 (Av 3 a co::V 13 (vi i::V 273 [])))
def PS:ICode := .region false [o1 17 (.mov (.c (.int .i64 0)))]
theorem UY(t:Tbl)(os:List Rw)   : Aa PS (F_ t os) .norm (H6 t 0 os):=B d [] lO a0
def Ja:ICode:=Ca Mx 88 4084
section
variable(t:Tbl)(i:Int)(os:List Rw)
theorem ZU(e:El)(c1:G (i<C t.ln)=true)(c2:BK (e.n 0) 0 3=true)(c3:BH (e.n 1) (e.n 2) 1048576=true)(c4:BH (e.n 3) (e.n 4) 16384=true)(a:0<=i/\i<C t.ln)(b:C os+1<=1048576)(c:At cK 7 t.ln i e):Aa Ja (H6 t i os) .norm (Li t (O D (i+1)) (C os+1) (F cE os++([.str e.s,I (BK (e.n 5) 0 31),I true]:u))):=B d [bT,.v (M (cK e)),.r (I (BK (e.n 0) 0 3)),bT,.r (I (BH (e.n 1) (e.n 2) 1048576)),bT,.r (I (BH (e.n 3) (e.n 4) 16384)),bT,.r (I (BK (e.n 5) 0 31))] lO (Em c1 a c (show RQ 118 [A D (e.n 0),A D 0,A D 3] (I (BK (e.n 0) 0 3)) from Es _ _ _) c2 (show RQ 119 [M [A D (e.n 1),A D (e.n 2)],A D 1048576] (I (BH (e.n 1) (e.n 2) 1048576)) from GR _ _ _) c3 (show RQ 119 [M [A D (e.n 3),A D (e.n 4)],A D 16384] (I (BH (e.n 3) (e.n 4) 16384)) from GR _ _ _) c4 (show RQ 118 [A D (e.n 5),A D 0,A D 31] (I (BK (e.n 5) 0 31)) from Es _ _ _) (show C ([.str e.s,I (BK (e.n 5) 0 31),I true]:u)=1*3 from rfl) b)
theorem ZV(e:El)(c1:G (i<C t.ln)=true)(c2:BK (e.n 0) 0 3=true)(c3:BH (e.n 1) (e.n 2) 1048576=true)(c4:BH (e.n 3) (e.n 4) 16384=false)(a:0<=i/\i<C t.ln)(b:C os+1<=1048576)(c:At cK 7 t.ln i e):Aa Ja (H6 t i os) .norm (Li t (O D (i+1)) (C os+1) (F cE os++([.str e.s,I false,I true]:u))):=B d [bT,.v (M (cK e)),.r (I (BK (e.n 0) 0 3)),bT,.r (I (BH (e.n 1) (e.n 2) 1048576)),bT,.r (I (BH (e.n 3) (e.n 4) 16384)),Y] lO (G3 c1 a c (show RQ 118 [A D (e.n 0),A D 0,A D 3] (I (BK (e.n 0) 0 3)) from Es _ _ _) c2 (show RQ 119 [M [A D (e.n 1),A D (e.n 2)],A D 1048576] (I (BH (e.n 1) (e.n 2) 1048576)) from GR _ _ _) c3 (show RQ 119 [M [A D (e.n 3),A D (e.n 4)],A D 16384] (I (BH (e.n 3) (e.n 4) 16384)) from GR _ _ _) c4 (show C ([.str e.s,I false,I true]:u)=1*3 from rfl) b)
theorem ZW(e:El)(c1:G (i<C t.ln)=true)(c2:BK (e.n 0) 0 3=true)(c3:BH (e.n 1) (e.n 2) 1048576=false)(a:0<=i/\i<C t.ln)(b:C os+1<=1048576)(c:At cK 7 t.ln i e):Aa Ja (H6 t i os) .norm (Li t (O D (i+1)) (C os+1) (F cE os++([.str e.s,I false,I true]:u))):=B d [bT,.v (M (cK e)),.r (I (BK (e.n 0) 0 3)),bT,.r (I (BH (e.n 1) (e.n 2) 1048576)),Y,Y] lO (Fm c1 a c (show RQ 118 [A D (e.n 0),A D 0,A D 3] (I (BK (e.n 0) 0 3)) from Es _ _ _) c2 (show RQ 119 [M [A D (e.n 1),A D (e.n 2)],A D 1048576] (I (BH (e.n 1) (e.n 2) 1048576)) from GR _ _ _) c3 iY (show C ([.str e.s,I false,I true]:u)=1*3 from rfl) b)
theorem ZX(e:El)(c1:G (i<C t.ln)=true)(c2:BK (e.n 0) 0 3=false)(a:0<=i/\i<C t.ln)(b:C os+1<=1048576)(c:At cK 7 t.ln i e):Aa Ja (H6 t i os) .norm (Li t (O D (i+1)) (C os+1) (F cE os++([.str e.s,I false,I true]:u))):=B d [bT,.v (M (cK e)),.r (I (BK (e.n 0) 0 3)),Y,Y,Y] lO (K0 c1 a c (show RQ 118 [A D (e.n 0),A D 0,A D 3] (I (BK (e.n 0) 0 3)) from Es _ _ _) c2 iY iY (show C ([.str e.s,I false,I true]:u)=1*3 from rfl) b)
theorem ZY(c1:G (i<C t.ln)=false):Aa Ja (H6 t i os) (.exit 10) (H6 t i os):=B d [Y] lO (Bc c1)
end
def Ane(a:Nat)(co:u):H:=V 2 (Av 3 a co::V 288 [])
def mA:ICode := .seq (.region false [o1 290 (.tra 3),o1 2 (.tra 290)]) (.ret)
theorem ZZ(t:Tbl)(os:List Rw)   : Aa mA (F_ t os) .ret (Ane (C os) (F cE os)):=B d [] [2] a0
theorem Asg:(iF g Mx).body = .seq zI (.seq zJ (.seq (.seq PM (.block 0 (.loop K5))) (.seq (.seq PN (.block 2 (.loop LP))) (.seq (.seq PO (.block 4 (.loop IZ))) (.seq (.seq PQ (.block 6 (.loop K6))) (.seq (.seq PR (.block 8 (.loop JE))) (.seq (.seq PS (.block 10 (.loop Ja))) mA))))))):=by kernel_rfl
def Anf(t:Tbl):H:=V 1 (T t.cs::V 264 [])
def Jb(t:Tbl)(os:List Rw):H:=V 1 (T t.cs::V 1 (Av 3 (C os) (F cE os)::V 262 []))
def Z'(t:Tbl):H:=V 1 (T t.cs::V 1 (Av 3 0 []::V 262 []))
def zL:ICode := .region false (i (Ca Pm 98 2))
theorem jN(t:Tbl)   : Aa zL (CL (iF g Pm) [M t.cs]) .norm (Anf t):=B d [] [1] a0
def zM:ICode := .region false [o1 3 (.nlo 3)]
theorem jO(t:Tbl)   : Aa zM (Anf t) .norm (Z' t):=B d [] [1,3] a0
def JF(t:Tbl)(i:Int)(os:List Rw):H:=V 1 (T t.cs::V 1 (Av 3 (C os) (F cE os)::vi i::V 261 []))
def TJ(t:Tbl)(i:Int)(a:Nat)(co:u):H:=V 1 (T t.cs::V 1 (Av 3 a co::vi i::V 261 []))
def PT:ICode := .region false [o1 4 (.mov (.c (.int .i64 0)))]
theorem TK(t:Tbl)   : Aa PT (Z' t) .norm (JF t 0 ([])):=B d [] Ps a0
def TL(t:Tbl)(i:Int)(os:List Rw)(e:El):H:=V 1 (T t.cs::V 1 (Av 3 (C os) (F cE os)::vi i::T (cW e)::V 260 []))
def zN:ICode := .region false (i (Ca Pm 88 3730))
def LQ:ICode:=Ca Pm 93 116
section
variable(t:Tbl)(i:Int)(os:List Rw)
theorem Z_(b:Bool)(e:El)(c1:G (i<C t.ws)=true)(a:0<=i/\i<C t.ws)(c:At cW 13 t.ws i e)(f:Aa zN (TL t i os e) .norm (CB (TL t i os e) 6 (Ab (I b))))(g:C os+1<=1048576):Aa LQ (JF t i os) .norm (TJ t (O D (i+1)) (C os+1) (F cE os++([.str e.s,I b,I (!(e.n 2==(e.n 4)&&(e.n 3==(e.n 5)&&true)))]:u))):=N (B (t:=V 1 (T t.cs::V 1 (Av 3 (C os) (F cE os)::vi i::V 261 []))) d [bT] Ps (Bc c1)) (N (x (N (B d [.v (M (cW e))] [1,3,4,5] (Gd a c)) (N f (B (t:=V 1 (T t.cs::V 1 (Av 3 (C os+1) (F cE os++([.str e.s,I b,I (!(e.n 2==(e.n 4)&&(e.n 3==(e.n 5)&&true)))]:u))::vi i::V 261 []))) d [] Ps (Gd (show C ([.str e.s,I b,I (!(e.n 2==(e.n 4)&&(e.n 3==(e.n 5)&&true)))]:u)=1*3 from rfl) g))))) (B d [] Ps a0))
theorem aA(c1:G (i<C t.ws)=false):Aa LQ (JF t i os) xZ0 (JF t i os):=m (B d [Y] Ps (Bc c1))
def Jc:H:=V 1 (T t.cs::V 1 (Av 3 (C os) (F cE os)::V 3 (vi i::V 258 [])))
end
def PU(t:Tbl)(i:Int)(a:Nat)(co:u):H:=V 1 (T t.cs::V 1 (Av 3 a co::V 3 (vi i::V 258 [])))
def PV:ICode := .region false [o1 7 (.mov (.c (.int .i64 0)))]
theorem UZ(t:Tbl)(os:List Rw)   : Aa PV (Jb t os) .norm (Jc t 0 os):=B d [] MW a0
def Ni(t:Tbl)(i:Int)(os:List Rw)(e:El):H:=V 1 (T t.cs::V 1 (Av 3 (C os) (F cE os)::V 3 (vi i::T (AD e)::V 257 [])))
def aB:ICode := .region false (i (Ca Pm 87 7826))
def K7:ICode:=Ca Pm 92 244
section
variable(t:Tbl)(i:Int)(os:List Rw)
theorem aC(b:Bool)(e:El)(c1:G (i<C t.ar)=true)(c2:b=true)(a:0<=i/\i<C t.ar)(c:At AD 12 t.ar i e)(f:Aa aB (Ni t i os e) .norm (CB (Ni t i os e) 9 (Ab (I b))))(g:C os+1<=1048576):Aa K7 (Jc t i os) .norm (PU t (O D (i+1)) (C os+1) (F cE os++([.str e.s,I b,I (G (Gw (e.n 1) (e.n 2) (e.n 3) (e.n 4) (e.n 5) (e.n 6)>O D (2*t.r0)))]:u))):=N (B (t:=V 1 (T t.cs::V 1 (Av 3 (C os) (F cE os)::V 3 (vi i::V 258 [])))) d [bT] MW (Bc c1)) (N (x (N (B d [.v (M (AD e))] [1,3,7,8] (Gd a c)) (N f (B (t:=V 1 (T t.cs::V 1 (Av 3 (C os+1) (F cE os++([.str e.s,I b,I (G (Gw (e.n 1) (e.n 2) (e.n 3) (e.n 4) (e.n 5) (e.n 6)>O D (2*t.r0)))]:u))::V 3 (vi i::V 258 [])))) d [bT,.r (A D (Gw (e.n 1) (e.n 2) (e.n 3) (e.n 4) (e.n 5) (e.n 6)))] MW (Fk c2 (show RQ 176 [M (AD e)] (A D (Gw (e.n 1) (e.n 2) (e.n 3) (e.n 4) (e.n 5) (e.n 6))) from Zc _ _ _ _ _ _ _ _ _ _ _ _ ) (show C ([.str e.s,I b,I (G (Gw (e.n 1) (e.n 2) (e.n 3) (e.n 4) (e.n 5) (e.n 6)>O D (2*t.r0)))]:u)=1*3 from rfl) g))))) (B d [] MW a0))
theorem aD(b:Bool)(e:El)(c1:G (i<C t.ar)=true)(c2:b=false)(a:0<=i/\i<C t.ar)(c:At AD 12 t.ar i e)(f:Aa aB (Ni t i os e) .norm (CB (Ni t i os e) 9 (Ab (I b))))(g:C os+1<=1048576):Aa K7 (Jc t i os) .norm (PU t (O D (i+1)) (C os+1) (F cE os++([.str e.s,I b,I false]:u))):=N (B (t:=V 1 (T t.cs::V 1 (Av 3 (C os) (F cE os)::V 3 (vi i::V 258 [])))) d [bT] MW (Bc c1)) (N (x (N (B d [.v (M (AD e))] [1,3,7,8] (Gd a c)) (N f (B (t:=V 1 (T t.cs::V 1 (Av 3 (C os+1) (F cE os++([.str e.s,I b,I false]:u))::V 3 (vi i::V 258 [])))) d [Y] MW (Fa c2 (show C ([.str e.s,I b,I false]:u)=1*3 from rfl) g))))) (B d [] MW a0))
theorem aE(c1:G (i<C t.ar)=false):Aa K7 (Jc t i os) xZ2 (Jc t i os):=m (B d [Y] MW (Bc c1))
def JG:H:=V 1 (T t.cs::V 1 (Av 3 (C os) (F cE os)::V 6 (vi i::V 255 [])))
end
def TM(t:Tbl)(i:Int)(a:Nat)(co:u):H:=V 1 (T t.cs::V 1 (Av 3 a co::V 6 (vi i::V 255 [])))
def PW:ICode := .region false [o1 10 (.mov (.c (.int .i64 0)))]
theorem U'(t:Tbl)(os:List Rw)   : Aa PW (Jb t os) .norm (JG t 0 os):=B d [] Pr a0
def TN(t:Tbl)(i:Int)(os:List Rw)(e:El):H:=V 1 (T t.cs::V 1 (Av 3 (C os) (F cE os)::V 6 (vi i::T (cPo e)::V 254 [])))
def zO:ICode := .region false (i (Ca Pm 86 16018))
def LR:ICode:=Ca Pm 91 500
section
variable(t:Tbl)(i:Int)(os:List Rw)
theorem aF(b:Bool)(e:El)(c1:G (i<C t.po)=true)(a:0<=i/\i<C t.po)(c:At cPo 11 t.po i e)(f:Aa zO (TN t i os e) .norm (CB (TN t i os e) 12 (Ab (I b))))(g:C os+1<=1048576):Aa LR (JG t i os) .norm (TM t (O D (i+1)) (C os+1) (F cE os++([.str e.s,I b,I true]:u))):=N (B (t:=V 1 (T t.cs::V 1 (Av 3 (C os) (F cE os)::V 6 (vi i::V 255 [])))) d [bT] Pr (Bc c1)) (N (x (N (B d [.v (M (cPo e))] [1,3,10,11] (Gd a c)) (N f (B (t:=V 1 (T t.cs::V 1 (Av 3 (C os+1) (F cE os++([.str e.s,I b,I true]:u))::V 6 (vi i::V 255 [])))) d [] Pr (Gd (show C ([.str e.s,I b,I true]:u)=1*3 from rfl) g))))) (B d [] Pr a0))
theorem aG(c1:G (i<C t.po)=false):Aa LR (JG t i os) xZ4 (JG t i os):=m (B d [Y] Pr (Bc c1))
def JH:H:=V 1 (T t.cs::V 1 (Av 3 (C os) (F cE os)::V 9 (vi i::V 252 [])))
end
def TO(t:Tbl)(i:Int)(a:Nat)(co:u):H:=V 1 (T t.cs::V 1 (Av 3 a co::V 9 (vi i::V 252 [])))
def PX:ICode := .region false [o1 13 (.mov (.c (.int .i64 0)))]
theorem U_(t:Tbl)(os:List Rw)   : Aa PX (Jb t os) .norm (JH t 0 os):=B d [] [1,3,13] a0
def TP(t:Tbl)(i:Int)(os:List Rw)(e:El):H:=V 1 (T t.cs::V 1 (Av 3 (C os) (F cE os)::V 9 (vi i::T (cF e)::V 251 [])))
def zP:ICode := .region false (i (Ca Pm 85 32402))
def LS:ICode:=Ca Pm 90 1012
section
variable(t:Tbl)(i:Int)(os:List Rw)
theorem aH(b:Bool)(e:El)(c1:G (i<C t.fl)=true)(a:0<=i/\i<C t.fl)(c:At cF 15 t.fl i e)(f:Aa zP (TP t i os e) .norm (CB (TP t i os e) 15 (Ab (I b))))(g:C os+1<=1048576):Aa LS (JH t i os) .norm (TO t (O D (i+1)) (C os+1) (F cE os++([.str e.s,I b,I true]:u))):=N (B (t:=V 1 (T t.cs::V 1 (Av 3 (C os) (F cE os)::V 9 (vi i::V 252 [])))) d [bT] [1,3,13] (Bc c1)) (N (x (N (B d [.v (M (cF e))] [1,3,13,14] (Gd a c)) (N f (B (t:=V 1 (T t.cs::V 1 (Av 3 (C os+1) (F cE os++([.str e.s,I b,I true]:u))::V 9 (vi i::V 252 [])))) d [] [1,3,13] (Gd (show C ([.str e.s,I b,I true]:u)=1*3 from rfl) g))))) (B d [] [1,3,13] a0))
theorem aI(c1:G (i<C t.fl)=false):Aa LS (JH t i os) xZ6 (JH t i os):=m (B d [Y] [1,3,13] (Bc c1))
end
def Ang(a:Nat)(co:u):H:=V 2 (Av 3 a co::V 263 [])
def mB:ICode := .seq (.region false (i (Ca Pm 92 254))) (.ret)
theorem aJ(t:Tbl)(os a:List Rw)(b:C (F cE a)=C a*3)(c:C os+C a<=1048576)(e:RQ 220 [M t.cs] (P 3 (C a) (F cE a))):Aa mB (Jb t os) .ret (Ang (C os+C a) (F cE os++F cE a)):=B d [.r (P 3 (C a) (F cE a))] [2] (Fa e b c)
theorem Ash:(iF g Pm).body = .seq zL (.seq zM (.seq (.seq PT (.block 0 (.loop LQ))) (.seq (.seq PV (.block 2 (.loop K7))) (.seq (.seq PW (.block 4 (.loop LR))) (.seq (.seq PX (.block 6 (.loop LS))) mB))))):=by kernel_rfl
theorem Ke{f:Nat->Option IFunc}{a:pB}(j:UN f a){dr:Bool}{ops:List IOp}{l:OM}{s:H}(x:Nat)(hs:T3 l s=true)
  (hc:(match chk a l ops with | some i=>(match jD x i with | some e=>decide (e.e = .v (.c .b))&&e.g.isNone | none=>false) | none=>false)=true)
  (hd:(P1 ops).all (fun d=>decide (d<C s)&&(AKi d x || Agn (Ag s d)))=true) (k:decide (x<C s)=true):∃ b,BR f (.region dr ops) s .norm (s.set x (Ab (I b))):=by
 cases h:chk a l ops with
 | none=>rw[h] at hc;cases hc
 | some i=>rw[h] at hc;exact AHa j x hs h hc hd k
theorem EZ{k:IntKind}{x:AV}(h:CK.ok (.i k) x=true):∃ v,x = A k v:=by
 cases x <;> simp only[CK.ok,DI,AC] at h;subst h;exact⟨_,rfl⟩
theorem ck_b{x:AV}(h:CK.ok .b x=true):∃ v,x = I v:=by
 cases x <;> simp only[CK.ok,AC] at h;exact⟨_,rfl⟩
theorem A2i{x:AV}(h:CK.ok .s x=true):∃ v,x = .str v:=by
 cases x <;> simp only[CK.ok,AC] at h;exact⟨_,rfl⟩
theorem Ce{k:CK}{ks:List CK}{cs:u}(h:DF (k::ks) cs=true):∃ c a,cs=c::a/\k.ok c=true/\DF ks a=true:=by
 cases cs with
 | nil=>cases h
 | cons c cs=>simp only[DF,U] at h;exact⟨c,cs,rfl,h.1,h.2⟩
theorem TQ{cs:u}(h:DF [] cs=true):cs=[]:=by
 cases cs with
 | nil=>rfl
 | cons c cs=>cases h
theorem zQ{ks:List CK}{x:AV}(h:Ty.ok (.g ks) x=true):∃ cs,x = M cs/\DF ks cs=true:=by
 cases x <;> simp only[Ty.ok,AC] at h;exact⟨_,rfl,h⟩
theorem Jd{t:Ty}{a:List Ty}{xs:u}(h:P0 (t::a) xs=true):∃ x b,xs=x::b/\t.ok x=true/\P0 a b=true:=by
 cases xs with
 | nil=>cases h
 | cons c cs=>simp only[P0,U] at h;exact⟨c,cs,rfl,h.1,h.2⟩
theorem QS{xs:u}(h:P0 [] xs=true):xs=[]:=by
 cases xs with
 | nil=>rfl
 | cons c cs=>cases h
theorem S8(s:ByteArray):∀ (d:Nat) (z:Bool) (i:Int),i+(d:Int)=(s.size:Int)->0<=i->s.size<=12 ->
  (∃ a b,Aa (.loop PK) (HN s z i) xZ0 (HN s a b))\/∃ a b,Aa (.loop PK) (HN s z i) .ret (HN s a b)
 | 0,z,i,h,h0,_ => .inl ⟨z,i,f (A2h s z i (As (by omega)))⟩
 | d+1,z,i,h,h0,hs=>by
  have c1:decide (i<(s.size:Int))=true:=o (by omega);have hi:i.toNat<s.size:=by omega
  have k:O D (i+1)=i+1:=A' (by omega) (by omega);have g:((if 0<=i then (s)[J i]? else none).map fun c=>(c.toNat:Int))=some ((s[i.toNat]'hi).toNat:Int):=by
   rw[Ae h0,getElem?_pos s i.toNat hi];rfl
  rcases Q (C9 ((s[i.toNat]'hi).toNat)) with c2 | c2
  ·have e:=A2e s z i _ c1 c2 g;rw[k] at e;rcases S8 s d z (i+1) (by omega) (by omega) hs with ⟨a,b,j⟩ | ⟨a,b,j⟩
   ·exact .inl ⟨a,b,AB e j⟩
   ·exact .inr ⟨a,b,AB e j⟩
  ·rcases Q (IX ((s[i.toNat]'hi).toNat)) with c3 | c3
   ·have e:=A2f s z i _ c1 c2 c3 g;rw[k] at e;rcases S8 s d z (i+1) (by omega) (by omega) hs with ⟨a,b,j⟩ | ⟨a,b,j⟩
    ·exact .inl ⟨a,b,AB e j⟩
    ·exact .inr ⟨a,b,AB e j⟩
   ·exact .inr ⟨_,_,f (A2g s z i _ c1 c2 c3 g)⟩
theorem mC(s:ByteArray):∃ b,RQ 121 [.str s] (I b):=by
 rcases Q ((s.size:Int)==0) with c1 | c1
 ·exact⟨_,zD s c1⟩
 ·rcases Q (G ((s.size:Int)>12)) with c2 | c2
  ·exact⟨_,zE s c1 c2⟩
  ·have f:s.size<=12:=by have:=of_decide_eq_false c2;omega
   have h0:0<s.size:=by
    rcases LD s.size with h | h
    ·rw[h] at c1;cases c1
    ·exact h
   have g:((if (0:Int)<=0 then (s)[J 0]? else none).map fun c=>(c.toNat:Int))=some ((s[0]'h0).toNat:Int):=by
    rw[Ae (by omega)];show Option.map _ (s[0]?)=_;rw[getElem?_pos s 0 h0];rfl
   rcases Q (C9 ((s[0]'h0).toNat)) with c3 | c3
   ·rcases S8 s s.size false 0 (by omega) (by omega) f with ⟨a,d,e⟩ | ⟨a,d,e⟩
    ·exact⟨_,zF s _ d a c1 c2 c3 g e⟩
    ·exact⟨_,zH s _ d a c1 c2 c3 g e⟩
   ·exact⟨_,zG s _ c1 c2 c3 g⟩
def sgE:pB:=[(118,[.c (.i .i64),.c (.i .i64),.c (.i .i64)],.c .b),(119,[.g [.i .i64,.i .i64],.c (.i .i64)],.c .b),(121,[.c .s],.c .b),(176,[.g [.s,.i .i64,.i .i64,.i .i64,.i .i64,.i .i64,.i .i64,.i .i64,.i .i64,.i .i64,.i .i64,.i .i64]],.c (.i .i64)),(154,[.g [.s,.i .i64,.i .i64,.i .i64,.i .i64,.b,.i .i64,.i .i64,.i .i64,.i .i64,.i .i64,.i .i64,.i .i64,.i .i64,.i .i64]],.c .b),(68,[.g [.i .i64,.i .i64],.g [.i .i64,.i .i64],.c (.i .i64)],.c .b)]
theorem Ik:UN CQ sgE:=by
 intro f ts t S args j;simp only[sgE,Aw,A3,or_false,Cc] at S;rcases S with ⟨rfl,rfl,rfl⟩ | ⟨rfl,rfl,rfl⟩ | ⟨rfl,rfl,rfl⟩ | ⟨rfl,rfl,rfl⟩ | ⟨rfl,rfl,rfl⟩ | ⟨rfl,rfl,rfl⟩
 ·obtain⟨k,l,rfl,a,c⟩:=Jd j;obtain⟨T,rfl⟩:=EZ a;obtain⟨U,V,rfl,m,n⟩:=Jd c;obtain⟨W,rfl⟩:=EZ m;obtain⟨X,Y,rfl,o,p⟩:=Jd n;obtain⟨Z,rfl⟩:=EZ o;cases QS p;exact⟨_,Es _ _ _,rfl⟩
 ·obtain⟨k,l,rfl,a,c⟩:=Jd j;obtain⟨q,rfl,d⟩:=zQ a;obtain⟨r,s,rfl,e,g⟩:=Ce d;obtain⟨u,rfl⟩:=EZ e;obtain⟨v,w,rfl,h,i⟩:=Ce g;obtain⟨x,rfl⟩:=EZ h;cases TQ i;obtain⟨U,V,rfl,m,n⟩:=Jd c;obtain⟨W,rfl⟩:=EZ m;cases QS n;exact⟨_,GR _ _ _,rfl⟩
 ·obtain⟨k,l,rfl,a,c⟩:=Jd j;obtain⟨T,rfl⟩:=A2i a;cases QS c;obtain⟨b,hb⟩:=mC T;exact⟨_,hb,rfl⟩
 ·obtain⟨k,l,rfl,a,c⟩:=Jd j;obtain⟨q,rfl,d⟩:=zQ a;obtain⟨r,s,rfl,e,g⟩:=Ce d;obtain⟨u,rfl⟩:=A2i e;obtain⟨v,w,rfl,h,i⟩:=Ce g;obtain⟨x,rfl⟩:=EZ h;obtain⟨a4,a5,rfl,y,z⟩:=Ce i;obtain⟨a6,rfl⟩:=EZ y;obtain⟨a7,a8,rfl,A,B⟩:=Ce z;obtain⟨a9,rfl⟩:=EZ A;obtain⟨b0,b1,rfl,C,D⟩:=Ce B;obtain⟨b2,rfl⟩:=EZ C;obtain⟨b3,b4,rfl,E,F⟩:=Ce D;obtain⟨b5,rfl⟩:=EZ E;obtain⟨b6,b7,rfl,G,H⟩:=Ce F;obtain⟨b8,rfl⟩:=EZ G;obtain⟨b9,c0,rfl,I,J⟩:=Ce H;obtain⟨c1,rfl⟩:=EZ I;obtain⟨c2,c3,rfl,K,L⟩:=Ce J;obtain⟨c4,rfl⟩:=EZ K;obtain⟨c5,c6,rfl,M,N⟩:=Ce L;obtain⟨c7,rfl⟩:=EZ M;obtain⟨c8,c9,rfl,O,P⟩:=Ce N;obtain⟨d0,rfl⟩:=EZ O;obtain⟨d1,d2,rfl,Q,R⟩:=Ce P;obtain⟨d3,rfl⟩:=EZ Q;cases TQ R;cases QS c;exact⟨_,Zc _ _ _ _ _ _ _ _ _ _ _ _,rfl⟩
 ·obtain⟨k,l,rfl,a,c⟩:=Jd j;obtain⟨q,rfl,d⟩:=zQ a;obtain⟨r,s,rfl,e,g⟩:=Ce d;obtain⟨u,rfl⟩:=A2i e;obtain⟨v,w,rfl,h,i⟩:=Ce g;obtain⟨x,rfl⟩:=EZ h;obtain⟨a4,a5,rfl,y,z⟩:=Ce i;obtain⟨a6,rfl⟩:=EZ y;obtain⟨a7,a8,rfl,A,B⟩:=Ce z;obtain⟨a9,rfl⟩:=EZ A;obtain⟨b0,b1,rfl,C,D⟩:=Ce B;obtain⟨b2,rfl⟩:=EZ C;obtain⟨b3,b4,rfl,E,F⟩:=Ce D;obtain⟨b5,rfl⟩:=ck_b E;obtain⟨b6,b7,rfl,G,H⟩:=Ce F;obtain⟨b8,rfl⟩:=EZ G;obtain⟨b9,c0,rfl,I,J⟩:=Ce H;obtain⟨c1,rfl⟩:=EZ I;obtain⟨c2,c3,rfl,K,L⟩:=Ce J;obtain⟨c4,rfl⟩:=EZ K;obtain⟨c5,c6,rfl,M,N⟩:=Ce L;obtain⟨c7,rfl⟩:=EZ M;obtain⟨c8,c9,rfl,O,P⟩:=Ce N;obtain⟨d0,rfl⟩:=EZ O;obtain⟨d1,d2,rfl,Q,R⟩:=Ce P;obtain⟨d3,rfl⟩:=EZ Q;obtain⟨e5,e6,rfl,d4,d5⟩:=Ce R;obtain⟨e7,rfl⟩:=EZ d4;obtain⟨e8,e9,rfl,d6,d7⟩:=Ce d5;obtain⟨f0,rfl⟩:=EZ d6;obtain⟨f1,f2,rfl,d8,d9⟩:=Ce d7;obtain⟨f3,rfl⟩:=EZ d8;cases TQ d9;cases QS c;exact⟨_,P8 _ _ _ _ _ _ _ _ _ _ _ _ _ _ _,rfl⟩
 ·obtain⟨k,l,rfl,a,c⟩:=Jd j;obtain⟨q,rfl,d⟩:=zQ a;obtain⟨r,s,rfl,e,g⟩:=Ce d;obtain⟨u,rfl⟩:=EZ e;obtain⟨v,w,rfl,h,i⟩:=Ce g;obtain⟨x,rfl⟩:=EZ h;cases TQ i;obtain⟨U,V,rfl,m,n⟩:=Jd c;obtain⟨f4,rfl,e0⟩:=zQ m;obtain⟨f5,f6,rfl,e1,e2⟩:=Ce e0;obtain⟨f7,rfl⟩:=EZ e1;obtain⟨f8,f9,rfl,e3,e4⟩:=Ce e2;obtain⟨g0,rfl⟩:=EZ e3;cases TQ e4;obtain⟨X,Y,rfl,o,p⟩:=Jd n;obtain⟨Z,rfl⟩:=EZ o;cases QS p;exact⟨_,pN _ _ _ _ _,rfl⟩
section
variable {t:Tbl}
theorem mD{i:Int}{os:List Rw}{r:Rw}{s:H}(h:Aa K5 s .norm (PL t i (C os+1) (F cE os++cE r))):Aa K5 s .norm (IY t i (os++[r])):=by
 have e:PL t i (C os+1) (F cE os++cE r)=IY t i (os++[r]):=by
  rw[Fo];show _=PL t i (C (os++[r])) (F cE (os++[r]));rw[Ah];rfl
 exact e ▸ h
theorem A2j{i:Int}{os:List Rw}(d:TOk t)(h0:0<=i)(hl:i<C t.zo)(ho:C os<=500):∃ r,Aa K5 (IY t i os) .norm (IY t (i+1) (os++[r])):=by
 have g:=d.l12;have f:i.toNat<C t.zo:=by omega
 have hr:=B7 (c:=cZ) (k:=9) (fun _=>rfl) f;generalize t.zo[i.toNat]=e at hr;have a:O D (i+1)=i+1:=A' (by omega) (by omega);have c1:decide (i<(C t.zo:Int))=true:=o hl;obtain⟨b,hb⟩:∃ b,Aa ZB (Nf t i os e) .norm (CB (Nf t i os e) 6 (Ab (I b))):=Ke Ik (l:=[⟨1,.box [.i .i64,.i .i64,.i .i64,.i .i64,.i .i64,.i .i64,.i .i64,.l,.l,.l,.l,.l,.l,.l,.l,.l,.l,.l],none⟩,⟨5,.box [.s,.i .i64,.i .i64,.i .i64,.i .i64,.i .i64,.i .i64,.i .i64,.i .i64],none⟩]) 6 (by kernel_rfl) (by kernel_rfl) (by kernel_rfl) (by kernel_rfl);rcases Q (G (e.n 1<e.n 3)) with c2 | c2
 ·have h:=ZC t i os b e c1 c2 ⟨by omega,by omega⟩ hr hb (by omega);rw[a] at h;exact⟨⟨_,_,_⟩,mD h⟩
 ·have h:=ZD t i os b e c1 c2 ⟨by omega,by omega⟩ hr hb (by omega);rw[a] at h;exact⟨⟨_,_,_⟩,mD h⟩
theorem zR(b:TOk t):∀ (d:Nat) {i:Int} {os:List Rw},i+(d:Int)=(C t.zo:Int)->0<=i->C os+d<=500 ->
  ∃ a,C a=C os+d/\Aa (.loop K5) (IY t i os) xZ0 (IY t (C t.zo) a)
 | 0,i,os,h,_,_=>by
  have e:i=(C t.zo:Int):=by omega
  subst e;exact⟨os,rfl,f (ZE t _ os (As (by omega)))⟩
 | d+1,i,os,h,h0,ho=>by
  obtain⟨r,h1⟩:=A2j (os:=os) b h0 (by omega) (by omega);obtain⟨a,h2,c⟩:=zR b d (i:=i+1) (os:=os++[r]) (by omega) (by omega) (by rw[Ah];simp;omega);exact⟨a,by rw[h2,Ah];simp;omega,AB h1 c⟩
theorem Asi{i:Int}{os:List Rw}{r:Rw}{s:H}(h:Aa LP s .norm (TH t i (C os+1) (F cE os++cE r))):Aa LP s .norm (JD t i (os++[r])):=by
 have e:TH t i (C os+1) (F cE os++cE r)=JD t i (os++[r]):=by
  rw[Fo];show _=TH t i (C (os++[r])) (F cE (os++[r]));rw[Ah];rfl
 exact e ▸ h
theorem A2k{i:Int}{os:List Rw}(a:TOk t)(h0:0<=i)(hl:i<C t.sa)(ho:C os<=500):∃ r,Aa LP (JD t i os) .norm (JD t (i+1) (os++[r])):=by
 have g:=a.l13;have d:i.toNat<C t.sa:=by omega
 have hr:=B7 (c:=AN) (k:=10) (fun _=>rfl) d;generalize t.sa[i.toNat]=e at hr;have f:O D (i+1)=i+1:=A' (by omega) (by omega);have c1:decide (i<(C t.sa:Int))=true:=o hl;obtain⟨b,hb⟩:∃ b,Aa zK (TI t i os e) .norm (CB (TI t i os e) 9 (Ab (I b))):=Ke Ik (l:=[⟨1,.box [.i .i64,.i .i64,.i .i64,.i .i64,.i .i64,.i .i64,.i .i64,.l,.l,.l,.l,.l,.l,.l,.l,.l,.l,.l],none⟩,⟨8,.box [.s,.i .i64,.i .i64,.i .i64,.i .i64,.i .i64,.i .i64,.i .i64,.i .i64,.i .i64],none⟩]) 9 (by kernel_rfl) (by kernel_rfl) (by kernel_rfl) (by kernel_rfl);have h:=ZF t i os b e c1 ⟨by omega,by omega⟩ hr hb (by omega);rw[f] at h;exact⟨⟨_,_,_⟩,Asi h⟩
theorem zS(b:TOk t):∀ (d:Nat) {i:Int} {os:List Rw},i+(d:Int)=(C t.sa:Int)->0<=i->C os+d<=500 ->
  ∃ a,C a=C os+d/\Aa (.loop LP) (JD t i os) xZ2 (JD t (C t.sa) a)
 | 0,i,os,h,_,_=>by
  have e:i=(C t.sa:Int):=by omega
  subst e;exact⟨os,rfl,f (ZG t _ os (As (by omega)))⟩
 | d+1,i,os,h,h0,ho=>by
  obtain⟨r,h1⟩:=A2k (os:=os) b h0 (by omega) (by omega);obtain⟨a,h2,c⟩:=zS b d (i:=i+1) (os:=os++[r]) (by omega) (by omega) (by rw[Ah];simp;omega);exact⟨a,by rw[h2,Ah];simp;omega,AB h1 c⟩
theorem A2l{os:List Rw}(b:TOk t)(ho:C os<=400):∃ a,C a=C os+C t.sa/\Aa (.seq PN (.block 2 (.loop LP))) (F_ t os) .norm (F_ t a):=by
 have c:=b.l13;obtain⟨a,h1,h2⟩:=zS b (C t.sa) (i:=0) (os:=os) (by omega) (by omega) (by omega);exact⟨a,h1,N (UU t os) (w [1,3] (A0 h2) (by kernel_rfl))⟩
theorem QT{i:Int}{os:List Rw}{r:Rw}{s:H}(h:Aa IZ s .norm (Lh t i (C os+1) (F cE os++cE r))):Aa IZ s .norm (H5 t i (os++[r])):=by
 have e:Lh t i (C os+1) (F cE os++cE r)=H5 t i (os++[r]):=by
  rw[Fo];show _=Lh t i (C (os++[r])) (F cE (os++[r]));rw[Ah];rfl
 exact e ▸ h
theorem A2m{i:Int}{os:List Rw}(b:TOk t)(h0:0<=i)(hl:i<C t.la)(ho:C os<=500):∃ r,Aa IZ (H5 t i os) .norm (H5 t (i+1) (os++[r])):=by
 have f:=b.l14;have d:i.toNat<C t.la:=by omega
 have hr:=B7 (c:=cL) (k:=6) (fun _=>rfl) d;generalize t.la[i.toNat]=e at hr;have a:O D (i+1)=i+1:=A' (by omega) (by omega);have c1:decide (i<(C t.la:Int))=true:=o hl;rcases Q (BK (e.n 0) 0 3) with c2 | c2
 ·rcases Q (BH (e.n 1) (e.n 2) 1048576) with c3 | c3
  ·rcases Q (BK (e.n 3) 1 262144) with c4 | c4
   ·have h:=ZH t i os e c1 c2 c3 c4 ⟨by omega,by omega⟩ (by omega) hr;rw[a] at h;exact⟨⟨_,_,_⟩,QT h⟩
   ·have h:=ZI t i os e c1 c2 c3 c4 ⟨by omega,by omega⟩ (by omega) hr;rw[a] at h;exact⟨⟨_,_,_⟩,QT h⟩
  ·have h:=ZJ t i os e c1 c2 c3 ⟨by omega,by omega⟩ (by omega) hr;rw[a] at h;exact⟨⟨_,_,_⟩,QT h⟩
 ·have h:=ZK t i os e c1 c2 ⟨by omega,by omega⟩ (by omega) hr;rw[a] at h;exact⟨⟨_,_,_⟩,QT h⟩
theorem zT(b:TOk t):∀ (d:Nat) {i:Int} {os:List Rw},i+(d:Int)=(C t.la:Int)->0<=i->C os+d<=500 ->
  ∃ a,C a=C os+d/\Aa (.loop IZ) (H5 t i os) xZ4 (H5 t (C t.la) a)
 | 0,i,os,h,_,_=>by
  have e:i=(C t.la:Int):=by omega
  subst e;exact⟨os,rfl,f (ZL t _ os (As (by omega)))⟩
 | d+1,i,os,h,h0,ho=>by
  obtain⟨r,h1⟩:=A2m (os:=os) b h0 (by omega) (by omega);obtain⟨a,h2,c⟩:=zT b d (i:=i+1) (os:=os++[r]) (by omega) (by omega) (by rw[Ah];simp;omega);exact⟨a,by rw[h2,Ah];simp;omega,AB h1 c⟩
theorem A2n{os:List Rw}(b:TOk t)(ho:C os<=400):∃ a,C a=C os+C t.la/\Aa (.seq PO (.block 4 (.loop IZ))) (F_ t os) .norm (F_ t a):=by
 have c:=b.l14;obtain⟨a,h1,h2⟩:=zT b (C t.la) (i:=0) (os:=os) (by omega) (by omega) (by omega);exact⟨a,h1,N (UV t os) (w [1,3] (A0 h2) (by kernel_rfl))⟩
theorem mE{i:Int}{os:List Rw}{r:Rw}{s:H}(h:Aa K6 s .norm (PP t i (C os+1) (F cE os++cE r))):Aa K6 s .norm (I_ t i (os++[r])):=by
 have e:PP t i (C os+1) (F cE os++cE r)=I_ t i (os++[r]):=by
  rw[Fo];show _=PP t i (C (os++[r])) (F cE (os++[r]));rw[Ah];rfl
 exact e ▸ h
theorem A2o{i:Int}{os:List Rw}(d:TOk t)(h0:0<=i)(hl:i<C t.ra)(ho:C os<=500):∃ r,Aa K6 (I_ t i os) .norm (I_ t (i+1) (os++[r])):=by
 have g:=d.l15;have f:i.toNat<C t.ra:=by omega
 have hr:=B7 (c:=cR) (k:=8) (fun _=>rfl) f;generalize t.ra[i.toNat]=e at hr;have a:O D (i+1)=i+1:=A' (by omega) (by omega);have c1:decide (i<(C t.ra:Int))=true:=o hl;obtain⟨b,hb⟩:∃ b,Aa ZM (Ng t i os e) .norm (CB (Ng t i os e) 14 (Ab (I b))):=Ke Ik (l:=[⟨1,.box [.i .i64,.i .i64,.i .i64,.i .i64,.i .i64,.i .i64,.i .i64,.l,.l,.l,.l,.l,.l,.l,.l,.l,.l,.l],none⟩,⟨13,.box [.s,.i .i64,.i .i64,.i .i64,.i .i64,.i .i64,.i .i64,.i .i64],none⟩]) 14 (by kernel_rfl) (by kernel_rfl) (by kernel_rfl) (by kernel_rfl);rcases Q ((e.n 0) != (e.n 1)) with c2 | c2
 ·have h:=ZN t i os b e c1 c2 ⟨by omega,by omega⟩ hr hb (by omega);rw[a] at h;exact⟨⟨_,_,_⟩,mE h⟩
 ·have h:=ZO t i os b e c1 c2 ⟨by omega,by omega⟩ hr hb (by omega);rw[a] at h;exact⟨⟨_,_,_⟩,mE h⟩
theorem zU(b:TOk t):∀ (d:Nat) {i:Int} {os:List Rw},i+(d:Int)=(C t.ra:Int)->0<=i->C os+d<=500 ->
  ∃ a,C a=C os+d/\Aa (.loop K6) (I_ t i os) xZ6 (I_ t (C t.ra) a)
 | 0,i,os,h,_,_=>by
  have e:i=(C t.ra:Int):=by omega
  subst e;exact⟨os,rfl,f (ZP t _ os (As (by omega)))⟩
 | d+1,i,os,h,h0,ho=>by
  obtain⟨r,h1⟩:=A2o (os:=os) b h0 (by omega) (by omega);obtain⟨a,h2,c⟩:=zU b d (i:=i+1) (os:=os++[r]) (by omega) (by omega) (by rw[Ah];simp;omega);exact⟨a,by rw[h2,Ah];simp;omega,AB h1 c⟩
theorem A2p{os:List Rw}(b:TOk t)(ho:C os<=400):∃ a,C a=C os+C t.ra/\Aa (.seq PQ (.block 6 (.loop K6))) (F_ t os) .norm (F_ t a):=by
 have c:=b.l15;obtain⟨a,h1,h2⟩:=zU b (C t.ra) (i:=0) (os:=os) (by omega) (by omega) (by omega);exact⟨a,h1,N (UW t os) (w [1,3] (A0 h2) (by kernel_rfl))⟩
theorem Va{i:Int}{os:List Rw}{r:Rw}{s:H}(h:Aa JE s .norm (Nh t i (C os+1) (F cE os++cE r))):Aa JE s .norm (Ij t i (os++[r])):=by
 have e:Nh t i (C os+1) (F cE os++cE r)=Ij t i (os++[r]):=by
  rw[Fo];show _=Nh t i (C (os++[r])) (F cE (os++[r]));rw[Ah];rfl
 exact e ▸ h
theorem A2q{i:Int}{os:List Rw}(b:TOk t)(h0:0<=i)(hl:i<C t.dr)(ho:C os<=500):∃ r,Aa JE (Ij t i os) .norm (Ij t (i+1) (os++[r])):=by
 have f:=b.l16;have d:i.toNat<C t.dr:=by omega
 have hr:=B7 (c:=cD) (k:=5) (fun _=>rfl) d;generalize t.dr[i.toNat]=e at hr;have a:O D (i+1)=i+1:=A' (by omega) (by omega);have c1:decide (i<(C t.dr:Int))=true:=o hl;rcases Q (BK (e.n 0) 0 3) with c2 | c2
 ·rcases Q (BH (e.n 1) (e.n 2) 1048576) with c3 | c3
  ·have h:=ZQ t i os e c1 c2 c3 ⟨by omega,by omega⟩ (by omega) hr;rw[a] at h;exact⟨⟨_,_,_⟩,Va h⟩
  ·have h:=ZR t i os e c1 c2 c3 ⟨by omega,by omega⟩ (by omega) hr;rw[a] at h;exact⟨⟨_,_,_⟩,Va h⟩
 ·have h:=ZS t i os e c1 c2 ⟨by omega,by omega⟩ (by omega) hr;rw[a] at h;exact⟨⟨_,_,_⟩,Va h⟩
theorem zV(b:TOk t):∀ (d:Nat) {i:Int} {os:List Rw},i+(d:Int)=(C t.dr:Int)->0<=i->C os+d<=500 ->
  ∃ a,C a=C os+d/\Aa (.loop JE) (Ij t i os) xZ8 (Ij t (C t.dr) a)
 | 0,i,os,h,_,_=>by
  have e:i=(C t.dr:Int):=by omega
  subst e;exact⟨os,rfl,f (ZT t _ os (As (by omega)))⟩
 | d+1,i,os,h,h0,ho=>by
  obtain⟨r,h1⟩:=A2q (os:=os) b h0 (by omega) (by omega);obtain⟨a,h2,c⟩:=zV b d (i:=i+1) (os:=os++[r]) (by omega) (by omega) (by rw[Ah];simp;omega);exact⟨a,by rw[h2,Ah];simp;omega,AB h1 c⟩
theorem A2r{os:List Rw}(b:TOk t)(ho:C os<=400):∃ a,C a=C os+C t.dr/\Aa (.seq PR (.block 8 (.loop JE))) (F_ t os) .norm (F_ t a):=by
 have c:=b.l16;obtain⟨a,h1,h2⟩:=zV b (C t.dr) (i:=0) (os:=os) (by omega) (by omega) (by omega);exact⟨a,h1,N (UX t os) (w [1,3] (A0 h2) (by kernel_rfl))⟩
theorem QU{i:Int}{os:List Rw}{r:Rw}{s:H}(h:Aa Ja s .norm (Li t i (C os+1) (F cE os++cE r))):Aa Ja s .norm (H6 t i (os++[r])):=by
 have e:Li t i (C os+1) (F cE os++cE r)=H6 t i (os++[r]):=by
  rw[Fo];show _=Li t i (C (os++[r])) (F cE (os++[r]));rw[Ah];rfl
 exact e ▸ h
theorem A2s{i:Int}{os:List Rw}(b:TOk t)(h0:0<=i)(hl:i<C t.ln)(ho:C os<=500):∃ r,Aa Ja (H6 t i os) .norm (H6 t (i+1) (os++[r])):=by
 have f:=b.l17;have d:i.toNat<C t.ln:=by omega
 have hr:=B7 (c:=cK) (k:=7) (fun _=>rfl) d;generalize t.ln[i.toNat]=e at hr;have a:O D (i+1)=i+1:=A' (by omega) (by omega);have c1:decide (i<(C t.ln:Int))=true:=o hl;rcases Q (BK (e.n 0) 0 3) with c2 | c2
 ·rcases Q (BH (e.n 1) (e.n 2) 1048576) with c3 | c3
  ·rcases Q (BH (e.n 3) (e.n 4) 16384) with c4 | c4
   ·have h:=ZU t i os e c1 c2 c3 c4 ⟨by omega,by omega⟩ (by omega) hr;rw[a] at h;exact⟨⟨_,_,_⟩,QU h⟩
   ·have h:=ZV t i os e c1 c2 c3 c4 ⟨by omega,by omega⟩ (by omega) hr;rw[a] at h;exact⟨⟨_,_,_⟩,QU h⟩
  ·have h:=ZW t i os e c1 c2 c3 ⟨by omega,by omega⟩ (by omega) hr;rw[a] at h;exact⟨⟨_,_,_⟩,QU h⟩
 ·have h:=ZX t i os e c1 c2 ⟨by omega,by omega⟩ (by omega) hr;rw[a] at h;exact⟨⟨_,_,_⟩,QU h⟩
theorem zW(b:TOk t):∀ (d:Nat) {i:Int} {os:List Rw},i+(d:Int)=(C t.ln:Int)->0<=i->C os+d<=500 ->
  ∃ a,C a=C os+d/\Aa (.loop Ja) (H6 t i os) (.exit 10) (H6 t (C t.ln) a)
 | 0,i,os,h,_,_=>by
  have e:i=(C t.ln:Int):=by omega
  subst e;exact⟨os,rfl,f (ZY t _ os (As (by omega)))⟩
 | d+1,i,os,h,h0,ho=>by
  obtain⟨r,h1⟩:=A2s (os:=os) b h0 (by omega) (by omega);obtain⟨a,h2,c⟩:=zW b d (i:=i+1) (os:=os++[r]) (by omega) (by omega) (by rw[Ah];simp;omega);exact⟨a,by rw[h2,Ah];simp;omega,AB h1 c⟩
theorem A2t{os:List Rw}(b:TOk t)(ho:C os<=400):∃ a,C a=C os+C t.ln/\Aa (.seq PS (.block 10 (.loop Ja))) (F_ t os) .norm (F_ t a):=by
 have c:=b.l17;obtain⟨a,h1,h2⟩:=zW b (C t.ln) (i:=0) (os:=os) (by omega) (by omega) (by omega);exact⟨a,h1,N (UY t os) (w [1,3] (A0 h2) (by kernel_rfl))⟩
theorem Asj{i:Int}{os:List Rw}{r:Rw}{s:H}(h:Aa LQ s .norm (TJ t i (C os+1) (F cE os++cE r))):Aa LQ s .norm (JF t i (os++[r])):=by
 have e:TJ t i (C os+1) (F cE os++cE r)=JF t i (os++[r]):=by
  rw[Fo];show _=TJ t i (C (os++[r])) (F cE (os++[r]));rw[Ah];rfl
 exact e ▸ h
theorem A2u{i:Int}{os:List Rw}(a:TOk t)(h0:0<=i)(hl:i<C t.ws)(ho:C os<=500):∃ r,Aa LQ (JF t i os) .norm (JF t (i+1) (os++[r])):=by
 have g:=a.l8;have d:i.toNat<C t.ws:=by omega
 have hr:=B7 (c:=cW) (k:=13) (fun _=>rfl) d;generalize t.ws[i.toNat]=e at hr;have f:O D (i+1)=i+1:=A' (by omega) (by omega);have c1:decide (i<(C t.ws:Int))=true:=o hl;obtain⟨b,hb⟩:∃ b,Aa zN (TL t i os e) .norm (CB (TL t i os e) 6 (Ab (I b))):=Ke Ik (l:=[⟨1,.box [.i .i64,.i .i64,.i .i64,.i .i64,.i .i64,.i .i64,.i .i64,.l,.l,.l,.l,.l,.l,.l,.l,.l,.l,.l],none⟩,⟨5,.box [.s,.i .i64,.i .i64,.i .i64,.i .i64,.i .i64,.i .i64,.i .i64,.i .i64,.i .i64,.i .i64,.i .i64,.i .i64],none⟩]) 6 (by kernel_rfl) (by kernel_rfl) (by kernel_rfl) (by kernel_rfl);have h:=Z_ t i os b e c1 ⟨by omega,by omega⟩ hr hb (by omega);rw[f] at h;exact⟨⟨_,_,_⟩,Asj h⟩
theorem zX(b:TOk t):∀ (d:Nat) {i:Int} {os:List Rw},i+(d:Int)=(C t.ws:Int)->0<=i->C os+d<=500 ->
  ∃ a,C a=C os+d/\Aa (.loop LQ) (JF t i os) xZ0 (JF t (C t.ws) a)
 | 0,i,os,h,_,_=>by
  have e:i=(C t.ws:Int):=by omega
  subst e;exact⟨os,rfl,f (aA t _ os (As (by omega)))⟩
 | d+1,i,os,h,h0,ho=>by
  obtain⟨r,h1⟩:=A2u (os:=os) b h0 (by omega) (by omega);obtain⟨a,h2,c⟩:=zX b d (i:=i+1) (os:=os++[r]) (by omega) (by omega) (by rw[Ah];simp;omega);exact⟨a,by rw[h2,Ah];simp;omega,AB h1 c⟩
theorem mF{i:Int}{os:List Rw}{r:Rw}{s:H}(h:Aa K7 s .norm (PU t i (C os+1) (F cE os++cE r))):Aa K7 s .norm (Jc t i (os++[r])):=by
 have e:PU t i (C os+1) (F cE os++cE r)=Jc t i (os++[r]):=by
  rw[Fo];show _=PU t i (C (os++[r])) (F cE (os++[r]));rw[Ah];rfl
 exact e ▸ h
theorem A2v{i:Int}{os:List Rw}(d:TOk t)(h0:0<=i)(hl:i<C t.ar)(ho:C os<=500):∃ r,Aa K7 (Jc t i os) .norm (Jc t (i+1) (os++[r])):=by
 have g:=d.l9;have f:i.toNat<C t.ar:=by omega
 have hr:=B7 (c:=AD) (k:=12) (fun _=>rfl) f;generalize t.ar[i.toNat]=e at hr;have a:O D (i+1)=i+1:=A' (by omega) (by omega);have c1:decide (i<(C t.ar:Int))=true:=o hl;obtain⟨b,hb⟩:∃ b,Aa aB (Ni t i os e) .norm (CB (Ni t i os e) 9 (Ab (I b))):=Ke Ik (l:=[⟨1,.box [.i .i64,.i .i64,.i .i64,.i .i64,.i .i64,.i .i64,.i .i64,.l,.l,.l,.l,.l,.l,.l,.l,.l,.l,.l],none⟩,⟨8,.box [.s,.i .i64,.i .i64,.i .i64,.i .i64,.i .i64,.i .i64,.i .i64,.i .i64,.i .i64,.i .i64,.i .i64],none⟩]) 9 (by kernel_rfl) (by kernel_rfl) (by kernel_rfl) (by kernel_rfl);rcases Q (b) with c2 | c2
 ·have h:=aC t i os b e c1 c2 ⟨by omega,by omega⟩ hr hb (by omega);rw[a] at h;exact⟨⟨_,_,_⟩,mF h⟩
 ·have h:=aD t i os b e c1 c2 ⟨by omega,by omega⟩ hr hb (by omega);rw[a] at h;exact⟨⟨_,_,_⟩,mF h⟩
theorem zY(b:TOk t):∀ (d:Nat) {i:Int} {os:List Rw},i+(d:Int)=(C t.ar:Int)->0<=i->C os+d<=500 ->
  ∃ a,C a=C os+d/\Aa (.loop K7) (Jc t i os) xZ2 (Jc t (C t.ar) a)
 | 0,i,os,h,_,_=>by
  have e:i=(C t.ar:Int):=by omega
  subst e;exact⟨os,rfl,f (aE t _ os (As (by omega)))⟩
 | d+1,i,os,h,h0,ho=>by
  obtain⟨r,h1⟩:=A2v (os:=os) b h0 (by omega) (by omega);obtain⟨a,h2,c⟩:=zY b d (i:=i+1) (os:=os++[r]) (by omega) (by omega) (by rw[Ah];simp;omega);exact⟨a,by rw[h2,Ah];simp;omega,AB h1 c⟩
theorem A2w{os:List Rw}(b:TOk t)(ho:C os<=400):∃ a,C a=C os+C t.ar/\Aa (.seq PV (.block 2 (.loop K7))) (Jb t os) .norm (Jb t a):=by
 have c:=b.l9;obtain⟨a,h1,h2⟩:=zY b (C t.ar) (i:=0) (os:=os) (by omega) (by omega) (by omega);exact⟨a,h1,N (UZ t os) (w [1,3] (A0 h2) (by kernel_rfl))⟩
theorem Asl{i:Int}{os:List Rw}{r:Rw}{s:H}(h:Aa LR s .norm (TM t i (C os+1) (F cE os++cE r))):Aa LR s .norm (JG t i (os++[r])):=by
 have e:TM t i (C os+1) (F cE os++cE r)=JG t i (os++[r]):=by
  rw[Fo];show _=TM t i (C (os++[r])) (F cE (os++[r]));rw[Ah];rfl
 exact e ▸ h
theorem A2x{i:Int}{os:List Rw}(a:TOk t)(h0:0<=i)(hl:i<C t.po)(ho:C os<=500):∃ r,Aa LR (JG t i os) .norm (JG t (i+1) (os++[r])):=by
 have g:=a.l10;have d:i.toNat<C t.po:=by omega
 have hr:=B7 (c:=cPo) (k:=11) (fun _=>rfl) d;generalize t.po[i.toNat]=e at hr;have f:O D (i+1)=i+1:=A' (by omega) (by omega);have c1:decide (i<(C t.po:Int))=true:=o hl;obtain⟨b,hb⟩:∃ b,Aa zO (TN t i os e) .norm (CB (TN t i os e) 12 (Ab (I b))):=Ke Ik (l:=[⟨1,.box [.i .i64,.i .i64,.i .i64,.i .i64,.i .i64,.i .i64,.i .i64,.l,.l,.l,.l,.l,.l,.l,.l,.l,.l,.l],none⟩,⟨11,.box [.s,.i .i64,.i .i64,.i .i64,.i .i64,.i .i64,.i .i64,.i .i64,.i .i64,.i .i64,.i .i64],none⟩]) 12 (by kernel_rfl) (by kernel_rfl) (by kernel_rfl) (by kernel_rfl);have h:=aF t i os b e c1 ⟨by omega,by omega⟩ hr hb (by omega);rw[f] at h;exact⟨⟨_,_,_⟩,Asl h⟩
theorem zZ(b:TOk t):∀ (d:Nat) {i:Int} {os:List Rw},i+(d:Int)=(C t.po:Int)->0<=i->C os+d<=500 ->
  ∃ a,C a=C os+d/\Aa (.loop LR) (JG t i os) xZ4 (JG t (C t.po) a)
 | 0,i,os,h,_,_=>by
  have e:i=(C t.po:Int):=by omega
  subst e;exact⟨os,rfl,f (aG t _ os (As (by omega)))⟩
 | d+1,i,os,h,h0,ho=>by
  obtain⟨r,h1⟩:=A2x (os:=os) b h0 (by omega) (by omega);obtain⟨a,h2,c⟩:=zZ b d (i:=i+1) (os:=os++[r]) (by omega) (by omega) (by rw[Ah];simp;omega);exact⟨a,by rw[h2,Ah];simp;omega,AB h1 c⟩
theorem A2y{os:List Rw}(b:TOk t)(ho:C os<=400):∃ a,C a=C os+C t.po/\Aa (.seq PW (.block 4 (.loop LR))) (Jb t os) .norm (Jb t a):=by
 have c:=b.l10;obtain⟨a,h1,h2⟩:=zZ b (C t.po) (i:=0) (os:=os) (by omega) (by omega) (by omega);exact⟨a,h1,N (U' t os) (w [1,3] (A0 h2) (by kernel_rfl))⟩
theorem Asm{i:Int}{os:List Rw}{r:Rw}{s:H}(h:Aa LS s .norm (TO t i (C os+1) (F cE os++cE r))):Aa LS s .norm (JH t i (os++[r])):=by
 have e:TO t i (C os+1) (F cE os++cE r)=JH t i (os++[r]):=by
  rw[Fo];show _=TO t i (C (os++[r])) (F cE (os++[r]));rw[Ah];rfl
 exact e ▸ h
theorem A2z{i:Int}{os:List Rw}(a:TOk t)(h0:0<=i)(hl:i<C t.fl)(ho:C os<=500):∃ r,Aa LS (JH t i os) .norm (JH t (i+1) (os++[r])):=by
 have g:=a.l11;have d:i.toNat<C t.fl:=by omega
 have hr:=B7 (c:=cF) (k:=15) (fun _=>rfl) d;generalize t.fl[i.toNat]=e at hr;have f:O D (i+1)=i+1:=A' (by omega) (by omega);have c1:decide (i<(C t.fl:Int))=true:=o hl;obtain⟨b,hb⟩:∃ b,Aa zP (TP t i os e) .norm (CB (TP t i os e) 15 (Ab (I b))):=Ke Ik (l:=[⟨1,.box [.i .i64,.i .i64,.i .i64,.i .i64,.i .i64,.i .i64,.i .i64,.l,.l,.l,.l,.l,.l,.l,.l,.l,.l,.l],none⟩,⟨14,.box [.s,.i .i64,.i .i64,.i .i64,.i .i64,.b,.i .i64,.i .i64,.i .i64,.i .i64,.i .i64,.i .i64,.i .i64,.i .i64,.i .i64],none⟩]) 15 (by kernel_rfl) (by kernel_rfl) (by kernel_rfl) (by kernel_rfl);have h:=aH t i os b e c1 ⟨by omega,by omega⟩ hr hb (by omega);rw[f] at h;exact⟨⟨_,_,_⟩,Asm h⟩
theorem Aaa(b:TOk t):∀ (d:Nat) {i:Int} {os:List Rw},i+(d:Int)=(C t.fl:Int)->0<=i->C os+d<=500 ->
  ∃ a,C a=C os+d/\Aa (.loop LS) (JH t i os) xZ6 (JH t (C t.fl) a)
 | 0,i,os,h,_,_=>by
  have e:i=(C t.fl:Int):=by omega
  subst e;exact⟨os,rfl,f (aI t _ os (As (by omega)))⟩
 | d+1,i,os,h,h0,ho=>by
  obtain⟨r,h1⟩:=A2z (os:=os) b h0 (by omega) (by omega);obtain⟨a,h2,c⟩:=Aaa b d (i:=i+1) (os:=os++[r]) (by omega) (by omega) (by rw[Ah];simp;omega);exact⟨a,by rw[h2,Ah];simp;omega,AB h1 c⟩
theorem A3a{os:List Rw}(b:TOk t)(ho:C os<=400):∃ a,C a=C os+C t.fl/\Aa (.seq PX (.block 6 (.loop LS))) (Jb t os) .norm (Jb t a):=by
 have c:=b.l11;obtain⟨a,h1,h2⟩:=Aaa b (C t.fl) (i:=0) (os:=os) (by omega) (by omega) (by omega);exact⟨a,h1,N (U_ t os) (w [1,3] (A0 h2) (by kernel_rfl))⟩
theorem A3b(a:TOk t):∃ os:List Rw,C os<=100/\RQ 220 [t.av] (P 3 (C os) (F cE os)):=by
 have la:=a.l12;have o:=a.l13;have p:=a.l14;have ld:=a.l15;have le:=a.l16;have q:=a.l17;obtain⟨d,h0,e0⟩:∃ b,C b=C t.zo/\Aa (.seq PM (.block 0 (.loop K5))) (ZA t) .norm (F_ t b):=by
  obtain⟨b,h1,h2⟩:=zR a (C t.zo) (i:=0) (os:=[]) (by omega) (by omega) (by simp;omega);exact⟨b,by simpa using h1,N (TG t) (w [1,3] (A0 h2) (by kernel_rfl))⟩
 obtain⟨o1,h1,e⟩:=A2l (os:=d) a (by omega);obtain⟨f,h2,h⟩:=A2n (os:=o1) a (by omega);obtain⟨j,r,k⟩:=A2p (os:=f) a (by omega);obtain⟨l,u,m⟩:=A2r (os:=j) a (by omega);obtain⟨c,v,n⟩:=A2t (os:=l) a (by omega);refine⟨c,by omega,B6 (fn:=iF g Mx) (s:=Ane (C c) (F cE c)) (ex := .ret) rfl rfl ?_ (by nofun) rfl⟩;rw[Asg];exact N (jL t) (N (jM t) (N e0 (N e (N h (N k (N m (N n (ZZ t c))))))))
theorem A3c(os:List Rw):C (F cE os)=C os*3:=by
 induction os with
 | nil=>rfl
 | cons r os a=>show C (cE r++F cE os)=_;rw[Ah,a,B1];show 3+_=_;omega
theorem A3d(a:TOk t):∃ os:List Rw,C os<=200/\RQ 120 [t.av] (P 3 (C os) (F cE os)):=by
 have la:=a.l8;have m:=a.l9;have n:=a.l10;have ld:=a.l11;obtain⟨e,h0,e0⟩:∃ d,C d=C t.ws/\Aa (.seq PT (.block 0 (.loop LQ))) (Z' t) .norm (Jb t d):=by
  obtain⟨d,h1,h2⟩:=zX a (C t.ws) (i:=0) (os:=[]) (by omega) (by omega) (by simp;omega);exact⟨d,by simpa using h1,N (TK t) (w [1,3] (A0 h2) (by kernel_rfl))⟩
 obtain⟨o1,h1,f⟩:=A2w (os:=e) a (by omega);obtain⟨h,h2,j⟩:=A2y (os:=o1) a (by omega);obtain⟨c,o,k⟩:=A3a (os:=h) a (by omega);obtain⟨b,p,l⟩:=A3b a;refine⟨c++b,by rw[Ah];omega,?_⟩;rw[Ah,show F cE (c++b)=F cE c++F cE b from List.flatMap_append ..];refine B6 (fn:=iF g Pm) (s:=Ang (C c+C b) (F cE c++F cE b)) (ex := .ret) rfl rfl ?_ (by nofun) rfl;rw[Ash];exact N (jN t) (N (jO t) (N e0 (N f (N j (N k (aJ t c b (A3c b) (by omega) l))))))
end
theorem h:Be CQ []:=Be.nil _
def Je(t:Tbl)(z:Bool):H:=V 1 (T t.cs::Ab (I z)::V 127 [])
def LU(z:Bool):H:=V 2 (Ab (I z)::V 127 [])
def Aab:ICode := .region false (i (Ca Mw 98 2))
theorem jP(t:Tbl)   : Aa Aab (CL (iF g Mw) [M t.cs]) .norm (Je t false):=B h [] [1,2] a0
section
variable(t:Tbl)(z:Bool)(i:Int)
def Hp:H:=V 1 (T t.cs::Ab (I z)::vi i::V 126 [])
def Ga(j:Int):H:=V 1 (T t.cs::Ab (I z)::vi i::vi j::V 125 [])
def Nj(j:Int)(e a:El):H:=V 1 (T t.cs::Ab (I z)::vi i::vi j::T (AN e)::T (AN a)::V 123 [])
end
def aK:ICode := .region false [o1 3 (.mov (.c (.int .i64 0)))]
theorem RW(t:Tbl)(z:Bool)   : Aa aK (Je t z) .norm (Hp t z 0):=B h [] [1,2,3] a0
def aL:ICode := .region false (i (Ca Mw 83 107666))
def Lj:ICode:=Ca Mw 88 3364
section
variable(t:Tbl)(z:Bool)(i j:Int)
theorem Vb(b:Bool)(e a:El)(c1:G (j<i)=true)(c2:b=true)(c:0<=i/\i<C t.sa)(d:0<=j/\j<C t.sa)(f:At AN 10 t.sa i e)(g:At AN 10 t.sa j a)(k:Aa aL (Nj t z i j e a) .norm (CB (Nj t z i j e a) 53 (Ab (I b)))):Aa Lj (Ga t z i j) .ret (Ga t true i j):=N (B (t:=V 1 (T t.cs::Ab (I z)::vi i::vi j::V 125 [])) h [bT] OC (Bc c1)) (m (AG (N (B h [.v (M (AN e)),.v (M (AN a))] [1,2,3,4,5,6] (Fk c f d g)) (N k (B h [bT] OC (Bc c2))))))
theorem Vc(b:Bool)(e a:El)(c1:G (j<i)=true)(c2:b=false)(c:0<=i/\i<C t.sa)(d:0<=j/\j<C t.sa)(f:At AN 10 t.sa i e)(g:At AN 10 t.sa j a)(k:Aa aL (Nj t z i j e a) .norm (CB (Nj t z i j e a) 53 (Ab (I b)))):Aa Lj (Ga t z i j) .norm (Ga t z i (O D (j+1))):=N (B (t:=V 1 (T t.cs::Ab (I z)::vi i::vi j::V 125 [])) h [bT] OC (Bc c1)) (N (x (N (B h [.v (M (AN e)),.v (M (AN a))] [1,2,3,4,5,6] (Fk c f d g)) (N k (B (t:=V 1 (T t.cs::Ab (I z)::vi i::vi j::V 125 [])) h [Y] OC (Bc c2))))) (B h [] OC a0))
theorem Vd(c1:G (j<i)=false):Aa Lj (Ga t z i j) xZ2 (Ga t z i j):=m (B h [Y] OC (Bc c1))
end
def Ll:ICode:=Ca Mw 94 52
section
variable(t:Tbl)(z:Bool)(i:Int)
theorem TR(v:Int)(c1:G (i<C t.sa)=true)(a:Aa (.loop Lj) (Ga t z i 0) xZ2 (Ga t z i v)):Aa Ll (Hp t z i) .norm (Hp t z (O D (i+1))):=N (B (t:=V 1 (T t.cs::Ab (I z)::vi i::V 126 [])) h [bT] [1,2,3] (Bc c1)) (N (x (N (B h [] OC a0) (A0 a))) (B h [] [1,2,3] a0))
theorem TS(c1:G (i<C t.sa)=false):Aa Ll (Hp t z i) xZ0 (Hp t z i):=m (B h [Y] [1,2,3] (Bc c1))
theorem TT(b:Bool)(v:Int)(c1:G (i<C t.sa)=true)(a:Aa (.loop Lj) (Ga t z i 0) .ret (Ga t b i v)):Aa Ll (Hp t z i) .ret (Hp t b i):=N (B (t:=V 1 (T t.cs::Ab (I z)::vi i::V 126 [])) h [bT] [1,2,3] (Bc c1)) (m (AG (N (B h [] OC a0) (AG (BR.keep (t':=V 1 (T t.cs::Ab (I b)::vi i::V 126 [])) [1,2,3] a (by kernel_rfl))))))
def Hq:H:=V 1 (T t.cs::Ab (I z)::V 4 (vi i::V 122 []))
def Gb(j:Int):H:=V 1 (T t.cs::Ab (I z)::V 4 (vi i::vi j::V 121 []))
def Nk(j:Int)(e c:El):H:=V 1 (T t.cs::Ab (I z)::V 4 (vi i::vi j::T (cR e)::T (cR c)::V 119 []))
end
def aM:ICode := .region false [o1 7 (.mov (.c (.int .i64 0)))]
theorem RX(t:Tbl)(z:Bool)   : Aa aM (Je t z) .norm (Hq t z 0):=B h [] [1,2,7] a0
def aN:ICode := .region false (i (Ca Mw 82 238738))
def Lm:ICode:=Ca Mw 87 7460
section
variable(t:Tbl)(z:Bool)(i j:Int)
theorem Ve(b:Bool)(e a:El)(c1:G (j<i)=true)(c2:b=true)(c:0<=i/\i<C t.ra)(d:0<=j/\j<C t.ra)(f:At cR 8 t.ra i e)(g:At cR 8 t.ra j a)(k:Aa aN (Nk t z i j e a) .norm (CB (Nk t z i j e a) 92 (Ab (I b)))):Aa Lm (Gb t z i j) .ret (Gb t true i j):=N (B (t:=V 1 (T t.cs::Ab (I z)::V 4 (vi i::vi j::V 121 []))) h [bT] Wu (Bc c1)) (m (AG (N (B h [.v (M (cR e)),.v (M (cR a))] [1,2,7,8,9,10] (Fk c f d g)) (N k (B h [bT] Wu (Bc c2))))))
theorem Vf(b:Bool)(e a:El)(c1:G (j<i)=true)(c2:b=false)(c:0<=i/\i<C t.ra)(d:0<=j/\j<C t.ra)(f:At cR 8 t.ra i e)(g:At cR 8 t.ra j a)(k:Aa aN (Nk t z i j e a) .norm (CB (Nk t z i j e a) 92 (Ab (I b)))):Aa Lm (Gb t z i j) .norm (Gb t z i (O D (j+1))):=N (B (t:=V 1 (T t.cs::Ab (I z)::V 4 (vi i::vi j::V 121 []))) h [bT] Wu (Bc c1)) (N (x (N (B h [.v (M (cR e)),.v (M (cR a))] [1,2,7,8,9,10] (Fk c f d g)) (N k (B (t:=V 1 (T t.cs::Ab (I z)::V 4 (vi i::vi j::V 121 []))) h [Y] Wu (Bc c2))))) (B h [] Wu a0))
theorem Vg(c1:G (j<i)=false):Aa Lm (Gb t z i j) xZ6 (Gb t z i j):=m (B h [Y] Wu (Bc c1))
end
def Lo:ICode:=Ca Mw 93 116
section
variable(t:Tbl)(z:Bool)(i:Int)
theorem TU(v:Int)(c1:G (i<C t.ra)=true)(a:Aa (.loop Lm) (Gb t z i 0) xZ6 (Gb t z i v)):Aa Lo (Hq t z i) .norm (Hq t z (O D (i+1))):=N (B (t:=V 1 (T t.cs::Ab (I z)::V 4 (vi i::V 122 []))) h [bT] [1,2,7] (Bc c1)) (N (x (N (B h [] Wu a0) (A0 a))) (B h [] [1,2,7] a0))
theorem TV(c1:G (i<C t.ra)=false):Aa Lo (Hq t z i) xZ4 (Hq t z i):=m (B h [Y] [1,2,7] (Bc c1))
theorem TW(b:Bool)(v:Int)(c1:G (i<C t.ra)=true)(a:Aa (.loop Lm) (Gb t z i 0) .ret (Gb t b i v)):Aa Lo (Hq t z i) .ret (Hq t b i):=N (B (t:=V 1 (T t.cs::Ab (I z)::V 4 (vi i::V 122 []))) h [bT] [1,2,7] (Bc c1)) (m (AG (N (B h [] Wu a0) (AG (BR.keep (t':=V 1 (T t.cs::Ab (I b)::V 4 (vi i::V 122 []))) [1,2,7] a (by kernel_rfl))))))
def Hr:H:=V 1 (T t.cs::Ab (I z)::V 8 (vi i::V 118 []))
def Gc(j:Int):H:=V 1 (T t.cs::Ab (I z)::V 8 (vi i::vi j::V 117 []))
def Nl(j:Int)(e c:El):H:=V 1 (T t.cs::Ab (I z)::V 8 (vi i::vi j::T (cK e)::T (cK c)::V 115 []))
end
def aO:ICode := .region false [o1 11 (.mov (.c (.int .i64 0)))]
theorem RY(t:Tbl)(z:Bool)   : Aa aO (Je t z) .norm (Hr t z 0):=B h [] [1,2,11] a0
def aP:ICode := .region false (i (Ca Mw 81 500882))
def Lp:ICode:=Ca Mw 86 15652
section
variable(t:Tbl)(z:Bool)(i j:Int)
theorem Vh(b:Bool)(e a:El)(c1:G (j<i)=true)(c2:b=true)(c:0<=i/\i<C t.ln)(d:0<=j/\j<C t.ln)(f:At cK 7 t.ln i e)(g:At cK 7 t.ln j a)(k:Aa aP (Nl t z i j e a) .norm (CB (Nl t z i j e a) 129 (Ab (I b)))):Aa Lp (Gc t z i j) .ret (Gc t true i j):=N (B (t:=V 1 (T t.cs::Ab (I z)::V 8 (vi i::vi j::V 117 []))) h [bT] Wt (Bc c1)) (m (AG (N (B h [.v (M (cK e)),.v (M (cK a))] [1,2,11,12,13,14] (Fk c f d g)) (N k (B h [bT] Wt (Bc c2))))))
theorem Vi(b:Bool)(e a:El)(c1:G (j<i)=true)(c2:b=false)(c:0<=i/\i<C t.ln)(d:0<=j/\j<C t.ln)(f:At cK 7 t.ln i e)(g:At cK 7 t.ln j a)(k:Aa aP (Nl t z i j e a) .norm (CB (Nl t z i j e a) 129 (Ab (I b)))):Aa Lp (Gc t z i j) .norm (Gc t z i (O D (j+1))):=N (B (t:=V 1 (T t.cs::Ab (I z)::V 8 (vi i::vi j::V 117 []))) h [bT] Wt (Bc c1)) (N (x (N (B h [.v (M (cK e)),.v (M (cK a))] [1,2,11,12,13,14] (Fk c f d g)) (N k (B (t:=V 1 (T t.cs::Ab (I z)::V 8 (vi i::vi j::V 117 []))) h [Y] Wt (Bc c2))))) (B h [] Wt a0))
theorem Vj(c1:G (j<i)=false):Aa Lp (Gc t z i j) (.exit 10) (Gc t z i j):=m (B h [Y] Wt (Bc c1))
end
def Lq:ICode:=Ca Mw 92 244
section
variable(t:Tbl)(z:Bool)(i:Int)
theorem TX(v:Int)(c1:G (i<C t.ln)=true)(a:Aa (.loop Lp) (Gc t z i 0) (.exit 10) (Gc t z i v)):Aa Lq (Hr t z i) .norm (Hr t z (O D (i+1))):=N (B (t:=V 1 (T t.cs::Ab (I z)::V 8 (vi i::V 118 []))) h [bT] [1,2,11] (Bc c1)) (N (x (N (B h [] Wt a0) (A0 a))) (B h [] [1,2,11] a0))
theorem TY(c1:G (i<C t.ln)=false):Aa Lq (Hr t z i) xZ8 (Hr t z i):=m (B h [Y] [1,2,11] (Bc c1))
theorem TZ(b:Bool)(v:Int)(c1:G (i<C t.ln)=true)(a:Aa (.loop Lp) (Gc t z i 0) .ret (Gc t b i v)):Aa Lq (Hr t z i) .ret (Hr t b i):=N (B (t:=V 1 (T t.cs::Ab (I z)::V 8 (vi i::V 118 []))) h [bT] [1,2,11] (Bc c1)) (m (AG (N (B h [] Wt a0) (AG (BR.keep (t':=V 1 (T t.cs::Ab (I b)::V 8 (vi i::V 118 []))) [1,2,11] a (by kernel_rfl))))))
end
def mG:ICode := .seq (.region false [o1 2 (.mov (.c (.bool false)))]) (.ret)
theorem aQ(t:Tbl)(z:Bool)   : Aa mG (Je t z) .ret (LU false):=B h [] [2] a0
theorem Asn:(iF g Mw).body = .seq Aab (.seq (.seq aK (.block 0 (.loop Ll))) (.seq (.seq aM (.block 4 (.loop Lo))) (.seq (.seq aO (.block 8 (.loop Lq))) mG))):=by kernel_rfl
def Hs(t:Tbl)(r:Int):H:=V 1 (T t.cs::vi r::V 163 [])
def Vk(r:Int):H:=V 2 (vi r::V 163 [])
def Anh:ICode := .region false (i (Ca O9 98 2))
theorem Aac(t:Tbl)   : Aa Anh (CL (iF g O9) [M t.cs]) .norm (Hs t 0):=B h [] [1,2] a0
def X1:ICode := .region false (i (Ca O9 96 12))
def qD:ICode := .region false (i (Ca O9 96 14))
def AHg(t:Tbl)(r:Int)(z:Bool):H:=V 1 (T t.cs::vi r::V 76 (Ab (I z)::V 86 []))
def Vl(t:Tbl)(r:Int)(z:Bool):H:=V 1 (T t.cs::vi r::Ab (I z)::V 162 [])
def qE:ICode:=Ca O9 95 26
theorem Aad(t:Tbl)(r:Int)   : Aa qE (Hs t r) .ret (Vk 9):=B h [] [2] a0
def Oc(t:Tbl)(r:Int)(z:Bool)(i:Int):H:=V 1 (T t.cs::vi r::Ab (I z)::vi i::V 161 [])
def qF:ICode := .region false [o1 4 (.mov (.c (.int .i64 0)))]
theorem Aae(t:Tbl)(r:Int)(z:Bool)   : Aa qF (Vl t r z) .norm (Oc t r z 0):=B h [] OC a0
def Vm:ICode:=Ca O9 92 244
section
variable(t:Tbl)(r:Int)(z:Bool)
theorem qG(i x:Int)(c1:G (i<C t.tr)=true)(c2:z=true)(a:0<=i/\i<C t.tr)(b:A1 cI t.tr i (A D x)):Aa Vm (Oc t r z i) .norm (Oc t r (BK x (-1) 63) (O D (i+1))):=B h [bT,bT,.v (A D x),.r (I (BK x (-1) 63))] OC (Fh c1 c2 a b (show RQ 118 [A D x,A D (-1),A D 63] (I (BK x (-1) 63)) from Es _ _ _))
theorem qH(i:Int)(c1:G (i<C t.tr)=true)(c2:z=false):Aa Vm (Oc t r z i) .norm (Oc t r false (O D (i+1))):=B h [bT,Y] OC (Gd c1 c2)
theorem qI(i:Int)(c1:G (i<C t.tr)=false):Aa Vm (Oc t r z i) xZ0 (Oc t r z i):=B h [Y] OC (Bc c1)
def AHh:H:=V 1 (T t.cs::vi r::V 117 (Ab (I z)::V 45 []))
end
def qJ:ICode := .region false [oM 119 3,o1 120 (.un .not (.t 119))]
theorem Aaf(t:Tbl)(r:Int)(z:Bool)   : Aa qJ (Vl t r z) .norm (AHh t r (!z)):=B h [] [1,2,120] a0
def qK:ICode:=Ca O9 92 250
theorem Aag(t:Tbl)(r:Int)   : Aa qK (Hs t r) .ret (Vk 5):=B h [] [2] a0
def Aho(t:Tbl)(r:Int)(os:List Rw):H:=V 1 (T t.cs::vi r::V 2 (Ab (E (C os) (F cE os))::V 160 []))
def Ani:ICode := .region false (i (Ca O9 93 126))
section
variable(t:Tbl)(r:Int)(os:List Rw)
theorem Aah(a:RQ 120 [M t.cs] (P 3 (C os) (F cE os))):Aa Ani (Hs t r) .norm (Aho t r os):=B h [.r (P 3 (C os) (F cE os))] [1,2,5] (Bc a)
def Ht(i:Int):H:=V 1 (T t.cs::vi r::V 2 (Ab (E (C os) (F cE os))::vi i::V 159 []))
def GY(i j:Int):H:=V 1 (T t.cs::vi r::V 2 (Ab (E (C os) (F cE os))::vi i::vi j::V 158 []))
end
def qL:ICode := .region false [o1 6 (.mov (.c (.int .i64 0)))]
theorem W4(t:Tbl)(r:Int)(os:List Rw)   : Aa qL (Aho t r os) .norm (Ht t r os 0):=B h [] OD a0
def Od:ICode:=Ca O9 81 521364
section
variable(t:Tbl)(r:Int)(os:List Rw)(i j:Int)
theorem qM(ra a:Rw)(c1:G (j<i)=true)(c2:(He a.s==He ra.s)=true)(b:0<=j/\j<C os)(c:0<=i/\i<C os)(d:A2 0 cE 3 os j (.str a.s))(e:A2 0 cE 3 os i (.str ra.s)):Aa Od (GY t r os i j) .ret (GY t 7 os i j):=B h [bT,.v (.str a.s),.v (.str ra.s),bT] Y0 (EP c1 b d c e c2)
theorem qN(ra a:Rw)(c1:G (j<i)=true)(c2:(He a.s==He ra.s)=false)(b:0<=j/\j<C os)(c:0<=i/\i<C os)(d:A2 0 cE 3 os j (.str a.s))(e:A2 0 cE 3 os i (.str ra.s)):Aa Od (GY t r os i j) .norm (GY t r os i (O D (j+1))):=B h [bT,.v (.str a.s),.v (.str ra.s),Y] Y0 (EP c1 b d c e c2)
theorem qO(c1:G (j<i)=false):Aa Od (GY t r os i j) xZ4 (GY t r os i j):=B h [Y] Y0 (Bc c1)
end
def M9:ICode:=Ca O9 89 2036
section
variable(t:Tbl)(r:Int)(os:List Rw)(i:Int)
theorem jQ(c:Bool)(v:Int)(ra:Rw)(c1:G (i<C os)=true)(c2:c=true)(c3:ra.a=true)(c4:ra.b=true)(d:0<=i/\i<C os)(e:A2 0 cE 3 os i (.str ra.s))(f:RQ 121 [.str ra.s] (I c))(g:Aa (.loop Od) (GY t r os i 0) xZ4 (GY t r os i v))(j:A2 1 cE 3 os i (I ra.a))(k:A2 2 cE 3 os i (I ra.b)):Aa M9 (Ht t r os i) .norm (Ht t r os (O D (i+1))):=N (B (t:=V 1 (T t.cs::vi r::V 2 (Ab (E (C os) (F cE os))::vi i::V 159 []))) h [bT] OD (Bc c1)) (N (x (BS (N (B h [.v (.str ra.s),.r (I c),Y] Y0 (Fk d e f (AKg c2))) (N (A0 g) (B (t:=V 1 (T t.cs::vi r::V 2 (Ab (E (C os) (F cE os))::vi i::V 159 []))) h [.v (I ra.a),Y,.v (I ra.b),Y] OD (EP d j (AKg c3) d k (AKg c4))))))) (B h [] OD a0))
theorem jR(c:Bool)(v:Int)(ra:Rw)(c1:G (i<C os)=true)(c2:c=true)(c3:ra.a=true)(c4:ra.b=false)(d:0<=i/\i<C os)(e:A2 0 cE 3 os i (.str ra.s))(f:RQ 121 [.str ra.s] (I c))(g:Aa (.loop Od) (GY t r os i 0) xZ4 (GY t r os i v))(j:A2 1 cE 3 os i (I ra.a))(k:A2 2 cE 3 os i (I ra.b)):Aa M9 (Ht t r os i) .ret (Ht t 10 os i):=N (B (t:=V 1 (T t.cs::vi r::V 2 (Ab (E (C os) (F cE os))::vi i::V 159 []))) h [bT] OD (Bc c1)) (m (AG (BS (N (B h [.v (.str ra.s),.r (I c),Y] Y0 (Fk d e f (AKg c2))) (N (A0 g) (B h [.v (I ra.a),Y,.v (I ra.b),bT] OD (EP d j (AKg c3) d k (AKj c4))))))))
theorem jS(c:Bool)(v:Int)(ra:Rw)(c1:G (i<C os)=true)(c2:c=true)(c3:ra.a=false)(d:0<=i/\i<C os)(e:A2 0 cE 3 os i (.str ra.s))(f:RQ 121 [.str ra.s] (I c))(g:Aa (.loop Od) (GY t r os i 0) xZ4 (GY t r os i v))(j:A2 1 cE 3 os i (I ra.a)):Aa M9 (Ht t r os i) .ret (Ht t 5 os i):=N (B (t:=V 1 (T t.cs::vi r::V 2 (Ab (E (C os) (F cE os))::vi i::V 159 []))) h [bT] OD (Bc c1)) (m (AG (BS (N (B h [.v (.str ra.s),.r (I c),Y] Y0 (Fk d e f (AKg c2))) (N (A0 g) (B h [.v (I ra.a),bT] OD (Fa d j (AKj c3))))))))
theorem jT(c:Bool)(ra:Rw)(c1:G (i<C os)=true)(c2:c=false)(d:0<=i/\i<C os)(e:A2 0 cE 3 os i (.str ra.s))(f:RQ 121 [.str ra.s] (I c)):Aa M9 (Ht t r os i) .ret (Ht t 6 os i):=N (B (t:=V 1 (T t.cs::vi r::V 2 (Ab (E (C os) (F cE os))::vi i::V 159 []))) h [bT] OD (Bc c1)) (m (AG (BS (m (B h [.v (.str ra.s),.r (I c),bT] OD (Fk d e f (AKj c2)))))))
theorem jU(c1:G (i<C os)=false):Aa M9 (Ht t r os i) xZ2 (Ht t r os i):=m (B h [Y] OD (Bc c1))
theorem jV(c:Bool)(v r2:Int)(ra:Rw)(c1:G (i<C os)=true)(c2:c=true)(d:0<=i/\i<C os)(e:A2 0 cE 3 os i (.str ra.s))(f:RQ 121 [.str ra.s] (I c))(g:Aa (.loop Od) (GY t r os i 0) .ret (GY t r2 os i v)):Aa M9 (Ht t r os i) .ret (Ht t r2 os i):=N (B (t:=V 1 (T t.cs::vi r::V 2 (Ab (E (C os) (F cE os))::vi i::V 159 []))) h [bT] OD (Bc c1)) (m (AG (BS (N (B h [.v (.str ra.s),.r (I c),Y] Y0 (Fk d e f (AKg c2))) (m (AG (BR.keep (t':=V 1 (T t.cs::vi r2::V 2 (Ab (E (C os) (F cE os))::vi i::V 159 []))) [1,2,5,6] g (by kernel_rfl))))))))
end
def AHi(t:Tbl)(r:Int)(z:Bool):H:=V 1 (T t.cs::vi r::V 162 (Ab (I z)::[]))
def Anj:ICode := .region false [o1 164 (.ld 1 1 18 false),oC 165 122 [164]]
theorem Aai(t:Tbl)(r:Int)(a:Bool)(b:RQ 122 [M t.cs] (I a)):Aa Anj (Hs t r) .norm (AHi t r a):=B h [.r (I a)] [1,2,165] (Bc b)
def Ank:ICode:=Ca O9 89 2042
theorem Aaj(t:Tbl)(r:Int)   : Aa Ank (Hs t r) .ret (Vk 11):=B h [] [2] a0
def Aak:ICode := .seq (.region false [o1 2 (.mov (.c (.int .i64 0)))]) (.ret)
theorem qP(t:Tbl)(r:Int)   : Aa Aak (Hs t r) .ret (Vk 0):=B h [] [2] a0
theorem A3e:(iF g O9).body = .seq Anh (.seq (.seq X1 (.cond (.t 79) qE .skip)) (.seq qD (.seq (.seq qF (.block 0 (.loop Vm))) (.seq (.seq qJ (.cond (.t 120) qK .skip)) (.seq Ani (.seq (.seq qL (.block 2 (.loop M9))) (.seq (.seq Anj (.cond (.t 165) Ank .skip)) Aak))))))):=by kernel_rfl
section
variable {t:Tbl}
theorem AEt{z:Bool}(m:TOk t):∀ (d:Nat) {i j:Int},j+(d:Int)=i->0<=j->i<(C t.sa:Int) ->
  (∃ v,Aa (.loop Lj) (Ga t z i j) xZ2 (Ga t z i v))\/∃ v,Aa (.loop Lj) (Ga t z i j) .ret (Ga t true i v)
 | 0,i,j,h,h0,hi => .inl ⟨j,f (Vd t z i j (As (by omega)))⟩
 | d+1,i,j,h,h0,hi=>by
  have r:=m.l13;have c1:decide (j<i)=true:=o (by omega);have n:i.toNat<C t.sa:=by omega
  have p:j.toNat<C t.sa:=by omega
  have hr:=B7 (c:=AN) (k:=10) (fun _=>rfl) n;have g:=B7 (c:=AN) (k:=10) (fun _=>rfl) p;generalize t.sa[i.toNat]=e at hr;generalize t.sa[j.toNat]=a at g;have q:O D (j+1)=j+1:=A' (by omega) (by omega);obtain⟨b,hb⟩:∃ b,Aa aL (Nj t z i j e a) .norm (CB (Nj t z i j e a) 53 (Ab (I b))):=Ke Ik (l:=[⟨1,.box [.i .i64,.i .i64,.i .i64,.i .i64,.i .i64,.i .i64,.i .i64,.l,.l,.l,.l,.l,.l,.l,.l,.l,.l,.l],none⟩,⟨5,.box [.s,.i .i64,.i .i64,.i .i64,.i .i64,.i .i64,.i .i64,.i .i64,.i .i64,.i .i64],none⟩,⟨6,.box [.s,.i .i64,.i .i64,.i .i64,.i .i64,.i .i64,.i .i64,.i .i64,.i .i64,.i .i64],none⟩]) 53 (by kernel_rfl) (by kernel_rfl) (by kernel_rfl) (by kernel_rfl);rcases Q b with c2 | c2
  ·exact .inr ⟨_,f (Vb t z i j b e a c1 c2 ⟨by omega,by omega⟩ ⟨by omega,by omega⟩ hr g hb)⟩
  ·have h1:=Vc t z i j b e a c1 c2 ⟨by omega,by omega⟩ ⟨by omega,by omega⟩ hr g hb;rw[q] at h1;rcases AEt m d (i:=i) (j:=j+1) (by omega) (by omega) hi with ⟨v,h2⟩ | ⟨v,h2⟩
   ·exact .inl ⟨v,AB h1 h2⟩
   ·exact .inr ⟨v,AB h1 h2⟩
theorem AEu{z:Bool}(a:TOk t):∀ (d:Nat) {i:Int},i+(d:Int)=(C t.sa:Int)->0<=i ->
  (∃ v,Aa (.loop Ll) (Hp t z i) xZ0 (Hp t z v))\/∃ v,Aa (.loop Ll) (Hp t z i) .ret (Hp t true v)
 | 0,i,h,h0 => .inl ⟨i,f (TS t z i (As (by omega)))⟩
 | d+1,i,h,h0=>by
  have e:=a.l13;have c1:decide (i<(C t.sa:Int))=true:=o (by omega);have c:O D (i+1)=i+1:=A' (by omega) (by omega);rcases AEt (z:=z) a i.toNat (i:=i) (j:=0) (by omega) (by omega) (by omega) with ⟨v,b⟩ | ⟨v,b⟩
  ·have h1:=TR t z i v c1 b;rw[c] at h1;rcases AEu a d (i:=i+1) (by omega) (by omega) with ⟨v,h2⟩ | ⟨v,h2⟩
   ·exact .inl ⟨v,AB h1 h2⟩
   ·exact .inr ⟨v,AB h1 h2⟩
  ·exact .inr ⟨_,f (TT t z i true v c1 b)⟩
theorem ovb0(c:TOk t){a:ICode}(d:∃ b,Aa a (Je t false) .ret (LU b)) :
  ∃ b,Aa (.seq (.seq aK (.block 0 (.loop Ll))) a) (Je t false) .ret (LU b):=by
 rcases AEu (z:=false) c (C t.sa) (i:=0) (by omega) (by omega) with ⟨v,h⟩ | ⟨v,h⟩
 ·obtain⟨b,hb⟩:=d;exact⟨b,N (N (RW t false) (w [1,2] (A0 h) (by kernel_rfl))) hb⟩
 ·exact⟨true,m (N (RW t false) (w [2] (AG h) (by kernel_rfl)))⟩
theorem AEv{z:Bool}(m:TOk t):∀ (d:Nat) {i j:Int},j+(d:Int)=i->0<=j->i<(C t.ra:Int) ->
  (∃ v,Aa (.loop Lm) (Gb t z i j) xZ6 (Gb t z i v))\/∃ v,Aa (.loop Lm) (Gb t z i j) .ret (Gb t true i v)
 | 0,i,j,h,h0,hi => .inl ⟨j,f (Vg t z i j (As (by omega)))⟩
 | d+1,i,j,h,h0,hi=>by
  have r:=m.l15;have c1:decide (j<i)=true:=o (by omega);have n:i.toNat<C t.ra:=by omega
  have p:j.toNat<C t.ra:=by omega
  have hr:=B7 (c:=cR) (k:=8) (fun _=>rfl) n;have g:=B7 (c:=cR) (k:=8) (fun _=>rfl) p;generalize t.ra[i.toNat]=e at hr;generalize t.ra[j.toNat]=a at g;have q:O D (j+1)=j+1:=A' (by omega) (by omega);obtain⟨b,hb⟩:∃ b,Aa aN (Nk t z i j e a) .norm (CB (Nk t z i j e a) 92 (Ab (I b))):=Ke Ik (l:=[⟨1,.box [.i .i64,.i .i64,.i .i64,.i .i64,.i .i64,.i .i64,.i .i64,.l,.l,.l,.l,.l,.l,.l,.l,.l,.l,.l],none⟩,⟨9,.box [.s,.i .i64,.i .i64,.i .i64,.i .i64,.i .i64,.i .i64,.i .i64],none⟩,⟨10,.box [.s,.i .i64,.i .i64,.i .i64,.i .i64,.i .i64,.i .i64,.i .i64],none⟩]) 92 (by kernel_rfl) (by kernel_rfl) (by kernel_rfl) (by kernel_rfl);rcases Q b with c2 | c2
  ·exact .inr ⟨_,f (Ve t z i j b e a c1 c2 ⟨by omega,by omega⟩ ⟨by omega,by omega⟩ hr g hb)⟩
  ·have h1:=Vf t z i j b e a c1 c2 ⟨by omega,by omega⟩ ⟨by omega,by omega⟩ hr g hb;rw[q] at h1;rcases AEv m d (i:=i) (j:=j+1) (by omega) (by omega) hi with ⟨v,h2⟩ | ⟨v,h2⟩
   ·exact .inl ⟨v,AB h1 h2⟩
   ·exact .inr ⟨v,AB h1 h2⟩
theorem AEw{z:Bool}(a:TOk t):∀ (d:Nat) {i:Int},i+(d:Int)=(C t.ra:Int)->0<=i ->
  (∃ v,Aa (.loop Lo) (Hq t z i) xZ4 (Hq t z v))\/∃ v,Aa (.loop Lo) (Hq t z i) .ret (Hq t true v)
 | 0,i,h,h0 => .inl ⟨i,f (TV t z i (As (by omega)))⟩
 | d+1,i,h,h0=>by
  have e:=a.l15;have c1:decide (i<(C t.ra:Int))=true:=o (by omega);have c:O D (i+1)=i+1:=A' (by omega) (by omega);rcases AEv (z:=z) a i.toNat (i:=i) (j:=0) (by omega) (by omega) (by omega) with ⟨v,b⟩ | ⟨v,b⟩
  ·have h1:=TU t z i v c1 b;rw[c] at h1;rcases AEw a d (i:=i+1) (by omega) (by omega) with ⟨v,h2⟩ | ⟨v,h2⟩
   ·exact .inl ⟨v,AB h1 h2⟩
   ·exact .inr ⟨v,AB h1 h2⟩
  ·exact .inr ⟨_,f (TW t z i true v c1 b)⟩
theorem ovb1(c:TOk t){a:ICode}(d:∃ b,Aa a (Je t false) .ret (LU b)) :
  ∃ b,Aa (.seq (.seq aM (.block 4 (.loop Lo))) a) (Je t false) .ret (LU b):=by
 rcases AEw (z:=false) c (C t.ra) (i:=0) (by omega) (by omega) with ⟨v,h⟩ | ⟨v,h⟩
 ·obtain⟨b,hb⟩:=d;exact⟨b,N (N (RX t false) (w [1,2] (A0 h) (by kernel_rfl))) hb⟩
 ·exact⟨true,m (N (RX t false) (w [2] (AG h) (by kernel_rfl)))⟩
theorem AEx{z:Bool}(m:TOk t):∀ (d:Nat) {i j:Int},j+(d:Int)=i->0<=j->i<(C t.ln:Int) ->
  (∃ v,Aa (.loop Lp) (Gc t z i j) (.exit 10) (Gc t z i v))\/∃ v,Aa (.loop Lp) (Gc t z i j) .ret (Gc t true i v)
 | 0,i,j,h,h0,hi => .inl ⟨j,f (Vj t z i j (As (by omega)))⟩
 | d+1,i,j,h,h0,hi=>by
  have r:=m.l17;have c1:decide (j<i)=true:=o (by omega);have n:i.toNat<C t.ln:=by omega
  have p:j.toNat<C t.ln:=by omega
  have hr:=B7 (c:=cK) (k:=7) (fun _=>rfl) n;have g:=B7 (c:=cK) (k:=7) (fun _=>rfl) p;generalize t.ln[i.toNat]=e at hr;generalize t.ln[j.toNat]=a at g;have q:O D (j+1)=j+1:=A' (by omega) (by omega);obtain⟨b,hb⟩:∃ b,Aa aP (Nl t z i j e a) .norm (CB (Nl t z i j e a) 129 (Ab (I b))):=Ke Ik (l:=[⟨1,.box [.i .i64,.i .i64,.i .i64,.i .i64,.i .i64,.i .i64,.i .i64,.l,.l,.l,.l,.l,.l,.l,.l,.l,.l,.l],none⟩,⟨13,.box [.s,.i .i64,.i .i64,.i .i64,.i .i64,.i .i64,.i .i64],none⟩,⟨14,.box [.s,.i .i64,.i .i64,.i .i64,.i .i64,.i .i64,.i .i64],none⟩]) 129 (by kernel_rfl) (by kernel_rfl) (by kernel_rfl) (by kernel_rfl);rcases Q b with c2 | c2
  ·exact .inr ⟨_,f (Vh t z i j b e a c1 c2 ⟨by omega,by omega⟩ ⟨by omega,by omega⟩ hr g hb)⟩
  ·have h1:=Vi t z i j b e a c1 c2 ⟨by omega,by omega⟩ ⟨by omega,by omega⟩ hr g hb;rw[q] at h1;rcases AEx m d (i:=i) (j:=j+1) (by omega) (by omega) hi with ⟨v,h2⟩ | ⟨v,h2⟩
   ·exact .inl ⟨v,AB h1 h2⟩
   ·exact .inr ⟨v,AB h1 h2⟩
theorem AEy{z:Bool}(a:TOk t):∀ (d:Nat) {i:Int},i+(d:Int)=(C t.ln:Int)->0<=i ->
  (∃ v,Aa (.loop Lq) (Hr t z i) xZ8 (Hr t z v))\/∃ v,Aa (.loop Lq) (Hr t z i) .ret (Hr t true v)
 | 0,i,h,h0 => .inl ⟨i,f (TY t z i (As (by omega)))⟩
 | d+1,i,h,h0=>by
  have e:=a.l17;have c1:decide (i<(C t.ln:Int))=true:=o (by omega);have c:O D (i+1)=i+1:=A' (by omega) (by omega);rcases AEx (z:=z) a i.toNat (i:=i) (j:=0) (by omega) (by omega) (by omega) with ⟨v,b⟩ | ⟨v,b⟩
  ·have h1:=TX t z i v c1 b;rw[c] at h1;rcases AEy a d (i:=i+1) (by omega) (by omega) with ⟨v,h2⟩ | ⟨v,h2⟩
   ·exact .inl ⟨v,AB h1 h2⟩
   ·exact .inr ⟨v,AB h1 h2⟩
  ·exact .inr ⟨_,f (TZ t z i true v c1 b)⟩
theorem ovb2(c:TOk t){a:ICode}(d:∃ b,Aa a (Je t false) .ret (LU b)) :
  ∃ b,Aa (.seq (.seq aO (.block 8 (.loop Lq))) a) (Je t false) .ret (LU b):=by
 rcases AEy (z:=false) c (C t.ln) (i:=0) (by omega) (by omega) with ⟨v,h⟩ | ⟨v,h⟩
 ·obtain⟨b,hb⟩:=d;exact⟨b,N (N (RY t false) (w [1,2] (A0 h) (by kernel_rfl))) hb⟩
 ·exact⟨true,m (N (RY t false) (w [2] (AG h) (by kernel_rfl)))⟩
theorem A3f(a:TOk t):∃ b,RQ 122 [t.av] (I b):=by
 obtain⟨b,h⟩:=ovb0 a (ovb1 a (ovb2 a ⟨false,aQ t false⟩));refine⟨b,B6 (fn:=iF g Mw) (s:=LU b) (ex := .ret) rfl rfl ?_ (by nofun) rfl⟩;rw[Asn];exact N (jP t) h
theorem Ahp{r:Int}(b:TOk t):∀ (d:Nat) {z:Bool} {i:Int},i+(d:Int)=(C t.tr:Int)->0<=i->∃ a v,Aa (.loop Vm) (Oc t r z i) xZ0 (Oc t r a v)
 | 0,z,i,h,h0=>⟨z,i,f (qI t r z i (As (by omega)))⟩
 | d+1,z,i,h,h0=>by
  have l:=b.l7;have c1:decide (i<(C t.tr:Int))=true:=o (by omega);have e:O D (i+1)=i+1:=A' (by omega) (by omega);have g:i.toNat<C t.tr:=by omega
  have hr:Ad (R (J i*1) (F cI t.tr)) 0 1 true=some (A D t.tr[i.toNat]):=by
   have:=Eo (c:=cI) (k:=1) (fun _=>rfl) g (j:=0) (by omega);rw[AL] at this;exact this
  rcases Q z with c2 | c2
  ·have h1:=qG t r z i _ c1 c2 ⟨by omega,by omega⟩ hr;rw[e] at h1;obtain⟨a,v,h2⟩:=Ahp b d (z:=BK t.tr[i.toNat] (-1) 63) (i:=i+1) (by omega) (by omega);exact⟨a,v,AB h1 h2⟩
  ·have h1:=qH t r z i c1 c2;rw[e] at h1;obtain⟨a,v,h2⟩:=Ahp b d (z:=false) (i:=i+1) (by omega) (by omega);exact⟨a,v,AB h1 h2⟩
theorem A3g{r:Int}{os:List Rw}(b:C os<=200):∀ (d:Nat) {i j:Int},j+(d:Int)=i->0<=j->i<(C os:Int) ->
  (∃ v,Aa (.loop Od) (GY t r os i j) xZ4 (GY t r os i v))\/∃ r2 v,Aa (.loop Od) (GY t r os i j) .ret (GY t r2 os i v)
 | 0,i,j,h,h0,hi => .inl ⟨j,f (qO t r os i j (As (by omega)))⟩
 | d+1,i,j,h,h0,hi=>by
  have c1:decide (j<i)=true:=o (by omega);have e:i.toNat<C os:=by omega
  have l:j.toNat<C os:=by omega
  have m:O D (j+1)=j+1:=A' (by omega) (by omega);have g:Ad (R 0 (R (J i*3) (F cE os))) 0 1 true=some (.str os[i.toNat].s):=Eo (c:=cE) (k:=3) (fun _=>rfl) e (j:=0) (by omega);have a:Ad (R 0 (R (J j*3) (F cE os))) 0 1 true=some (.str os[j.toNat].s):=Eo (c:=cE) (k:=3) (fun _=>rfl) l (j:=0) (by omega);rcases Q (He os[j.toNat].s==He os[i.toNat].s) with c2 | c2
  ·exact .inr ⟨_,_,f (qM t r os i j _ _ c1 c2 ⟨by omega,by omega⟩ ⟨by omega,by omega⟩ a g)⟩
  ·have h1:=qN t r os i j _ _ c1 c2 ⟨by omega,by omega⟩ ⟨by omega,by omega⟩ a g;rw[m] at h1;rcases A3g b d (i:=i) (j:=j+1) (by omega) (by omega) hi with ⟨v,h2⟩ | ⟨r2,v,h2⟩
   ·exact .inl ⟨v,AB h1 h2⟩
   ·exact .inr ⟨r2,v,AB h1 h2⟩
theorem Anl{r:Int}{os:List Rw}(p:C os<=200):∀ (d:Nat) {i:Int},i+(d:Int)=(C os:Int)->0<=i ->
  (∃ v,Aa (.loop M9) (Ht t r os i) xZ2 (Ht t r os v))\/∃ r2 v,Aa (.loop M9) (Ht t r os i) .ret (Ht t r2 os v)
 | 0,i,h,h0 => .inl ⟨i,f (jU t r os i (As (by omega)))⟩
 | d+1,i,h,h0=>by
  have c1:decide (i<(C os:Int))=true:=o (by omega);have m:i.toNat<C os:=by omega
  have q:O D (i+1)=i+1:=A' (by omega) (by omega);have g:Ad (R 0 (R (J i*3) (F cE os))) 0 1 true=some (.str os[i.toNat].s):=Eo (c:=cE) (k:=3) (fun _=>rfl) m (j:=0) (by omega);have n:Ad (R 1 (R (J i*3) (F cE os))) 0 1 true=some (I os[i.toNat].a):=Eo (c:=cE) (k:=3) (fun _=>rfl) m (j:=1) (by omega);have gb:Ad (R 2 (R (J i*3) (F cE os))) 0 1 true=some (I os[i.toNat].b):=Eo (c:=cE) (k:=3) (fun _=>rfl) m (j:=2) (by omega);obtain⟨e,hb⟩:=mC os[i.toNat].s;rcases Q e with c2 | c2
  ·rcases A3g (t:=t) (r:=r) p i.toNat (i:=i) (j:=0) (by omega) (by omega) (by omega) with ⟨v,l⟩ | ⟨r2,v,l⟩
   ·rcases Q os[i.toNat].a with c3 | c3
    ·rcases Q os[i.toNat].b with c4 | c4
     ·have h1:=jQ t r os i e v _ c1 c2 c3 c4 ⟨by omega,by omega⟩ g hb l n gb;rw[q] at h1;rcases Anl p d (i:=i+1) (by omega) (by omega) with ⟨v,h2⟩ | ⟨r2,v,h2⟩
      ·exact .inl ⟨v,AB h1 h2⟩
      ·exact .inr ⟨r2,v,AB h1 h2⟩
     ·exact .inr ⟨_,_,f (jR t r os i e v _ c1 c2 c3 c4 ⟨by omega,by omega⟩ g hb l n gb)⟩
    ·exact .inr ⟨_,_,f (jS t r os i e v _ c1 c2 c3 ⟨by omega,by omega⟩ g hb l n)⟩
   ·exact .inr ⟨_,_,f (jV t r os i e v r2 _ c1 c2 ⟨by omega,by omega⟩ g hb l)⟩
  ·exact .inr ⟨_,_,f (jT t r os i e _ c1 c2 ⟨by omega,by omega⟩ g hb)⟩
theorem AAb:PJ:=by
 intro t j;suffices h:∃ v,Aa (iF g O9).body (CL (iF g O9) [t.av]) .ret (Vk v) by
  obtain⟨v,h⟩:=h;exact⟨v,B6 (fn:=iF g O9) (s:=Vk v) (ex := .ret) rfl rfl h (by nofun) rfl⟩
 rw[A3e];have e0:=Aac t;obtain⟨p,c⟩:∃ b,Aa X1 (Hs t 0) .norm (CB (Hs t 0) 79 (Ab (I b))):=Ke Ik (l:=[⟨1,.box [.i .i64,.i .i64,.i .i64,.i .i64,.i .i64,.i .i64,.i .i64,.l,.l,.l,.l,.l,.l,.l,.l,.l,.l,.l],none⟩]) 79 (by kernel_rfl) (by kernel_rfl) (by kernel_rfl) (by kernel_rfl);have c:Aa X1 (Hs t 0) .norm (AHg t 0 p):=c;cases p
 case true=>exact⟨_,N e0 (m (N c (Ge [1,2] rfl (by kernel_rfl) (Aad t 0))))⟩
 have d:Aa (.seq X1 (.cond (.t 79) qE .skip)) (Hs t 0) .norm (Hs t 0):=N c (GU [1,2] rfl (by kernel_rfl));obtain⟨z,a⟩:∃ b,Aa qD (Hs t 0) .norm (CB (Hs t 0) 3 (Ab (I b))):=Ke Ik (l:=[⟨1,.box [.i .i64,.i .i64,.i .i64,.i .i64,.i .i64,.i .i64,.i .i64,.l,.l,.l,.l,.l,.l,.l,.l,.l,.l,.l],none⟩]) 3 (by kernel_rfl) (by kernel_rfl) (by kernel_rfl) (by kernel_rfl);have a:Aa qD (Hs t 0) .norm (Vl t 0 z):=a;obtain⟨e,v,x⟩:=Ahp (r:=0) j (C t.tr) (z:=z) (i:=0) (by omega) (by omega);have f:Aa (.seq qF (.block 0 (.loop Vm))) (Vl t 0 z) .norm (Vl t 0 e):=N (Aae t 0 z) (w [1,2,3] (A0 x) (by kernel_rfl));have k:=Aaf t 0 e;cases y:(!e) <;> rw[y] at k
 case true=>exact⟨_,N e0 (N d (N a (N f (m (N k (Ge [1,2] rfl (by kernel_rfl) (Aag t 0)))))))⟩
 have n:Aa (.seq qJ (.cond (.t 120) qK .skip)) (Vl t 0 e) .norm (Hs t 0):=N k (GU [1,2] rfl (by kernel_rfl));obtain⟨os,ho,hr⟩:=A3d j;have o:=Aah t 0 os hr;rcases Anl (t:=t) (r:=0) ho (C os) (i:=0) (by omega) (by omega) with ⟨v,h⟩ | ⟨r2,v,h⟩
 ·have q:Aa (.seq qL (.block 2 (.loop M9))) (Aho t 0 os) .norm (Hs t 0):=N (W4 t 0 os) (w [1,2] (A0 h) (by kernel_rfl));obtain⟨b,hb⟩:=A3f j;have u:=Aai t 0 b hb;cases b
  ·exact⟨_,N e0 (N d (N a (N f (N n (N o (N q (N (N u (GU [1,2] rfl (by kernel_rfl))) (qP t 0))))))))⟩
  ·exact⟨_,N e0 (N d (N a (N f (N n (N o (N q (m (N u (Ge [1,2] rfl (by kernel_rfl) (Aaj t 0))))))))))⟩
 ·exact⟨r2,N e0 (N d (N a (N f (N n (N o (m (N (W4 t 0 os) (w [2] (AG h) (by kernel_rfl)))))))))⟩
end
theorem AHj:RQ 46 [TF.av] (A D 0):=⟨400,by kernel_rfl⟩
theorem aR{l:LI}(a:C l<4611686018427387904):∃ u,(TOk u/\RQ 46 [u.av] (A D 0))/\RQ 9 [E (C l) (li l)] u.av:=Asf AAb AHj a
theorem n:Be CQ []:=Be.nil _
theorem Aso(s:St)(i:Int)(av:Bool)(c1:G (i<C s.az)=true)(a:0<=i/\i<C s.az)(b:A1 cO s.az i (I av)):RQ 54 [M s.cs,A D i] (I av):=ALa (fn:=iF g ACo) n rfl [bT,.v (I av)] (Fa c1 a b)
def Hu(t:Tbl)(s:St)(lv px py xc:Int)(z:Bool):H:=V 2 (vi lv::V 1 (vi xc::T t.cs::T s.cs::V 1 (T [A D px,A D py]::V 1 (Ab (I z)::V 150 []))))
def Kf(z:Bool):H:=V 10 (Ab (I z)::V 150 [])
def Anm:ICode := .region false (i (Ca Tu 98 2))
section
variable(t:Tbl)(s:St)(a px py b:Int)
theorem Aal   : Aa Anm (CL (iF g Tu) [M t.cs,M s.cs,A D a,M [A D px,A D py],A D b]) .norm (Hu t s a px py b false):=B n [] [2,4,5,6,8,10] a0
def Dy(z:Bool)(i:Int):H:=V 2 (vi a::V 1 (vi b::T t.cs::T s.cs::V 1 (T [A D px,A D py]::V 1 (Ab (I z)::V 11 (Ab (E (C t.ws) (F cW t.ws))::vi (C t.ws:Int)::vi i::V 136 [])))))
end
def qQ:ICode := .region false (i (Ca Tu 96 12))
theorem Aam(t:Tbl)(s:St)(lv px py xc:Int)(z:Bool)   : Aa qQ (Hu t s lv px py xc z) .norm (Dy t s lv px py xc z 0):=B n [] Su a0
def GG:ICode:=Ca Tu 94 52
section
variable(t:Tbl)(s:St)(a px py b:Int)(z:Bool)(i:Int)
theorem aS(c:Bool)(e:El)(c1:G (i<C t.ws)=true)(c2:(e.n 1==a)=true)(c3:((e.n 0) != 2)=true)(c4:c=true)(d:0<=i/\i<C t.ws)(f:At cW 13 t.ws i e)(h:RQ 54 [M s.cs,A D i] (I c)):Aa GG (Dy t s a px py b z i) .norm (Dy t s a px py b z (O D (i+1))):=B n [bT,.v (M (cW e)),bT,bT,.r (I c),Y,Y] Su (EQ c1 d f c2 c3 h (AKg c4) iY)
theorem aT(g c:Bool)(e:El)(c1:G (i<C t.ws)=true)(c2:(e.n 1==a)=true)(c3:((e.n 0) != 2)=true)(c4:c=false)(j:g=true)(d:0<=i/\i<C t.ws)(f:At cW 13 t.ws i e)(h:RQ 54 [M s.cs,A D i] (I c))(k:RQ 57 [M [A D px,A D py],M [A D (e.n 2),A D (e.n 3)],M [A D (e.n 4),A D (e.n 5)],A D t.r0] (I g)):Aa GG (Dy t s a px py b z i) .ret (Dy t s a px py b true i):=B n [bT,.v (M (cW e)),bT,bT,.r (I c),bT,.r (I g),bT] Su (K0 c1 d f c2 c3 h (AKj c4) k j)
theorem aU(g c:Bool)(e:El)(c1:G (i<C t.ws)=true)(c2:(e.n 1==a)=true)(c3:((e.n 0) != 2)=true)(c4:c=false)(j:g=false)(d:0<=i/\i<C t.ws)(f:At cW 13 t.ws i e)(h:RQ 54 [M s.cs,A D i] (I c))(k:RQ 57 [M [A D px,A D py],M [A D (e.n 2),A D (e.n 3)],M [A D (e.n 4),A D (e.n 5)],A D t.r0] (I g)):Aa GG (Dy t s a px py b z i) .norm (Dy t s a px py b z (O D (i+1))):=B n [bT,.v (M (cW e)),bT,bT,.r (I c),bT,.r (I g),Y] Su (K0 c1 d f c2 c3 h (AKj c4) k j)
theorem aV(e:El)(c1:G (i<C t.ws)=true)(c2:(e.n 1==a)=true)(c3:((e.n 0) != 2)=false)(d:0<=i/\i<C t.ws)(f:At cW 13 t.ws i e):Aa GG (Dy t s a px py b z i) .norm (Dy t s a px py b z (O D (i+1))):=B n [bT,.v (M (cW e)),bT,Y,Y,Y] Su (Gs c1 d f c2 c3 iY iY)
theorem aW(e:El)(c1:G (i<C t.ws)=true)(c2:(e.n 1==a)=false)(d:0<=i/\i<C t.ws)(f:At cW 13 t.ws i e):Aa GG (Dy t s a px py b z i) .norm (Dy t s a px py b z (O D (i+1))):=B n [bT,.v (M (cW e)),Y,Y,Y,Y] Su (Gs c1 d f c2 iY iY iY)
theorem aY(c1:G (i<C t.ws)=false):Aa GG (Dy t s a px py b z i) xZ0 (Dy t s a px py b z i):=B n [Y] Su (Bc c1)
def Et:H:=V 2 (vi a::V 1 (vi b::T t.cs::T s.cs::V 1 (T [A D px,A D py]::V 1 (Ab (I z)::V 45 (Ab (E (C t.ar) (F AD t.ar))::vi (C t.ar:Int)::vi i::V 102 [])))))
end
def qR:ICode := .region false (i (Ca Tu 95 28))
theorem Aan(t:Tbl)(s:St)(lv px py xc:Int)(z:Bool)   : Aa qR (Hu t s lv px py xc z) .norm (Et t s lv px py xc z 0):=B n [] Y7 a0
def H7:ICode:=Ca Tu 93 116
section
variable(t:Tbl)(s:St)(a px py b:Int)(z:Bool)(i:Int)
theorem aZ(c:Bool)(e:El)(c1:G (i<C t.ar)=true)(c2:(e.n 0==a)=true)(c3:c=true)(d:0<=i/\i<C t.ar)(f:At AD 12 t.ar i e)(g:RQ 61 [M [A D px,A D py],M (AD e),A D t.r0] (I c)):Aa H7 (Et t s a px py b z i) .ret (Et t s a px py b true i):=B n [bT,.v (M (AD e)),bT,.r (I c),bT] Y7 (EP c1 d f c2 g c3)
theorem bA(c:Bool)(e:El)(c1:G (i<C t.ar)=true)(c2:(e.n 0==a)=true)(c3:c=false)(d:0<=i/\i<C t.ar)(f:At AD 12 t.ar i e)(g:RQ 61 [M [A D px,A D py],M (AD e),A D t.r0] (I c)):Aa H7 (Et t s a px py b z i) .norm (Et t s a px py b z (O D (i+1))):=B n [bT,.v (M (AD e)),bT,.r (I c),Y] Y7 (EP c1 d f c2 g c3)
theorem bB(e:El)(c1:G (i<C t.ar)=true)(c2:(e.n 0==a)=false)(d:0<=i/\i<C t.ar)(f:At AD 12 t.ar i e):Aa H7 (Et t s a px py b z i) .norm (Et t s a px py b z (O D (i+1))):=B n [bT,.v (M (AD e)),Y,Y] Y7 (Fh c1 d f c2 iY)
theorem bC(c1:G (i<C t.ar)=false):Aa H7 (Et t s a px py b z i) xZ2 (Et t s a px py b z i):=B n [Y] Y7 (Bc c1)
def Eu:H:=V 2 (vi a::V 1 (vi b::T t.cs::T s.cs::V 1 (T [A D px,A D py]::V 1 (Ab (I z)::V 64 (Ab (E (C t.po) (F cPo t.po))::vi (C t.po:Int)::vi i::V 83 [])))))
end
def qS:ICode := .region false (i (Ca Tu 94 60))
theorem Aao(t:Tbl)(s:St)(lv px py xc:Int)(z:Bool)   : Aa qS (Hu t s lv px py xc z) .norm (Eu t s lv px py xc z 0):=B n [] Y8 a0
def H8:ICode:=Ca Tu 92 244
section
variable(t:Tbl)(s:St)(a px py b:Int)(z:Bool)(i:Int)
theorem bD(c:Bool)(e:El)(c1:G (i<C t.po)=true)(c2:(e.n 0==a)=true)(c3:c=true)(d:0<=i/\i<C t.po)(f:At cPo 11 t.po i e)(g:RQ 62 [M [A D px,A D py],M [A D (e.n 1),A D (e.n 2)],A D (O D (t.r0+e.n 3))] (I c)):Aa H8 (Eu t s a px py b z i) .ret (Eu t s a px py b true i):=B n [bT,.v (M (cPo e)),bT,.r (I c),bT] Y8 (EP c1 d f c2 g c3)
theorem bE(c:Bool)(e:El)(c1:G (i<C t.po)=true)(c2:(e.n 0==a)=true)(c3:c=false)(d:0<=i/\i<C t.po)(f:At cPo 11 t.po i e)(g:RQ 62 [M [A D px,A D py],M [A D (e.n 1),A D (e.n 2)],A D (O D (t.r0+e.n 3))] (I c)):Aa H8 (Eu t s a px py b z i) .norm (Eu t s a px py b z (O D (i+1))):=B n [bT,.v (M (cPo e)),bT,.r (I c),Y] Y8 (EP c1 d f c2 g c3)
theorem bG(e:El)(c1:G (i<C t.po)=true)(c2:(e.n 0==a)=false)(d:0<=i/\i<C t.po)(f:At cPo 11 t.po i e):Aa H8 (Eu t s a px py b z i) .norm (Eu t s a px py b z (O D (i+1))):=B n [bT,.v (M (cPo e)),Y,Y] Y8 (Fh c1 d f c2 iY)
theorem bH(c1:G (i<C t.po)=false):Aa H8 (Eu t s a px py b z i) xZ4 (Eu t s a px py b z i):=B n [Y] Y8 (Bc c1)
def Ev:H:=V 2 (vi a::V 1 (vi b::T t.cs::T s.cs::V 1 (T [A D px,A D py]::V 1 (Ab (I z)::V 87 (Ab (E (C t.fl) (F cF t.fl))::vi (C t.fl:Int)::vi i::V 60 [])))))
end
def qT:ICode := .region false (i (Ca Tu 93 124))
theorem Aap(t:Tbl)(s:St)(lv px py xc:Int)(z:Bool)   : Aa qT (Hu t s lv px py xc z) .norm (Ev t s lv px py xc z 0):=B n [] Y9 a0
def H9:ICode:=Ca Tu 91 500
section
variable(t:Tbl)(s:St)(a px py b:Int)(z:Bool)(i:Int)
theorem bI(c:Bool)(e:El)(x:Int)(c1:G (i<C t.fl)=true)(c2:(e.n 0==a)=true)(c3:G (i<C s.ks)=true)(c4:c=true)(d:0<=i/\i<C t.fl)(f:0<=i/\i<C s.ks)(g:At cF 15 t.fl i e)(h:A1 cI s.ks i (A D x))(j:RQ 63 [M [A D px,A D py],M (cF e),A D x,A D t.r0] (I c)):Aa H9 (Ev t s a px py b z i) .ret (Ev t s a px py b true i):=B n [bT,.v (M (cF e)),bT,bT,.v (A D x),.r (I c),bT] Y9 (K0 c1 d g c2 c3 f h j c4)
theorem bJ(c:Bool)(e:El)(x:Int)(c1:G (i<C t.fl)=true)(c2:(e.n 0==a)=true)(c3:G (i<C s.ks)=true)(c4:c=false)(d:0<=i/\i<C t.fl)(f:0<=i/\i<C s.ks)(g:At cF 15 t.fl i e)(h:A1 cI s.ks i (A D x))(j:RQ 63 [M [A D px,A D py],M (cF e),A D x,A D t.r0] (I c)):Aa H9 (Ev t s a px py b z i) .norm (Ev t s a px py b z (O D (i+1))):=B n [bT,.v (M (cF e)),bT,bT,.v (A D x),.r (I c),Y] Y9 (K0 c1 d g c2 c3 f h j c4)
theorem bK(e:El)(c1:G (i<C t.fl)=true)(c2:(e.n 0==a)=false)(d:0<=i/\i<C t.fl)(f:At cF 15 t.fl i e):Aa H9 (Ev t s a px py b z i) .norm (Ev t s a px py b z (O D (i+1))):=B n [bT,.v (M (cF e)),Y,Y,Y] Y9 (EP c1 d f c2 iY iY)
theorem bL(c1:G (i<C t.fl)=false):Aa H9 (Ev t s a px py b z i) xZ6 (Ev t s a px py b z i):=B n [Y] Y9 (Bc c1)
def Dz:H:=V 2 (vi a::V 1 (vi b::T t.cs::T s.cs::V 1 (T [A D px,A D py]::V 1 (Ab (I z)::V 119 (Ab (E (C s.bs) (F cB s.bs))::vi (C s.bs:Int)::vi i::V 28 [])))))
end
def qU:ICode := .region false (i (Ca Tu 92 252))
theorem Aaq(t:Tbl)(s:St)(lv px py xc:Int)(z:Bool)   : Aa qU (Hu t s lv px py xc z) .norm (Dz t s lv px py xc z 0):=B n [] Sr a0
def GI:ICode:=Ca Tu 90 1012
section
variable(t:Tbl)(s:St)(b px py a:Int)(z:Bool)(i:Int)
theorem bM(f:Bool)(e:El)(c1:G (i<C s.bs)=true)(c2:(i != a)=true)(c3:((e.n 0) != 0)=true)(c4:(e.n 2==b)=true)(g:f=true)(c:0<=i/\i<C s.bs)(d:At cB 7 s.bs i e)(h:RQ 64 [M [A D px,A D py],M [A D (e.n 3),A D (e.n 4)],A D (O D (2*t.r0))] (I f)):Aa GI (Dz t s b px py a z i) .ret (Dz t s b px py a true i):=B n [bT,.v (M (cB e)),bT,bT,bT,.r (I f),bT] Sr (EQ c1 c d c2 c3 c4 h g)
theorem bP(f:Bool)(e:El)(c1:G (i<C s.bs)=true)(c2:(i != a)=true)(c3:((e.n 0) != 0)=true)(c4:(e.n 2==b)=true)(g:f=false)(c:0<=i/\i<C s.bs)(d:At cB 7 s.bs i e)(h:RQ 64 [M [A D px,A D py],M [A D (e.n 3),A D (e.n 4)],A D (O D (2*t.r0))] (I f)):Aa GI (Dz t s b px py a z i) .norm (Dz t s b px py a z (O D (i+1))):=B n [bT,.v (M (cB e)),bT,bT,bT,.r (I f),Y] Sr (EQ c1 c d c2 c3 c4 h g)
theorem bQ(e:El)(c1:G (i<C s.bs)=true)(c2:(i != a)=true)(c3:((e.n 0) != 0)=true)(c4:(e.n 2==b)=false)(c:0<=i/\i<C s.bs)(d:At cB 7 s.bs i e):Aa GI (Dz t s b px py a z i) .norm (Dz t s b px py a z (O D (i+1))):=B n [bT,.v (M (cB e)),bT,bT,Y,Y] Sr (Gs c1 c d c2 c3 c4 iY)
theorem bS(e:El)(c1:G (i<C s.bs)=true)(c2:(i != a)=true)(c3:((e.n 0) != 0)=false)(c:0<=i/\i<C s.bs)(d:At cB 7 s.bs i e):Aa GI (Dz t s b px py a z i) .norm (Dz t s b px py a z (O D (i+1))):=B n [bT,.v (M (cB e)),bT,Y,Y,Y] Sr (Gs c1 c d c2 c3 iY iY)
theorem bU(e:El)(c1:G (i<C s.bs)=true)(c2:(i != a)=false)(c:0<=i/\i<C s.bs)(d:At cB 7 s.bs i e):Aa GI (Dz t s b px py a z i) .norm (Dz t s b px py a z (O D (i+1))):=B n [bT,.v (M (cB e)),Y,Y,Y,Y] Sr (Gs c1 c d c2 iY iY iY)
theorem bV(c1:G (i<C s.bs)=false):Aa GI (Dz t s b px py a z i) xZ8 (Dz t s b px py a z i):=B n [Y] Sr (Bc c1)
end
def Aar:ICode := .seq (.region false [o1 10 (.mov (.c (.bool false)))]) (.ret)
theorem qV(t:Tbl)(s:St)(a px py b:Int)(z:Bool)   : Aa Aar (Hu t s a px py b z) .ret (Kf false):=B n [] [10] a0
theorem A3h:(iF g Tu).body = .seq Anm (.seq (.seq qQ (.block 0 (.loop GG))) (.seq (.seq qR (.block 2 (.loop H7))) (.seq (.seq qS (.block 4 (.loop H8))) (.seq (.seq qT (.block 6 (.loop H9))) (.seq (.seq qU (.block 8 (.loop GI))) Aar))))):=by kernel_rfl
def Hv(t:Tbl)(s:St)(lv px py xc:Int)(z:Bool):H:=V 2 (vi lv::V 1 (vi xc::T t.cs::T s.cs::V 1 (T [A D px,A D py]::V 1 (Ab (I z)::V 186 []))))
def Kg(z:Bool):H:=V 10 (Ab (I z)::V 186 [])
def Ann:ICode := .region false (i (Ca Tv 98 2))
section
variable(t:Tbl)(s:St)(a px py b:Int)
theorem Aas   : Aa Ann (CL (iF g Tv) [M t.cs,M s.cs,A D a,M [A D px,A D py],A D b]) .norm (Hv t s a px py b false):=B n [] [2,4,5,6,8,10] a0
def D0(z:Bool)(i:Int):H:=V 2 (vi a::V 1 (vi b::T t.cs::T s.cs::V 1 (T [A D px,A D py]::V 1 (Ab (I z)::vi i::V 185 []))))
end
def qW:ICode := .region false [o1 11 (.mov (.c (.int .i64 0)))]
theorem Aat(t:Tbl)(s:St)(lv px py xc:Int)(z:Bool)   : Aa qW (Hv t s lv px py xc z) .norm (D0 t s lv px py xc z 0):=B n [] Sq a0
def GJ:ICode:=Ca Tv 94 52
section
variable(t:Tbl)(s:St)(a px py b:Int)(z:Bool)(i:Int)
theorem bW(av:Bool)(e:El)(c1:G (i<C t.ws)=true)(c2:(e.n 1==a)=true)(c3:((e.n 0) != 2)=true)(c4:G (i>=(C s.az:Int))=false)(g:av=true)(c:0<=i/\i<C t.ws)(d:0<=i/\i<C s.az)(h:At cW 13 t.ws i e)(j:A1 cO s.az i (I av)):Aa GJ (D0 t s a px py b z i) .norm (D0 t s a px py b z (O D (i+1))):=B n [bT,.v (M (cW e)),bT,bT,Y,.v (I av),bT,Y,Y,Y] Sq (Em c1 c h c2 c3 c4 d j c3 c4 (AKg g) iY)
theorem bX(f av:Bool)(e:El)(c1:G (i<C t.ws)=true)(c2:(e.n 1==a)=true)(c3:((e.n 0) != 2)=true)(c4:G (i>=(C s.az:Int))=false)(g:av=false)(k:f=true)(c:0<=i/\i<C t.ws)(d:0<=i/\i<C s.az)(h:At cW 13 t.ws i e)(j:A1 cO s.az i (I av))(l:RQ 60 [M [A D px,A D py],M [A D (e.n 2),A D (e.n 3)],M [A D (e.n 4),A D (e.n 5)],A D t.r0] (I f)):Aa GJ (D0 t s a px py b z i) .ret (D0 t s a px py b true i):=B n [bT,.v (M (cW e)),bT,bT,Y,.v (I av),bT,Y,bT,.r (I f),bT] Sq (Ec c1 c h c2 c3 c4 d j (Fh c3 c4 (AKj g) l k))
theorem bY(f av:Bool)(e:El)(c1:G (i<C t.ws)=true)(c2:(e.n 1==a)=true)(c3:((e.n 0) != 2)=true)(c4:G (i>=(C s.az:Int))=false)(g:av=false)(k:f=false)(c:0<=i/\i<C t.ws)(d:0<=i/\i<C s.az)(h:At cW 13 t.ws i e)(j:A1 cO s.az i (I av))(l:RQ 60 [M [A D px,A D py],M [A D (e.n 2),A D (e.n 3)],M [A D (e.n 4),A D (e.n 5)],A D t.r0] (I f)):Aa GJ (D0 t s a px py b z i) .norm (D0 t s a px py b z (O D (i+1))):=B n [bT,.v (M (cW e)),bT,bT,Y,.v (I av),bT,Y,bT,.r (I f),Y] Sq (Ec c1 c h c2 c3 c4 d j (Fh c3 c4 (AKj g) l k))
theorem bZ(e:El)(c1:G (i<C t.ws)=true)(c2:(e.n 1==a)=true)(c3:((e.n 0) != 2)=false)(c:0<=i/\i<C t.ws)(d:At cW 13 t.ws i e):Aa GJ (D0 t s a px py b z i) .norm (D0 t s a px py b z (O D (i+1))):=B n [bT,.v (M (cW e)),bT,Y,Y,Y] Sq (Gs c1 c d c2 c3 iY iY)
theorem cC(e:El)(c1:G (i<C t.ws)=true)(c2:(e.n 1==a)=false)(c:0<=i/\i<C t.ws)(d:At cW 13 t.ws i e):Aa GJ (D0 t s a px py b z i) .norm (D0 t s a px py b z (O D (i+1))):=B n [bT,.v (M (cW e)),Y,Y,Y,Y] Sq (Gs c1 c d c2 iY iY iY)
theorem cG(c1:G (i<C t.ws)=false):Aa GJ (D0 t s a px py b z i) xZ0 (D0 t s a px py b z i):=B n [Y] Sq (Bc c1)
def Ew:H:=V 2 (vi a::V 1 (vi b::T t.cs::T s.cs::V 1 (T [A D px,A D py]::V 1 (Ab (I z)::V 2 (vi i::V 183 [])))))
end
def qX:ICode := .region false [o1 13 (.mov (.c (.int .i64 0)))]
theorem Aau(t:Tbl)(s:St)(lv px py xc:Int)(z:Bool)   : Aa qX (Hv t s lv px py xc z) .norm (Ew t s lv px py xc z 0):=B n [] Y4 a0
def HA:ICode:=Ca Tv 93 116
section
variable(t:Tbl)(s:St)(a px py b:Int)(z:Bool)(i:Int)
theorem cH(c:Bool)(e:El)(c1:G (i<C t.ar)=true)(c2:(e.n 0==a)=true)(c3:c=true)(d:0<=i/\i<C t.ar)(f:A2 1 AD 12 t.ar i (A D (e.n 0)))(g:At AD 12 t.ar i e)(h:RQ 65 [M [A D px,A D py],M (AD e),A D t.r0] (I c)):Aa HA (Ew t s a px py b z i) .ret (Ew t s a px py b true i):=B n [bT,.v (A D (e.n 0)),bT,.v (M (AD e)),.r (I c),bT] Y4 (EQ c1 d f c2 d g h c3)
theorem cJ(c:Bool)(e:El)(c1:G (i<C t.ar)=true)(c2:(e.n 0==a)=true)(c3:c=false)(d:0<=i/\i<C t.ar)(f:A2 1 AD 12 t.ar i (A D (e.n 0)))(g:At AD 12 t.ar i e)(h:RQ 65 [M [A D px,A D py],M (AD e),A D t.r0] (I c)):Aa HA (Ew t s a px py b z i) .norm (Ew t s a px py b z (O D (i+1))):=B n [bT,.v (A D (e.n 0)),bT,.v (M (AD e)),.r (I c),Y] Y4 (EQ c1 d f c2 d g h c3)
theorem cM(e:El)(c1:G (i<C t.ar)=true)(c2:(e.n 0==a)=false)(d:0<=i/\i<C t.ar)(f:A2 1 AD 12 t.ar i (A D (e.n 0))):Aa HA (Ew t s a px py b z i) .norm (Ew t s a px py b z (O D (i+1))):=B n [bT,.v (A D (e.n 0)),Y,Y] Y4 (Fh c1 d f c2 iY)
theorem cN(c1:G (i<C t.ar)=false):Aa HA (Ew t s a px py b z i) xZ2 (Ew t s a px py b z i):=B n [Y] Y4 (Bc c1)
def Ey:H:=V 2 (vi a::V 1 (vi b::T t.cs::T s.cs::V 1 (T [A D px,A D py]::V 1 (Ab (I z)::V 3 (vi i::V 182 [])))))
end
def qY:ICode := .region false [o1 14 (.mov (.c (.int .i64 0)))]
theorem Aav(t:Tbl)(s:St)(lv px py xc:Int)(z:Bool)   : Aa qY (Hv t s lv px py xc z) .norm (Ey t s lv px py xc z 0):=B n [] Y5 a0
def HB:ICode:=Ca Tv 92 244
section
variable(t:Tbl)(s:St)(a px py b:Int)(z:Bool)(i:Int)
theorem cQ(d:Bool)(e:El)(c1:G (i<C t.po)=true)(c2:(e.n 0==a)=true)(c3:d=true)(c:0<=i/\i<C t.po)(f:A2 1 cPo 11 t.po i (A D (e.n 0)))(g:Ad (R 2 (R (J i*11) (F cPo t.po))) 0 2 false=some (M [A D (e.n 1),A D (e.n 2)]))(h:A2 4 cPo 11 t.po i (A D (e.n 3)))(j:RQ 66 [M [A D px,A D py],M [A D (e.n 1),A D (e.n 2)],A D (O D (t.r0+e.n 3))] (I d)):Aa HB (Ey t s a px py b z i) .ret (Ey t s a px py b true i):=B n [bT,.v (A D (e.n 0)),bT,.v (M [A D (e.n 1),A D (e.n 2)]),.v (A D (e.n 3)),.r (I d),bT] Y5 (Fm c1 c f c2 c g c h j c3)
theorem cT(d:Bool)(e:El)(c1:G (i<C t.po)=true)(c2:(e.n 0==a)=true)(c3:d=false)(c:0<=i/\i<C t.po)(f:A2 1 cPo 11 t.po i (A D (e.n 0)))(g:Ad (R 2 (R (J i*11) (F cPo t.po))) 0 2 false=some (M [A D (e.n 1),A D (e.n 2)]))(h:A2 4 cPo 11 t.po i (A D (e.n 3)))(j:RQ 66 [M [A D px,A D py],M [A D (e.n 1),A D (e.n 2)],A D (O D (t.r0+e.n 3))] (I d)):Aa HB (Ey t s a px py b z i) .norm (Ey t s a px py b z (O D (i+1))):=B n [bT,.v (A D (e.n 0)),bT,.v (M [A D (e.n 1),A D (e.n 2)]),.v (A D (e.n 3)),.r (I d),Y] Y5 (Fm c1 c f c2 c g c h j c3)
theorem cU(e:El)(c1:G (i<C t.po)=true)(c2:(e.n 0==a)=false)(c:0<=i/\i<C t.po)(f:A2 1 cPo 11 t.po i (A D (e.n 0))):Aa HB (Ey t s a px py b z i) .norm (Ey t s a px py b z (O D (i+1))):=B n [bT,.v (A D (e.n 0)),Y,Y] Y5 (Fh c1 c f c2 iY)
theorem cX(c1:G (i<C t.po)=false):Aa HB (Ey t s a px py b z i) xZ4 (Ey t s a px py b z i):=B n [Y] Y5 (Bc c1)
def Ez:H:=V 2 (vi a::V 1 (vi b::T t.cs::T s.cs::V 1 (T [A D px,A D py]::V 1 (Ab (I z)::V 4 (vi i::V 181 [])))))
end
def qZ:ICode := .region false [o1 15 (.mov (.c (.int .i64 0)))]
theorem Aaw(t:Tbl)(s:St)(lv px py xc:Int)(z:Bool)   : Aa qZ (Hv t s lv px py xc z) .norm (Ez t s lv px py xc z 0):=B n [] Y6 a0
def HC:ICode:=Ca Tv 91 500
section
variable(t:Tbl)(s:St)(a px py b:Int)(z:Bool)(i:Int)
theorem cY(c:Bool)(e:El)(x:Int)(c1:G (i<C t.fl)=true)(c2:G (i<C s.ks)=true)(c3:(e.n 0==a)=true)(c4:c=true)(d:0<=i/\i<C t.fl)(f:0<=i/\i<C s.ks)(g:A2 1 cF 15 t.fl i (A D (e.n 0)))(h:At cF 15 t.fl i e)(j:A1 cI s.ks i (A D x))(k:RQ 67 [M [A D px,A D py],M (cF e),A D x,A D t.r0] (I c)):Aa HC (Ez t s a px py b z i) .ret (Ez t s a px py b true i):=B n [bT,bT,.v (A D (e.n 0)),bT,.v (M (cF e)),.v (A D x),.r (I c),bT] Y6 (G3 c1 c2 d g c3 d h f j k c4)
theorem dA(c:Bool)(e:El)(x:Int)(c1:G (i<C t.fl)=true)(c2:G (i<C s.ks)=true)(c3:(e.n 0==a)=true)(c4:c=false)(d:0<=i/\i<C t.fl)(f:0<=i/\i<C s.ks)(g:A2 1 cF 15 t.fl i (A D (e.n 0)))(h:At cF 15 t.fl i e)(j:A1 cI s.ks i (A D x))(k:RQ 67 [M [A D px,A D py],M (cF e),A D x,A D t.r0] (I c)):Aa HC (Ez t s a px py b z i) .norm (Ez t s a px py b z (O D (i+1))):=B n [bT,bT,.v (A D (e.n 0)),bT,.v (M (cF e)),.v (A D x),.r (I c),Y] Y6 (G3 c1 c2 d g c3 d h f j k c4)
theorem dB(e:El)(c1:G (i<C t.fl)=true)(c2:G (i<C s.ks)=true)(c3:(e.n 0==a)=false)(d:0<=i/\i<C t.fl)(f:A2 1 cF 15 t.fl i (A D (e.n 0))):Aa HC (Ez t s a px py b z i) .norm (Ez t s a px py b z (O D (i+1))):=B n [bT,bT,.v (A D (e.n 0)),Y,Y] Y6 (EP c1 c2 d f c3 iY)
theorem dC(c1:G (i<C t.fl)=false):Aa HC (Ez t s a px py b z i) xZ6 (Ez t s a px py b z i):=B n [Y,Y] Y6 (Gd c1 iY)
def D1:H:=V 2 (vi a::V 1 (vi b::T t.cs::T s.cs::V 1 (T [A D px,A D py]::V 1 (Ab (I z)::V 5 (vi i::V 180 [])))))
end
def rA:ICode := .region false [o1 16 (.mov (.c (.int .i64 0)))]
theorem Aax(t:Tbl)(s:St)(lv px py xc:Int)(z:Bool)   : Aa rA (Hv t s lv px py xc z) .norm (D1 t s lv px py xc z 0):=B n [] Ss a0
def GK:ICode:=Ca Tv 90 1012
section
variable(t:Tbl)(s:St)(b px py a:Int)(z:Bool)(i:Int)
theorem dD(f:Bool)(e:El)(c1:G (i<C s.bs)=true)(c2:(i != a)=true)(c3:((e.n 0) != 0)=true)(c4:(e.n 2==b)=true)(g:f=true)(c:0<=i/\i<C s.bs)(d:At cB 7 s.bs i e)(h:RQ 68 [M [A D px,A D py],M [A D (e.n 3),A D (e.n 4)],A D (O D (2*t.r0))] (I f)):Aa GK (D1 t s b px py a z i) .ret (D1 t s b px py a true i):=B n [bT,.v (M (cB e)),bT,bT,bT,.r (I f),bT] Ss (EQ c1 c d c2 c3 c4 h g)
theorem dF(f:Bool)(e:El)(c1:G (i<C s.bs)=true)(c2:(i != a)=true)(c3:((e.n 0) != 0)=true)(c4:(e.n 2==b)=true)(g:f=false)(c:0<=i/\i<C s.bs)(d:At cB 7 s.bs i e)(h:RQ 68 [M [A D px,A D py],M [A D (e.n 3),A D (e.n 4)],A D (O D (2*t.r0))] (I f)):Aa GK (D1 t s b px py a z i) .norm (D1 t s b px py a z (O D (i+1))):=B n [bT,.v (M (cB e)),bT,bT,bT,.r (I f),Y] Ss (EQ c1 c d c2 c3 c4 h g)
theorem dG(e:El)(c1:G (i<C s.bs)=true)(c2:(i != a)=true)(c3:((e.n 0) != 0)=true)(c4:(e.n 2==b)=false)(c:0<=i/\i<C s.bs)(d:At cB 7 s.bs i e):Aa GK (D1 t s b px py a z i) .norm (D1 t s b px py a z (O D (i+1))):=B n [bT,.v (M (cB e)),bT,bT,Y,Y] Ss (Gs c1 c d c2 c3 c4 iY)
theorem dH(e:El)(c1:G (i<C s.bs)=true)(c2:(i != a)=true)(c3:((e.n 0) != 0)=false)(c:0<=i/\i<C s.bs)(d:At cB 7 s.bs i e):Aa GK (D1 t s b px py a z i) .norm (D1 t s b px py a z (O D (i+1))):=B n [bT,.v (M (cB e)),bT,Y,Y,Y] Ss (Gs c1 c d c2 c3 iY iY)
theorem dI(e:El)(c1:G (i<C s.bs)=true)(c2:(i != a)=false)(c:0<=i/\i<C s.bs)(d:At cB 7 s.bs i e):Aa GK (D1 t s b px py a z i) .norm (D1 t s b px py a z (O D (i+1))):=B n [bT,.v (M (cB e)),Y,Y,Y,Y] Ss (Gs c1 c d c2 iY iY iY)
theorem dJ(c1:G (i<C s.bs)=false):Aa GK (D1 t s b px py a z i) xZ8 (D1 t s b px py a z i):=B n [Y] Ss (Bc c1)
end
def Aay:ICode := .seq (.region false [o1 10 (.mov (.c (.bool false)))]) (.ret)
theorem rB(t:Tbl)(s:St)(a px py b:Int)(z:Bool)   : Aa Aay (Hv t s a px py b z) .ret (Kg false):=B n [] [10] a0
theorem A3i:(iF g Tv).body = .seq Ann (.seq (.seq qW (.block 0 (.loop GJ))) (.seq (.seq qX (.block 2 (.loop HA))) (.seq (.seq qY (.block 4 (.loop HB))) (.seq (.seq qZ (.block 6 (.loop HC))) (.seq (.seq rA (.block 8 (.loop GK))) Aay))))):=by kernel_rfl
section
variable {t:Tbl} {s:St} {lv px py xc:Int}
theorem Aaz{xs:LI}{i:Int}(_:0<=i)(h:i.toNat<C xs):Ad (R (J i*1) (F cI xs)) 0 1 true=some (A D xs[i.toNat]):=by
 have:=Eo (c:=cI) (k:=1) (fun _=>rfl) h (j:=0) (by omega);rw[AL] at this;exact this
theorem A3j{xs:List Bool}{i:Int}(_:0<=i)(h:i.toNat<C xs):Ad (R (J i*1) (F cO xs)) 0 1 true=some (I xs[i.toNat]):=by
 have:=Eo (c:=cO) (k:=1) (fun _=>rfl) h (j:=0) (by omega);rw[AL] at this;exact this
theorem Nm{α:Type}{c:α->u}{k:Nat}(hc:∀ e,C (c e)=k){es:List α}{i:Nat}(h:i<C es){j n:Nat}(a:j+n<=k):Ad (R j (R (i*k) (F c es))) 0 n false=some (M (((c es[i]).drop j).take n)):=by
 rw[T1 hc h,List.drop_append_of_le_length (by rw[hc];omega)];simp only[Ad,AC,if_false,AH,AL];rw[Ae (by rw[Ah,C5,hc];omega),F8 (by rw[C5,hc];omega)]
def PY(f g:Nat)(xs a:u):Prop:=∃ b,RQ f xs (I b)/\RQ g a (I b)
structure Alike (t:Tbl) (s:St) (px py:Int):Prop where
 c0:∀ (e:El) (_:e∈t.ws),PY 57 60 [.agg [.int .i64 px,.int .i64 py],.agg [.int .i64 (e.n 2),.int .i64 (e.n 3)],.agg [.int .i64 (e.n 4),.int .i64 (e.n 5)],.int .i64 t.r0] [.agg [.int .i64 px,.int .i64 py],.agg [.int .i64 (e.n 2),.int .i64 (e.n 3)],.agg [.int .i64 (e.n 4),.int .i64 (e.n 5)],.int .i64 t.r0]
 c1:∀ (e:El) (_:e∈t.ar),PY 61 65 [.agg [.int .i64 px,.int .i64 py],.agg (AD e),.int .i64 t.r0] [.agg [.int .i64 px,.int .i64 py],.agg (AD e),.int .i64 t.r0]
 c2:∀ (e:El) (_:e∈t.po),PY 62 66 [.agg [.int .i64 px,.int .i64 py],.agg [.int .i64 (e.n 1),.int .i64 (e.n 2)],.int .i64 (O D (t.r0+e.n 3))] [.agg [.int .i64 px,.int .i64 py],.agg [.int .i64 (e.n 1),.int .i64 (e.n 2)],.int .i64 (O D (t.r0+e.n 3))]
 c3:∀ (e:El) (_:e∈t.fl) (x:Int) (_:x∈s.ks),PY 63 67 [.agg [.int .i64 px,.int .i64 py],.agg (cF e),.int .i64 x,.int .i64 t.r0] [.agg [.int .i64 px,.int .i64 py],.agg (cF e),.int .i64 x,.int .i64 t.r0]
 c4:∀ (e:El) (_:e∈s.bs),PY 64 68 [.agg [.int .i64 px,.int .i64 py],.agg [.int .i64 (e.n 3),.int .i64 (e.n 4)],.int .i64 (O D (2*t.r0))] [.agg [.int .i64 px,.int .i64 py],.agg [.int .i64 (e.n 3),.int .i64 (e.n 4)],.int .i64 (O D (2*t.r0))]
theorem rC{i:Int}(h1:Aa GG (Dy t s lv px py xc false i) .norm (Dy t s lv px py xc false (i+1)))(h2:Aa GJ (D0 t s lv px py xc false i) .norm (D0 t s lv px py xc false (i+1)))(h:(Aa (.loop GG) (Dy t s lv px py xc false (i+1)) xZ0 (Dy t s lv px py xc false (C t.ws))/\Aa (.loop GJ) (D0 t s lv px py xc false (i+1)) xZ0 (D0 t s lv px py xc false (C t.ws)))\/∃ v,Aa (.loop GG) (Dy t s lv px py xc false (i+1)) .ret (Dy t s lv px py xc true v)/\Aa (.loop GJ) (D0 t s lv px py xc false (i+1)) .ret (D0 t s lv px py xc true v)) :
  (Aa (.loop GG) (Dy t s lv px py xc false i) xZ0 (Dy t s lv px py xc false (C t.ws))/\Aa (.loop GJ) (D0 t s lv px py xc false i) xZ0 (D0 t s lv px py xc false (C t.ws)))\/∃ v,Aa (.loop GG) (Dy t s lv px py xc false i) .ret (Dy t s lv px py xc true v)/\Aa (.loop GJ) (D0 t s lv px py xc false i) .ret (D0 t s lv px py xc true v):=by
 rcases h with ⟨a,b⟩ | ⟨v,a,b⟩
 ·exact .inl ⟨AB h1 a,AB h2 b⟩
 ·exact .inr ⟨v,AB h1 a,AB h2 b⟩
theorem jl0(m:TOk t)(hs:s.sh t.r1.toNat (C t.fl) (C t.ws))(p:Alike t s px py):∀ (d:Nat) {i:Int},i+(d:Int)=(C t.ws:Int)->0<=i ->
  (Aa (.loop GG) (Dy t s lv px py xc false i) xZ0 (Dy t s lv px py xc false (C t.ws))/\Aa (.loop GJ) (D0 t s lv px py xc false i) xZ0 (D0 t s lv px py xc false (C t.ws)))\/∃ v,Aa (.loop GG) (Dy t s lv px py xc false i) .ret (Dy t s lv px py xc true v)/\Aa (.loop GJ) (D0 t s lv px py xc false i) .ret (D0 t s lv px py xc true v)
 | 0,i,h,h0=>by
  have e:i=(C t.ws:Int):=by omega
  subst e;exact .inl ⟨f (aY t s lv px py xc false _ (As (by omega))),f (cG t s lv px py xc false _ (As (by omega)))⟩
 | d+1,i,h,h0=>by
  have K:=m.l8;have L:=m.r1;have E:=hs;obtain⟨hb,N,_,P⟩:=E;have hi:i.toNat<C t.ws:=by omega
  have w:O D (i+1)=i+1:=A' (by omega) (by omega);have hr:=B7 (c:=cW) (k:=13) (fun _=>rfl) hi;have b:G (i<(C t.ws:Int))=true:=o (by omega);have q:i.toNat<C s.az:=by omega
  have x:=A3j h0 q;have y:=Aso s i _ (o (by omega)) ⟨by omega,by omega⟩ x;obtain⟨r,z,A⟩:=p.c0 _ (AF hi);have H:∀ j,j<13->Ad (R j (R (J i*13) (F cW t.ws))) 0 1 true=(cW t.ws[i.toNat])[j]? := fun j q=>Eo (c:=cW) (k:=13) (fun _=>rfl) hi q;have I:∀ j n,j+n<=13->Ad (R j (R (J i*13) (F cW t.ws))) 0 n false=some (M (((cW t.ws[i.toNat]).drop j).take n)):=fun j n q=>Nm (c:=cW) (k:=13) (fun _=>rfl) hi q;generalize t.ws[i.toNat]=e at hr z A H I;have B:G (i>=(C s.az:Int))=false:=As (by omega);rcases Q (e.n 1==lv) with a | a
  ·rcases Q ((e.n 0) != 2) with g | g
   ·rcases Q (s.az[i.toNat]) with l | l
    ·have h1:=aS t s lv px py xc (false) i (s.az[i.toNat]) e b a g l ⟨by omega,by omega⟩ hr y;have h2:=bW t s lv px py xc (false) i (s.az[i.toNat]) e b a g B l ⟨by omega,by omega⟩ ⟨by omega,by omega⟩ hr x;rw[w] at h1 h2;exact rC h1 h2 (jl0 m hs p d (i:=i+1) (by omega) (by omega))
    ·rcases Q (r) with u | u
     ·exact .inr ⟨i,f (aT t s lv px py xc (false) i r (s.az[i.toNat]) e b a g l u ⟨by omega,by omega⟩ hr y z),f (bX t s lv px py xc (false) i r (s.az[i.toNat]) e b a g B l u ⟨by omega,by omega⟩ ⟨by omega,by omega⟩ hr x A)⟩
     ·have h1:=aU t s lv px py xc (false) i r (s.az[i.toNat]) e b a g l u ⟨by omega,by omega⟩ hr y z;have h2:=bY t s lv px py xc (false) i r (s.az[i.toNat]) e b a g B l u ⟨by omega,by omega⟩ ⟨by omega,by omega⟩ hr x A;rw[w] at h1 h2;exact rC h1 h2 (jl0 m hs p d (i:=i+1) (by omega) (by omega))
   ·have h1:=aV t s lv px py xc (false) i e b a g ⟨by omega,by omega⟩ hr;have h2:=bZ t s lv px py xc (false) i e b a g ⟨by omega,by omega⟩ hr;rw[w] at h1 h2;exact rC h1 h2 (jl0 m hs p d (i:=i+1) (by omega) (by omega))
  ·have h1:=aW t s lv px py xc (false) i e b a ⟨by omega,by omega⟩ hr;have h2:=cC t s lv px py xc (false) i e b a ⟨by omega,by omega⟩ hr;rw[w] at h1 h2;exact rC h1 h2 (jl0 m hs p d (i:=i+1) (by omega) (by omega))
theorem A3k{i:Int}(h1:Aa H7 (Et t s lv px py xc false i) .norm (Et t s lv px py xc false (i+1)))(h2:Aa HA (Ew t s lv px py xc false i) .norm (Ew t s lv px py xc false (i+1)))(h:(Aa (.loop H7) (Et t s lv px py xc false (i+1)) xZ2 (Et t s lv px py xc false (C t.ar))/\Aa (.loop HA) (Ew t s lv px py xc false (i+1)) xZ2 (Ew t s lv px py xc false (C t.ar)))\/∃ v,Aa (.loop H7) (Et t s lv px py xc false (i+1)) .ret (Et t s lv px py xc true v)/\Aa (.loop HA) (Ew t s lv px py xc false (i+1)) .ret (Ew t s lv px py xc true v)) :
  (Aa (.loop H7) (Et t s lv px py xc false i) xZ2 (Et t s lv px py xc false (C t.ar))/\Aa (.loop HA) (Ew t s lv px py xc false i) xZ2 (Ew t s lv px py xc false (C t.ar)))\/∃ v,Aa (.loop H7) (Et t s lv px py xc false i) .ret (Et t s lv px py xc true v)/\Aa (.loop HA) (Ew t s lv px py xc false i) .ret (Ew t s lv px py xc true v):=by
 rcases h with ⟨a,b⟩ | ⟨v,a,b⟩
 ·exact .inl ⟨AB h1 a,AB h2 b⟩
 ·exact .inr ⟨v,AB h1 a,AB h2 b⟩
theorem jl1(m:TOk t)(hs:s.sh t.r1.toNat (C t.fl) (C t.ws))(q:Alike t s px py):∀ (d:Nat) {i:Int},i+(d:Int)=(C t.ar:Int)->0<=i ->
  (Aa (.loop H7) (Et t s lv px py xc false i) xZ2 (Et t s lv px py xc false (C t.ar))/\Aa (.loop HA) (Ew t s lv px py xc false i) xZ2 (Ew t s lv px py xc false (C t.ar)))\/∃ v,Aa (.loop H7) (Et t s lv px py xc false i) .ret (Et t s lv px py xc true v)/\Aa (.loop HA) (Ew t s lv px py xc false i) .ret (Ew t s lv px py xc true v)
 | 0,i,h,h0=>by
  have e:i=(C t.ar:Int):=by omega
  subst e;exact .inl ⟨f (bC t s lv px py xc false _ (As (by omega))),f (cN t s lv px py xc false _ (As (by omega)))⟩
 | d+1,i,h,h0=>by
  have A:=m.l9;have B:=m.r1;have y:=hs;obtain⟨hb,E,_,H⟩:=y;have hi:i.toNat<C t.ar:=by omega
  have x:O D (i+1)=i+1:=A' (by omega) (by omega);have hr:=B7 (c:=AD) (k:=12) (fun _=>rfl) hi;have b:G (i<(C t.ar:Int))=true:=o (by omega);obtain⟨g,r,u⟩:=q.c1 _ (AF hi);have p:∀ j,j<12->Ad (R j (R (J i*12) (F AD t.ar))) 0 1 true=(AD t.ar[i.toNat])[j]? := fun j w=>Eo (c:=AD) (k:=12) (fun _=>rfl) hi w;have z:∀ j n,j+n<=12->Ad (R j (R (J i*12) (F AD t.ar))) 0 n false=some (M (((AD t.ar[i.toNat]).drop j).take n)):=fun j n w=>Nm (c:=AD) (k:=12) (fun _=>rfl) hi w;generalize t.ar[i.toNat]=e at hr r u p z;rcases Q (e.n 0==lv) with a | a
  ·rcases Q (g) with l | l
   ·exact .inr ⟨i,f (aZ t s lv px py xc (false) i g e b a l ⟨by omega,by omega⟩ hr r),f (cH t s lv px py xc (false) i g e b a l ⟨by omega,by omega⟩ (p 1 (by omega)) hr u)⟩
   ·have h1:=bA t s lv px py xc (false) i g e b a l ⟨by omega,by omega⟩ hr r;have h2:=cJ t s lv px py xc (false) i g e b a l ⟨by omega,by omega⟩ (p 1 (by omega)) hr u;rw[x] at h1 h2;exact A3k h1 h2 (jl1 m hs q d (i:=i+1) (by omega) (by omega))
  ·have h1:=bB t s lv px py xc (false) i e b a ⟨by omega,by omega⟩ hr;have h2:=cM t s lv px py xc (false) i e b a ⟨by omega,by omega⟩ (p 1 (by omega));rw[x] at h1 h2;exact A3k h1 h2 (jl1 m hs q d (i:=i+1) (by omega) (by omega))
theorem A3l{i:Int}(h1:Aa H8 (Eu t s lv px py xc false i) .norm (Eu t s lv px py xc false (i+1)))(h2:Aa HB (Ey t s lv px py xc false i) .norm (Ey t s lv px py xc false (i+1)))(h:(Aa (.loop H8) (Eu t s lv px py xc false (i+1)) xZ4 (Eu t s lv px py xc false (C t.po))/\Aa (.loop HB) (Ey t s lv px py xc false (i+1)) xZ4 (Ey t s lv px py xc false (C t.po)))\/∃ v,Aa (.loop H8) (Eu t s lv px py xc false (i+1)) .ret (Eu t s lv px py xc true v)/\Aa (.loop HB) (Ey t s lv px py xc false (i+1)) .ret (Ey t s lv px py xc true v)) :
  (Aa (.loop H8) (Eu t s lv px py xc false i) xZ4 (Eu t s lv px py xc false (C t.po))/\Aa (.loop HB) (Ey t s lv px py xc false i) xZ4 (Ey t s lv px py xc false (C t.po)))\/∃ v,Aa (.loop H8) (Eu t s lv px py xc false i) .ret (Eu t s lv px py xc true v)/\Aa (.loop HB) (Ey t s lv px py xc false i) .ret (Ey t s lv px py xc true v):=by
 rcases h with ⟨a,b⟩ | ⟨v,a,b⟩
 ·exact .inl ⟨AB h1 a,AB h2 b⟩
 ·exact .inr ⟨v,AB h1 a,AB h2 b⟩
theorem jl2(p:TOk t)(hs:s.sh t.r1.toNat (C t.fl) (C t.ws))(q:Alike t s px py):∀ (d:Nat) {i:Int},i+(d:Int)=(C t.po:Int)->0<=i ->
  (Aa (.loop H8) (Eu t s lv px py xc false i) xZ4 (Eu t s lv px py xc false (C t.po))/\Aa (.loop HB) (Ey t s lv px py xc false i) xZ4 (Ey t s lv px py xc false (C t.po)))\/∃ v,Aa (.loop H8) (Eu t s lv px py xc false i) .ret (Eu t s lv px py xc true v)/\Aa (.loop HB) (Ey t s lv px py xc false i) .ret (Ey t s lv px py xc true v)
 | 0,i,h,h0=>by
  have e:i=(C t.po:Int):=by omega
  subst e;exact .inl ⟨f (bH t s lv px py xc false _ (As (by omega))),f (cX t s lv px py xc false _ (As (by omega)))⟩
 | d+1,i,h,h0=>by
  have A:=p.l10;have B:=p.r1;have z:=hs;obtain⟨hb,E,_,H⟩:=z;have hi:i.toNat<C t.po:=by omega
  have y:O D (i+1)=i+1:=A' (by omega) (by omega);have hr:=B7 (c:=cPo) (k:=11) (fun _=>rfl) hi;have b:G (i<(C t.po:Int))=true:=o (by omega);obtain⟨l,r,u⟩:=q.c2 _ (AF hi);have g:∀ j,j<11->Ad (R j (R (J i*11) (F cPo t.po))) 0 1 true=(cPo t.po[i.toNat])[j]? := fun j w=>Eo (c:=cPo) (k:=11) (fun _=>rfl) hi w;have x:∀ j n,j+n<=11->Ad (R j (R (J i*11) (F cPo t.po))) 0 n false=some (M (((cPo t.po[i.toNat]).drop j).take n)):=fun j n w=>Nm (c:=cPo) (k:=11) (fun _=>rfl) hi w;generalize t.po[i.toNat]=e at hr r u g x;rcases Q (e.n 0==lv) with a | a
  ·rcases Q (l) with m | m
   ·exact .inr ⟨i,f (bD t s lv px py xc (false) i l e b a m ⟨by omega,by omega⟩ hr r),f (cQ t s lv px py xc (false) i l e b a m ⟨by omega,by omega⟩ (g 1 (by omega)) (x 2 2 (by omega)) (g 4 (by omega)) u)⟩
   ·have h1:=bE t s lv px py xc (false) i l e b a m ⟨by omega,by omega⟩ hr r;have h2:=cT t s lv px py xc (false) i l e b a m ⟨by omega,by omega⟩ (g 1 (by omega)) (x 2 2 (by omega)) (g 4 (by omega)) u;rw[y] at h1 h2;exact A3l h1 h2 (jl2 p hs q d (i:=i+1) (by omega) (by omega))
  ·have h1:=bG t s lv px py xc (false) i e b a ⟨by omega,by omega⟩ hr;have h2:=cU t s lv px py xc (false) i e b a ⟨by omega,by omega⟩ (g 1 (by omega));rw[y] at h1 h2;exact A3l h1 h2 (jl2 p hs q d (i:=i+1) (by omega) (by omega))
theorem A3m{i:Int}(h1:Aa H9 (Ev t s lv px py xc false i) .norm (Ev t s lv px py xc false (i+1)))(h2:Aa HC (Ez t s lv px py xc false i) .norm (Ez t s lv px py xc false (i+1)))(h:(Aa (.loop H9) (Ev t s lv px py xc false (i+1)) xZ6 (Ev t s lv px py xc false (C t.fl))/\Aa (.loop HC) (Ez t s lv px py xc false (i+1)) xZ6 (Ez t s lv px py xc false (C t.fl)))\/∃ v,Aa (.loop H9) (Ev t s lv px py xc false (i+1)) .ret (Ev t s lv px py xc true v)/\Aa (.loop HC) (Ez t s lv px py xc false (i+1)) .ret (Ez t s lv px py xc true v)) :
  (Aa (.loop H9) (Ev t s lv px py xc false i) xZ6 (Ev t s lv px py xc false (C t.fl))/\Aa (.loop HC) (Ez t s lv px py xc false i) xZ6 (Ez t s lv px py xc false (C t.fl)))\/∃ v,Aa (.loop H9) (Ev t s lv px py xc false i) .ret (Ev t s lv px py xc true v)/\Aa (.loop HC) (Ez t s lv px py xc false i) .ret (Ez t s lv px py xc true v):=by
 rcases h with ⟨a,b⟩ | ⟨v,a,b⟩
 ·exact .inl ⟨AB h1 a,AB h2 b⟩
 ·exact .inr ⟨v,AB h1 a,AB h2 b⟩
theorem jl3(q:TOk t)(hs:s.sh t.r1.toNat (C t.fl) (C t.ws))(w:Alike t s px py):∀ (d:Nat) {i:Int},i+(d:Int)=(C t.fl:Int)->0<=i ->
  (Aa (.loop H9) (Ev t s lv px py xc false i) xZ6 (Ev t s lv px py xc false (C t.fl))/\Aa (.loop HC) (Ez t s lv px py xc false i) xZ6 (Ez t s lv px py xc false (C t.fl)))\/∃ v,Aa (.loop H9) (Ev t s lv px py xc false i) .ret (Ev t s lv px py xc true v)/\Aa (.loop HC) (Ez t s lv px py xc false i) .ret (Ez t s lv px py xc true v)
 | 0,i,h,h0=>by
  have e:i=(C t.fl:Int):=by omega
  subst e;exact .inl ⟨f (bL t s lv px py xc false _ (As (by omega))),f (dC t s lv px py xc false _ (As (by omega)))⟩
 | d+1,i,h,h0=>by
  have E:=q.l11;have H:=q.r1;have A:=hs;obtain⟨hb,I,_,K⟩:=A;have hi:i.toNat<C t.fl:=by omega
  have z:O D (i+1)=i+1:=A' (by omega) (by omega);have hr:=B7 (c:=cF) (k:=15) (fun _=>rfl) hi;have b:G (i<(C t.fl:Int))=true:=o (by omega);have g:i.toNat<C s.ks:=by omega
  have r:=Aaz h0 g;obtain⟨l,x,y⟩:=w.c3 _ (AF hi) _ (AF g);have u:∀ j,j<15->Ad (R j (R (J i*15) (F cF t.fl))) 0 1 true=(cF t.fl[i.toNat])[j]? := fun j g=>Eo (c:=cF) (k:=15) (fun _=>rfl) hi g;have B:∀ j n,j+n<=15->Ad (R j (R (J i*15) (F cF t.fl))) 0 n false=some (M (((cF t.fl[i.toNat]).drop j).take n)):=fun j n g=>Nm (c:=cF) (k:=15) (fun _=>rfl) hi g;generalize t.fl[i.toNat]=e at hr x y u B;have m:G (i<(C s.ks:Int))=true:=o (by omega);rcases Q (e.n 0==lv) with a | a
  ·rcases Q (l) with p | p
   ·exact .inr ⟨i,f (bI t s lv px py xc (false) i l e (s.ks[i.toNat]) b a m p ⟨by omega,by omega⟩ ⟨by omega,by omega⟩ hr r x),f (cY t s lv px py xc (false) i l e (s.ks[i.toNat]) b m a p ⟨by omega,by omega⟩ ⟨by omega,by omega⟩ (u 1 (by omega)) hr r y)⟩
   ·have h1:=bJ t s lv px py xc (false) i l e (s.ks[i.toNat]) b a m p ⟨by omega,by omega⟩ ⟨by omega,by omega⟩ hr r x;have h2:=dA t s lv px py xc (false) i l e (s.ks[i.toNat]) b m a p ⟨by omega,by omega⟩ ⟨by omega,by omega⟩ (u 1 (by omega)) hr r y;rw[z] at h1 h2;exact A3m h1 h2 (jl3 q hs w d (i:=i+1) (by omega) (by omega))
  ·have h1:=bK t s lv px py xc (false) i e b a ⟨by omega,by omega⟩ hr;have h2:=dB t s lv px py xc (false) i e b m a ⟨by omega,by omega⟩ (u 1 (by omega));rw[z] at h1 h2;exact A3m h1 h2 (jl3 q hs w d (i:=i+1) (by omega) (by omega))
theorem rD{i:Int}(h1:Aa GI (Dz t s lv px py xc false i) .norm (Dz t s lv px py xc false (i+1)))(h2:Aa GK (D1 t s lv px py xc false i) .norm (D1 t s lv px py xc false (i+1)))(h:(Aa (.loop GI) (Dz t s lv px py xc false (i+1)) xZ8 (Dz t s lv px py xc false (C s.bs))/\Aa (.loop GK) (D1 t s lv px py xc false (i+1)) xZ8 (D1 t s lv px py xc false (C s.bs)))\/∃ v,Aa (.loop GI) (Dz t s lv px py xc false (i+1)) .ret (Dz t s lv px py xc true v)/\Aa (.loop GK) (D1 t s lv px py xc false (i+1)) .ret (D1 t s lv px py xc true v)) :
  (Aa (.loop GI) (Dz t s lv px py xc false i) xZ8 (Dz t s lv px py xc false (C s.bs))/\Aa (.loop GK) (D1 t s lv px py xc false i) xZ8 (D1 t s lv px py xc false (C s.bs)))\/∃ v,Aa (.loop GI) (Dz t s lv px py xc false i) .ret (Dz t s lv px py xc true v)/\Aa (.loop GK) (D1 t s lv px py xc false i) .ret (D1 t s lv px py xc true v):=by
 rcases h with ⟨a,b⟩ | ⟨v,a,b⟩
 ·exact .inl ⟨AB h1 a,AB h2 b⟩
 ·exact .inr ⟨v,AB h1 a,AB h2 b⟩
theorem jl4(m:TOk t)(hs:s.sh t.r1.toNat (C t.fl) (C t.ws))(p:Alike t s px py):∀ (d:Nat) {i:Int},i+(d:Int)=(C s.bs:Int)->0<=i ->
  (Aa (.loop GI) (Dz t s lv px py xc false i) xZ8 (Dz t s lv px py xc false (C s.bs))/\Aa (.loop GK) (D1 t s lv px py xc false i) xZ8 (D1 t s lv px py xc false (C s.bs)))\/∃ v,Aa (.loop GI) (Dz t s lv px py xc false i) .ret (Dz t s lv px py xc true v)/\Aa (.loop GK) (D1 t s lv px py xc false i) .ret (D1 t s lv px py xc true v)
 | 0,i,h,h0=>by
  have e:i=(C s.bs:Int):=by omega
  subst e;exact .inl ⟨f (bV t s lv px py xc false _ (As (by omega))),f (dJ t s lv px py xc false _ (As (by omega)))⟩
 | d+1,i,h,h0=>by
  have E:=m.r1;have z:=hs;obtain⟨hb,H,_,I⟩:=z;have hi:i.toNat<C s.bs:=by omega
  have u:O D (i+1)=i+1:=A' (by omega) (by omega);have hr:=B7 (c:=cB) (k:=7) (fun _=>rfl) hi;have b:G (i<(C s.bs:Int))=true:=o (by omega);obtain⟨q,w,x⟩:=p.c4 _ (AF hi);have A:∀ j,j<7->Ad (R j (R (J i*7) (F cB s.bs))) 0 1 true=(cB s.bs[i.toNat])[j]? := fun j y=>Eo (c:=cB) (k:=7) (fun _=>rfl) hi y;have B:∀ j n,j+n<=7->Ad (R j (R (J i*7) (F cB s.bs))) 0 n false=some (M (((cB s.bs[i.toNat]).drop j).take n)):=fun j n y=>Nm (c:=cB) (k:=7) (fun _=>rfl) hi y;generalize s.bs[i.toNat]=e at hr w x A B;rcases Q (i != xc) with a | a
  ·rcases Q ((e.n 0) != 0) with g | g
   ·rcases Q (e.n 2==lv) with l | l
    ·rcases Q (q) with r | r
     ·exact .inr ⟨i,f (bM t s lv px py xc (false) i q e b a g l r ⟨by omega,by omega⟩ hr w),f (dD t s lv px py xc (false) i q e b a g l r ⟨by omega,by omega⟩ hr x)⟩
     ·have h1:=bP t s lv px py xc (false) i q e b a g l r ⟨by omega,by omega⟩ hr w;have h2:=dF t s lv px py xc (false) i q e b a g l r ⟨by omega,by omega⟩ hr x;rw[u] at h1 h2;exact rD h1 h2 (jl4 m hs p d (i:=i+1) (by omega) (by omega))
    ·have h1:=bQ t s lv px py xc (false) i e b a g l ⟨by omega,by omega⟩ hr;have h2:=dG t s lv px py xc (false) i e b a g l ⟨by omega,by omega⟩ hr;rw[u] at h1 h2;exact rD h1 h2 (jl4 m hs p d (i:=i+1) (by omega) (by omega))
   ·have h1:=bS t s lv px py xc (false) i e b a g ⟨by omega,by omega⟩ hr;have h2:=dH t s lv px py xc (false) i e b a g ⟨by omega,by omega⟩ hr;rw[u] at h1 h2;exact rD h1 h2 (jl4 m hs p d (i:=i+1) (by omega) (by omega))
  ·have h1:=bU t s lv px py xc (false) i e b a ⟨by omega,by omega⟩ hr;have h2:=dI t s lv px py xc (false) i e b a ⟨by omega,by omega⟩ hr;rw[u] at h1 h2;exact rD h1 h2 (jl4 m hs p d (i:=i+1) (by omega) (by omega))
theorem jb0(e:TOk t)(hs:s.sh t.r1.toNat (C t.fl) (C t.ws))(f:Alike t s px py){ra a:ICode}(h:∃ b,Aa ra (Hu t s lv px py xc false) .ret (Kf b)/\Aa a (Hv t s lv px py xc false) .ret (Kg b)) :
  ∃ b,Aa (.seq (.seq qQ (.block 0 (.loop GG))) ra) (Hu t s lv px py xc false) .ret (Kf b)/\Aa (.seq (.seq qW (.block 0 (.loop GJ))) a) (Hv t s lv px py xc false) .ret (Kg b):=by
 have c:=Aam t s lv px py xc false;have d:=Aat t s lv px py xc false;rcases jl0 (lv:=lv) (xc:=xc) e hs f (C t.ws) (i:=0) (by omega) (by omega) with ⟨x,y⟩ | ⟨v,x,y⟩
 ·obtain⟨b,p,q⟩:=h;exact⟨b,N (N c (w [2,4,5,6,8,10] (A0 x) (by kernel_rfl))) p,N (N d (w [2,4,5,6,8,10] (A0 y) (by kernel_rfl))) q⟩
 ·exact⟨true,m (N c (w [10] (AG x) (by kernel_rfl))),m (N d (w [10] (AG y) (by kernel_rfl)))⟩
theorem jb1(e:TOk t)(hs:s.sh t.r1.toNat (C t.fl) (C t.ws))(f:Alike t s px py){ra a:ICode}(h:∃ b,Aa ra (Hu t s lv px py xc false) .ret (Kf b)/\Aa a (Hv t s lv px py xc false) .ret (Kg b)) :
  ∃ b,Aa (.seq (.seq qR (.block 2 (.loop H7))) ra) (Hu t s lv px py xc false) .ret (Kf b)/\Aa (.seq (.seq qX (.block 2 (.loop HA))) a) (Hv t s lv px py xc false) .ret (Kg b):=by
 have c:=Aan t s lv px py xc false;have d:=Aau t s lv px py xc false;rcases jl1 (lv:=lv) (xc:=xc) e hs f (C t.ar) (i:=0) (by omega) (by omega) with ⟨x,y⟩ | ⟨v,x,y⟩
 ·obtain⟨b,p,q⟩:=h;exact⟨b,N (N c (w [2,4,5,6,8,10] (A0 x) (by kernel_rfl))) p,N (N d (w [2,4,5,6,8,10] (A0 y) (by kernel_rfl))) q⟩
 ·exact⟨true,m (N c (w [10] (AG x) (by kernel_rfl))),m (N d (w [10] (AG y) (by kernel_rfl)))⟩
theorem jb2(e:TOk t)(hs:s.sh t.r1.toNat (C t.fl) (C t.ws))(f:Alike t s px py){ra a:ICode}(h:∃ b,Aa ra (Hu t s lv px py xc false) .ret (Kf b)/\Aa a (Hv t s lv px py xc false) .ret (Kg b)) :
  ∃ b,Aa (.seq (.seq qS (.block 4 (.loop H8))) ra) (Hu t s lv px py xc false) .ret (Kf b)/\Aa (.seq (.seq qY (.block 4 (.loop HB))) a) (Hv t s lv px py xc false) .ret (Kg b):=by
 have c:=Aao t s lv px py xc false;have d:=Aav t s lv px py xc false;rcases jl2 (lv:=lv) (xc:=xc) e hs f (C t.po) (i:=0) (by omega) (by omega) with ⟨x,y⟩ | ⟨v,x,y⟩
 ·obtain⟨b,p,q⟩:=h;exact⟨b,N (N c (w [2,4,5,6,8,10] (A0 x) (by kernel_rfl))) p,N (N d (w [2,4,5,6,8,10] (A0 y) (by kernel_rfl))) q⟩
 ·exact⟨true,m (N c (w [10] (AG x) (by kernel_rfl))),m (N d (w [10] (AG y) (by kernel_rfl)))⟩
theorem jb3(e:TOk t)(hs:s.sh t.r1.toNat (C t.fl) (C t.ws))(f:Alike t s px py){ra a:ICode}(h:∃ b,Aa ra (Hu t s lv px py xc false) .ret (Kf b)/\Aa a (Hv t s lv px py xc false) .ret (Kg b)) :
  ∃ b,Aa (.seq (.seq qT (.block 6 (.loop H9))) ra) (Hu t s lv px py xc false) .ret (Kf b)/\Aa (.seq (.seq qZ (.block 6 (.loop HC))) a) (Hv t s lv px py xc false) .ret (Kg b):=by
 have c:=Aap t s lv px py xc false;have d:=Aaw t s lv px py xc false;rcases jl3 (lv:=lv) (xc:=xc) e hs f (C t.fl) (i:=0) (by omega) (by omega) with ⟨x,y⟩ | ⟨v,x,y⟩
 ·obtain⟨b,p,q⟩:=h;exact⟨b,N (N c (w [2,4,5,6,8,10] (A0 x) (by kernel_rfl))) p,N (N d (w [2,4,5,6,8,10] (A0 y) (by kernel_rfl))) q⟩
 ·exact⟨true,m (N c (w [10] (AG x) (by kernel_rfl))),m (N d (w [10] (AG y) (by kernel_rfl)))⟩
theorem jb4(e:TOk t)(hs:s.sh t.r1.toNat (C t.fl) (C t.ws))(f:Alike t s px py){ra a:ICode}(h:∃ b,Aa ra (Hu t s lv px py xc false) .ret (Kf b)/\Aa a (Hv t s lv px py xc false) .ret (Kg b)) :
  ∃ b,Aa (.seq (.seq qU (.block 8 (.loop GI))) ra) (Hu t s lv px py xc false) .ret (Kf b)/\Aa (.seq (.seq rA (.block 8 (.loop GK))) a) (Hv t s lv px py xc false) .ret (Kg b):=by
 have c:=Aaq t s lv px py xc false;have d:=Aax t s lv px py xc false;rcases jl4 (lv:=lv) (xc:=xc) e hs f (C s.bs) (i:=0) (by omega) (by omega) with ⟨x,y⟩ | ⟨v,x,y⟩
 ·obtain⟨b,p,q⟩:=h;exact⟨b,N (N c (w [2,4,5,6,8,10] (A0 x) (by kernel_rfl))) p,N (N d (w [2,4,5,6,8,10] (A0 y) (by kernel_rfl))) q⟩
 ·exact⟨true,m (N c (w [10] (AG x) (by kernel_rfl))),m (N d (w [10] (AG y) (by kernel_rfl)))⟩
theorem Asp(a:TOk t)(hs:s.sh t.r1.toNat (C t.fl) (C t.ws))(c:Alike t s px py):PY 16 17 [t.av,M s.cs,A D lv,M [A D px,A D py],A D xc] [t.av,M s.cs,A D lv,M [A D px,A D py],A D xc]:=by
 obtain⟨b,p,q⟩:=jb0 (lv:=lv) (xc:=xc) a hs c (jb1 a hs c (jb2 a hs c (jb3 a hs c (jb4 a hs c ⟨false,qV t s lv px py xc false,rB t s lv px py xc false⟩))));refine⟨b,B6 (fn:=iF g Tu) (s:=Kf b) (ex := .ret) rfl rfl ?_ (by nofun) rfl,B6 (fn:=iF g Tv) (s:=Kg b) (ex := .ret) rfl rfl ?_ (by nofun) rfl⟩
 ·rw[A3h];exact N (Aal t s lv px py xc) p
 ·rw[A3i];exact N (Aas t s lv px py xc) q
end
def TB0:Bx:=[]
theorem FF:Be CQ TB0:=Be.nil _
def rE:ICode:=Ca Aga 94 56
section
variable(N:Nat)(cs:u)
def PZ(n:Int):H:=Ab (E N cs)::V 1 (Av 1 0 []::vi n::V 18 [])
theorem A3n(n x:Int)(c1:G (n>0)=true)(c2:(x==0)=true)(a:0<=O D (n-1)/\O D (n-1)<(N:Int))(b:Ad (R (J (O D (n-1))*1) cs) 0 1 true=some (A Bd x)):Aa rE (PZ N cs n) .norm (PZ N cs (O D (n-1))):=Cs FF 300 [bT,.v (A Bd x),bT] RR (Fk c1 a b c2) (by kernel_rfl)
theorem A3o(n x:Int)(c1:G (n>0)=true)(c2:(x==0)=false)(a:0<=O D (n-1)/\O D (n-1)<(N:Int))(b:Ad (R (J (O D (n-1))*1) cs) 0 1 true=some (A Bd x)):Aa rE (PZ N cs n) xZ0 (PZ N cs n):=Cs FF 300 [bT,.v (A Bd x),Y] RR (Fk c1 a b c2) (by kernel_rfl)
theorem A3p(n:Int)(c1:G (n>0)=false):Aa rE (PZ N cs n) xZ0 (PZ N cs n):=Cs FF 300 [Y,Y] RR (Gd c1 iY) (by kernel_rfl)
end
theorem Asq(xs:LI)(d:C xs<=35184372088832):∀ m,m<=C xs->Aa (.loop rE) (PZ (C xs) (lm xs) m) xZ0 (PZ (C xs) (lm xs) (Cw xs m)):=by
 intro m;induction m with
 | zero =>
  intro _;exact f (A3p (C xs) (lm xs) ((0:Nat)) (by simp))
 | succ m c =>
  intro e;have a:O D ((m+1:Nat)-1)=(m:Int):=wrz
  have b:=KK (xs:=xs) (i:=m) (by omega);simp only[Cw];by_cases h0:L xs m 0=0
  ·rw[Ae h0];have h1:=A3n (C xs) (lm xs) ((m+1:Nat)) (L xs m 0) (by simp) (by rw[h0];rfl) (by rw[a];omega) (by rw[a,Aq];exact b);rw[a] at h1;exact AB h1 (c (by omega))
  ·rw[Al h0];exact f (A3o (C xs) (lm xs) ((m+1:Nat)) (L xs m 0) (by simp) (by simpa using h0) (by rw[a];omega) (by rw[a,Aq];exact b))
theorem JS{xs:LI}(c:C xs<=35184372088832):RQ 211 [y lm xs] (P 1 (C (l xs)) (lm (l xs))):=by
 have d:=Pu xs (C xs);have a:C (l xs)=Cw xs (C xs):=by simp[l];omega
 have hl:=Asq xs c (C xs) (Ay _);have e:0<=J (Cw xs (C xs))/\J (Cw xs (C xs))<=C xs/\C xs<=C xs/\(false=true->true=true):=by rw[Aq];exact⟨by omega,d,Ay _,fun h=>by cases h⟩
 have b:CN ((J (Cw xs (C xs))-0)*1) (R (0*1) (lm xs))=lm (l xs):=by
  rw[Aq];simp[lm,l,List.map_take]
 have i:C (CN ((J (Cw xs (C xs))-0)*1) (R (0*1) (lm xs)))=(J (Cw xs (C xs))-0)*1:=by
  rw[b,Ww,a,Aq];omega
 have j:(J (Cw xs (C xs))-0)<=35184372088832:=by rw[Aq];omega
 have:=B6 (prog:=CQ) (f:=211) (args:=[y lm xs]) (r := P 1 (J (Cw xs (C xs))-0) (CN ((J (Cw xs (C xs))-0)*1) (R (0*1) (lm xs)))) (fn:=iF g Aga) (s:=(Ab (y lm xs)::V 1 (Av 1 ((J (Cw xs (C xs)))-0) (CN (((J (Cw xs (C xs)))-0)*1) (R (0*1) (lm xs)))::vi (Cw xs (C xs):Int)::V 14 (Ab (y lm xs)::vi (Cw xs (C xs):Int)::Ab (E ((J (Cw xs (C xs)))-0) (CN (((J (Cw xs (C xs)))-0)*1) (R (0*1) (lm xs))))::V 1 [])))) (ex := .ret) rfl rfl
  (N (Da (t:=(Ab (y lm xs)::V 1 (Av 1 0 []::V 19 []))) (ex := .norm) (ps:=[]) FF 300 [] [0,2] (by kernel_rfl) trivial)
  (N (Da (t:=(Ab (y lm xs)::V 1 (Av 1 0 []::vi (C xs:Int)::V 18 []))) (ex := .norm) (ps:=[]) FF 300 [] RR (by kernel_rfl) trivial)
  (N (A0 hl)
  (Da (t:=(Ab (y lm xs)::V 1 (Av 1 ((J (Cw xs (C xs)))-0) (CN (((J (Cw xs (C xs)))-0)*1) (R (0*1) (lm xs)))::vi (Cw xs (C xs):Int)::V 14 (Ab (y lm xs)::vi (Cw xs (C xs):Int)::Ab (E ((J (Cw xs (C xs)))-0) (CN (((J (Cw xs (C xs)))-0)*1) (R (0*1) (lm xs))))::V 1 [])))) (ex := .ret) (ps:=[0<=(Cw xs (C xs):Int),0<=J (Cw xs (C xs))/\J (Cw xs (C xs))<=C xs/\C xs<=C xs/\(false=true->true=true),C (CN (((J (Cw xs (C xs)))-0)*1) (R (0*1) (lm xs)))=((J (Cw xs (C xs)))-0)*1,((J (Cw xs (C xs)))-0)<=35184372088832]) FF 300 [] [0,2,3,18,19,20] (by kernel_rfl) ⟨(Int.natCast_nonneg _),e,i,j,trivial⟩)))) (by nofun) rfl
 (first|rw[b,Aq,Wh,<- a] at this|(rw[b,Aq,Wh] at this;unfold y at this;rw[<- a] at this));exact this
def T_(neg:Bool)(xs:LI):AV :=
 match neg with
 | true=>(.frs (.st (G ((C (l xs):Int)>0))) 1 (C (l xs)) (lm (l xs)))
 | false=>(.frs (.st false) 1 (C (l xs)) (lm (l xs)))
theorem A3q(neg:Bool)(xs:LI)(a:C xs<=1048576):RQ 108 [I neg,y lm xs] (T_ neg xs):=by
 unfold T_;cases neg
 ·exact ALa FF rfl [.r (P 1 (C (l xs)) (lm (l xs))),Y] (Gd (show RQ 211 [y lm xs] (P 1 (C (l xs)) (lm (l xs))) from (JS (AA a (by decide)))) iY)
 ·exact ALa FF rfl [.r (P 1 (C (l xs)) (lm (l xs))),bT] (Gd (show RQ 211 [y lm xs] (P 1 (C (l xs)) (lm (l xs))) from (JS (AA a (by decide)))) EJ)
theorem Oe{neg:Bool}{xs:LI}(hu:E5 xs)(d:C xs<=1048576):RQ 108 [I neg,y lm xs] (IT (if neg then -AQ xs else AQ xs)):=by
 have h:=A3q neg xs d;have e:T_ neg xs=IT (if neg then -AQ xs else AQ xs):=by
  have f:=FY hu;have a:=UK hu;have g:C (l xs)=0↔AQ xs=0:=by
   rw[a,XO,Sw];omega
  cases neg with
  | false =>
   have b:A6 (AQ xs)=(AQ xs).toNat:=by omega
   have c:decide (AQ xs<0)=false:=by simp;omega
   simp only[T_,IT,AC,if_false,b,c,a]
  | true =>
   have b:A6 (-AQ xs)=(AQ xs).toNat:=by omega
   have c:decide ((C (l xs):Int)>0)=decide (-AQ xs<0):=by
    rw[decide_eq_decide];omega
   simp only[T_,IT,if_true,b,c,<- a]
 rw[<- e];exact h
theorem mH{u:Int}(h:0<=u/\u<18446744073709551616):E5 [O Bd u,O Bd (BA u (2^(min (J 32) (Co .u64))))]/\AQ [O Bd u,O Bd (BA u (2^(min (J 32) (Co .u64))))]=u:=by
 have e:BA u (2^(min (J 32) (Co .u64)))=u / 4294967296:=by
  show BA u 4294967296=_;rw[Gh _ (by omega)]
 rw[e,RU,RU];refine⟨fun x a => ?_,?_⟩
 ·simp only[Aw,A3,or_false] at a;rcases a with rfl | rfl <;> omega
 ·simp only[AQ];omega
theorem Asr(n:Int)(c1:decide (n<0)=true)(a:RQ 108 [I (G (n<0)),E 2 [A Bd (O Bd (O Ba (0-(O Ba n)))),A Bd (O Bd (BA (O Ba (0-(O Ba n))) (2^(min (J 32) (Co .u64)))))]] (.frs (.st (G (n<0))) 1 (C (q (A6 n))) (lm (q (A6 n))))):RQ 33 [A D n] (M [I (G (n<0)),y lm (q (A6 n))]):=k (ps:=[G (n<0)=true,¬ (32:Int)<0,RQ 108 [I (G (n<0)),E 2 [A Bd (O Bd (O Ba (0-(O Ba n)))),A Bd (O Bd (BA (O Ba (0-(O Ba n))) (2^(min (J 32) (Co .u64)))))]] (.frs (.st (G (n<0))) 1 (C (q (A6 n))) (lm (q (A6 n))))]) FF rfl 300 rfl [bT,.r (.frs (.st (G (n<0))) 1 (C (q (A6 n))) (lm (q (A6 n))))] (by kernel_rfl) ⟨c1,(by decide),a,trivial⟩
theorem Ass(n:Int)(c1:decide (n<0)=false)(a:RQ 108 [I (G (n<0)),E 2 [A Bd (O Bd (O Ba n)),A Bd (O Bd (BA (O Ba n) (2^(min (J 32) (Co .u64)))))]] (.frs (.st (G (n<0))) 1 (C (q (A6 n))) (lm (q (A6 n))))):RQ 33 [A D n] (M [I (G (n<0)),y lm (q (A6 n))]):=k (ps:=[G (n<0)=false,¬ (32:Int)<0,RQ 108 [I (G (n<0)),E 2 [A Bd (O Bd (O Ba n)),A Bd (O Bd (BA (O Ba n) (2^(min (J 32) (Co .u64)))))]] (.frs (.st (G (n<0))) 1 (C (q (A6 n))) (lm (q (A6 n))))]) FF rfl 300 rfl [Y,.r (.frs (.st (G (n<0))) 1 (C (q (A6 n))) (lm (q (A6 n))))] (by kernel_rfl) ⟨c1,(by decide),a,trivial⟩
theorem LV{n:Int}(hn : -9223372036854775808<=n/\n<=9223372036854775807):RQ 33 [A D n] (BL n):=by
 cases c1:decide (n<0) with
 | true =>
  have h0:n<0:=by simpa using c1
  have a:O Ba (0-O Ba n) = -n:=by rw[Fi,Fi];omega
  obtain⟨b,c⟩:=mH (u:=O Ba (0-O Ba n)) (by rw[a];omega);refine Asr n c1 ?_;have:=Oe (neg:=true) b (by simp);have e:(if true=true then -AQ [O Bd (O Ba (0-O Ba n)),O Bd (BA (O Ba (0-O Ba n)) (2^(min (J 32) (Co .u64))))] else AQ [O Bd (O Ba (0-O Ba n)),O Bd (BA (O Ba (0-O Ba n)) (2^(min (J 32) (Co .u64))))])=n:=by
   rw[c,Ae rfl,a];omega
  rw[e,IT,c1] at this;rw[c1];exact this
 | false =>
  have h0:¬ n<0:=by simpa using c1
  have a:O Ba n=n:=by rw[Fi];omega
  obtain⟨b,c⟩:=mH (u:=O Ba n) (by rw[a];omega);refine Ass n c1 ?_;have:=Oe (neg:=false) b (by simp);have e:(if false=true then -AQ [O Bd (O Ba n),O Bd (BA (O Ba n) (2^(min (J 32) (Co .u64))))] else AQ [O Bd (O Ba n),O Bd (BA (O Ba n) (2^(min (J 32) (Co .u64))))])=n:=by
   rw[Al (by decide),c,a]
  rw[e,IT,c1] at this;rw[c1];exact this
def TBA:Bx:=TB0
theorem CE:Be CQ TBA:=FF
def P':ICode:=Ca oR 93 116
section
variable(N:Nat)(cs:u)(M:Nat)(a:u)
def HP(v i:Int):H:=Ab (E N cs)::Ab (E M a)::V 2 (vi v::vi i::V 35 [])
theorem A3r(v i x y:Int)(c1:G (i>=0)=true)(c2:(x != y)=true)(c3:G (x<y)=true)(b:0<=i/\i<N)(c:Ad (R (J i*1) cs) 0 1 true=some (A Bd x))(d:0<=i/\i<M)(e:Ad (R (J i*1) a) 0 1 true=some (A Bd y))(f:0<=i/\i<N)(g:Ad (R (J i*1) cs) 0 1 true=some (A Bd x))(h:0<=i/\i<M)(j:Ad (R (J i*1) a) 0 1 true=some (A Bd y)):Aa P' (HP N cs M a v i) .ret (HP N cs M a (-1) i):=Cs CE 300 [bT,.v (A Bd x),.v (A Bd y),bT,.v (A Bd x),.v (A Bd y),bT] nJ (G3 c1 b c d e c2 f g h j c3) (by kernel_rfl)
theorem A3s(v i x y:Int)(c1:G (i>=0)=true)(c2:(x != y)=true)(c3:G (x<y)=false)(b:0<=i/\i<N)(c:Ad (R (J i*1) cs) 0 1 true=some (A Bd x))(d:0<=i/\i<M)(e:Ad (R (J i*1) a) 0 1 true=some (A Bd y))(f:0<=i/\i<N)(g:Ad (R (J i*1) cs) 0 1 true=some (A Bd x))(h:0<=i/\i<M)(j:Ad (R (J i*1) a) 0 1 true=some (A Bd y)):Aa P' (HP N cs M a v i) .ret (HP N cs M a 1 i):=Cs CE 300 [bT,.v (A Bd x),.v (A Bd y),bT,.v (A Bd x),.v (A Bd y),Y] nJ (G3 c1 b c d e c2 f g h j c3) (by kernel_rfl)
theorem A3t(v i x y:Int)(c1:G (i>=0)=true)(c2:(x != y)=false)(b:0<=i/\i<N)(c:Ad (R (J i*1) cs) 0 1 true=some (A Bd x))(d:0<=i/\i<M)(e:Ad (R (J i*1) a) 0 1 true=some (A Bd y)):Aa P' (HP N cs M a v i) .norm (HP N cs M a v (O D (i-1))):=Cs CE 300 [bT,.v (A Bd x),.v (A Bd y),Y] nJ (EP c1 b c d e c2) (by kernel_rfl)
theorem A3u(v i:Int)(c1:G (i>=0)=false):Aa P' (HP N cs M a v i) xZ0 (HP N cs M a v i):=Cs CE 300 [Y] nJ (Bc c1) (by kernel_rfl)
end
def F5(a b:Int):Int:=if a<b then -1 else if b<a then 1 else 0
def Gi(n:Int):Int:=if n<0 then -1 else if 0<n then 1 else 0
def P_(xs a:LI):Nat->Int
 | 0=>0
 | m+1=>if L xs m 0=L a m 0 then P_ xs a m else if L xs m 0<L a m 0 then -1 else 1
theorem Qa(xs:LI)(m:Nat)(h:m<C xs):AQ (xs.take (m+1))=AQ (xs.take m)+4294967296^m*L xs m 0:=by
 rw[AJm,Af h,ACa,NR];have:C (xs.take m)=m:=by simp;omega
 rw[this];simp[AQ,Z,Af h]
theorem mI{A B x y P:Int}(a:0<=A/\A<P)(b:0<=B/\B<P)(h:x<y):A+P*x<B+P*y:=by
 have:=C' (show x+1<=y by omega) (show 0<=P by omega);rw[IJ,Aer] at this;omega
theorem Ast{xs a:LI}(k:E5 xs)(l:E5 a):∀ m,m<=C xs->m<=C a->P_ xs a m=F5 (AQ (xs.take m)) (AQ (a.take m)):=by
 intro m;induction m with
 | zero=>intro _ _;simp[P_,F5,AQ]
 | succ m n =>
  intro h1 h2;simp only[P_];rw[Qa xs m (by omega),Qa a m (by omega)];have f:E5 (xs.take m):=fun x b=>k x (BC b);have g:E5 (a.take m):=fun x b=>l x (BC b);have i:=FY f;have c:=KU f;have j:=FY g;have d:=KU g;rw[show C (xs.take m)=m by simp;omega] at c;rw[show C (a.take m)=m by simp;omega] at d;by_cases h:L xs m 0=L a m 0
  ·rw[Ae h,n (by omega) (by omega),h];unfold F5;congr 1
   ·rw[eq_iff_iff];omega
   ·congr 1;rw[eq_iff_iff];omega
  ·rw[Al h];by_cases e:L xs m 0<L a m 0
   ·rw[Ae e];have:=mI ⟨i,c⟩ ⟨j,d⟩ e;unfold F5;rw[Ae this]
   ·rw[Al e];have:=mI ⟨j,d⟩ ⟨i,c⟩ (show L a m 0<L xs m 0 by omega);unfold F5;rw[Al (by omega),Ae this]
theorem Asu(xs a:LI)(n:C xs<=1048576)(hl:C xs=C a):∀ m,m<=C xs ->
  (P_ xs a m=0/\Aa (.loop P') (HP (C xs) (lm xs) (C a) (lm a) 0 (m-1)) xZ0 (HP (C xs) (lm xs) (C a) (lm a) 0 (-1))) \/
  (P_ xs a m ≠ 0/\∃ j,Aa (.loop P') (HP (C xs) (lm xs) (C a) (lm a) 0 (m-1)) .ret (HP (C xs) (lm xs) (C a) (lm a) (P_ xs a m) j)):=by
 intro m;induction m with
 | zero =>
  intro _;left;refine⟨rfl,?_⟩;exact f (A3u (C xs) (lm xs) (C a) (lm a) 0 ((0:Nat)-1) (by simp))
 | succ m k =>
  intro o;have e0:((m+1:Nat):Int)-1=(m:Int):=by omega
  have l:O D (m-1)=(m:Int)-1:=A' (by omega) (by omega);have b:=KK (xs:=xs) (i:=m) (by omega);have c:=KK (xs:=a) (i:=m) (by omega);rw[e0];simp only[P_];by_cases h:L xs m 0=L a m 0
  ·rw[Ae h];have h1:=A3t (C xs) (lm xs) (C a) (lm a) 0 m (L xs m 0) (L a m 0) (by simp) (by simpa using h) (by omega) (by rw[Aq];exact b) (by omega) (by rw[Aq];exact c);rw[l] at h1;rcases k (by omega) with ⟨e,g⟩ | ⟨e,j,g⟩
   ·exact .inl ⟨e,AB h1 g⟩
   ·exact .inr ⟨e,j,AB h1 g⟩
  ·rw[Al h];right;by_cases d:L xs m 0<L a m 0
   ·rw[Ae d];refine⟨by decide,(m:Int),?_⟩;exact f (A3r (C xs) (lm xs) (C a) (lm a) 0 m (L xs m 0) (L a m 0) (by simp) (by simpa using h) (by simpa using d) (by omega) (by rw[Aq];exact b) (by omega) (by rw[Aq];exact c) (by omega) (by rw[Aq];exact b) (by omega) (by rw[Aq];exact c))
   ·rw[Al d];refine⟨by decide,(m:Int),?_⟩;exact f (A3s (C xs) (lm xs) (C a) (lm a) 0 m (L xs m 0) (L a m 0) (by simp) (by simpa using h) (by simpa using d) (by omega) (by rw[Aq];exact b) (by omega) (by rw[Aq];exact c) (by omega) (by rw[Aq];exact b) (by omega) (by rw[Aq];exact c))
section
variable(xs a:LI)
theorem Aba(h:((C xs:Int) != (C a:Int))=true)(h2:G ((C xs:Int)<(C a:Int))=true):RQ 227 [y lm xs,y lm a] (A D (-1)):=k (ps:=[((C xs:Int) != (C a:Int))=true,G ((C xs:Int)<(C a:Int))=true]) CE rfl 300 rfl [bT,bT] (by kernel_rfl) ⟨h,h2,trivial⟩
theorem Abb(h:((C xs:Int) != (C a:Int))=true)(h2:G ((C xs:Int)<(C a:Int))=false):RQ 227 [y lm xs,y lm a] (A D 1):=k (ps:=[((C xs:Int) != (C a:Int))=true,G ((C xs:Int)<(C a:Int))=false]) CE rfl 300 rfl [bT,Y] (by kernel_rfl) ⟨h,h2,trivial⟩
theorem Abc(h:((C xs:Int) != (C a:Int))=false)(hl:Aa (.loop P') (HP (C xs) (lm xs) (C a) (lm a) 0 (O D (C xs-1))) xZ0 (HP (C xs) (lm xs) (C a) (lm a) 0 (-1))):RQ 227 [y lm xs,y lm a] (A D 0):=K4 oR (Ab (y lm xs)::Ab (y lm a)::V 2 (vi 0::vi (-1)::V 35 [])) (N (Cs (t:=(vl xs::vl a::V 2 (vi 0::V 36 []))) CE 300 [] [0,1,4] a0) (N (Cs (t:=(vl xs::vl a::V 2 (vi 0::V 1 (vl xs::vi (C xs:Int)::vl a::vi (C a:Int)::Ab (I ((C xs:Int) != (C a:Int)))::V 30 [])))) CE 300 [Y] [0,1,4,6,7,8,9,10] (Bc h)) (N (N (Cs (t:=(vl xs::vl a::V 2 (vi 0::vi (O D (C xs-1))::V 35 []))) CE 300 [] nJ a0) (A0 hl)) (Cs (t:=(vl xs::vl a::V 2 (vi 0::vi (-1)::V 35 []))) (ex := .ret) CE 300 [] nJ a0))))
theorem Abd(r j:Int)(h:((C xs:Int) != (C a:Int))=false)(hl:Aa (.loop P') (HP (C xs) (lm xs) (C a) (lm a) 0 (O D (C xs-1))) .ret (HP (C xs) (lm xs) (C a) (lm a) r j)):RQ 227 [y lm xs,y lm a] (A D r):=K4 oR (Ab (y lm xs)::Ab (y lm a)::V 2 (vi r::vi j::V 35 [])) (N (Cs (t:=(vl xs::vl a::V 2 (vi 0::V 36 []))) CE 300 [] [0,1,4] a0) (N (Cs (t:=(vl xs::vl a::V 2 (vi 0::V 1 (vl xs::vi (C xs:Int)::vl a::vi (C a:Int)::Ab (I ((C xs:Int) != (C a:Int)))::V 30 [])))) CE 300 [Y] [0,1,4,6,7,8,9,10] (Bc h)) (m (N (Cs (t:=(vl xs::vl a::V 2 (vi 0::vi (O D (C xs-1))::V 35 []))) CE 300 [] nJ a0) (AG hl)))))
end
theorem mJ{xs a:LI}(b:Iv xs)(c:Iv a)(h:C xs<C a):AQ xs<AQ a:=by
 have h1:=KU b.1;have h2:=UL c (by intro e;rw[e] at h;simp at h);have:=Wx (show C xs<=C a-1 by omega);omega
theorem Qb{xs a:LI}(b:Iv xs)(c:Iv a)(k:C xs<=1048576):RQ 227 [y lm xs,y lm a] (A D (F5 (AQ xs) (AQ a))):=by
 by_cases hl:C xs=C a
 ·have h:((C xs:Int) != (C a:Int))=false:=by rw[hl];simp
  have d:=Ast b.1 c.1 (C xs) (Ay _) (by omega);rw[nI,hl,nI,<- hl] at d;have g:O D (C xs-1)=(C xs:Int)-1:=A' (by omega) (by omega);rcases Asu xs a k hl (C xs) (Ay _) with ⟨i,f⟩ | ⟨i,j,f⟩
  ·rw[<- d,i];exact Abc xs a h (by rw[g];exact f)
  ·rw[<- d];exact Abd xs a _ j h (by rw[g];exact f)
 ·have h:((C xs:Int) != (C a:Int))=true:=by simp;omega
  by_cases l:C xs<C a
  ·have e:F5 (AQ xs) (AQ a) = -1:=by unfold F5;rw[Ae (mJ b c l)]
   rw[e];exact Aba xs a h (by simp;omega)
  ·have:=mJ c b (by omega);have e:F5 (AQ xs) (AQ a)=1:=by unfold F5;rw[Al (by omega),Ae this]
   rw[e];exact Abb xs a h (by simp;omega)
theorem rF(n:Nat):l (q n)=q n:=by
 have:=UK (ES n).1;rw[this,Hl,Aq]
theorem GL{n:Nat}(a:C (q n)<=1048576):RQ 211 [y lm (q n)] (P 1 (C (q n)) (lm (q n))):=by
 have:=JS (AA a (by decide));rwa [rF] at this
section
variable(neg:Bool)(m:Nat)
def X2:AV :=
 match (C (q m):Int)==0 with
 | true=>(A D 0)
 | false=>(match neg with
 | true=>(A D (-1))
 | false=>A D 1)
theorem A3v(a:C (q m)<=1048576):RQ 153 [M [I neg,y lm (q m)]] (X2 neg m):=by
 unfold X2;cases c1:((C (q m):Int)==0)
 ·cases neg
  ·exact ALa CE rfl [.r (P 1 (C (q m)) (lm (q m))),Y,Y] (Fa (show RQ 211 [y lm (q m)] (P 1 (C (q m)) (lm (q m))) from (GL a)) c1 iY)
  ·exact ALa CE rfl [.r (P 1 (C (q m)) (lm (q m))),Y,bT] (Fa (show RQ 211 [y lm (q m)] (P 1 (C (q m)) (lm (q m))) from (GL a)) c1 EJ)
 ·exact ALa CE rfl [.r (P 1 (C (q m)) (lm (q m))),bT] (Gd (show RQ 211 [y lm (q m)] (P 1 (C (q m)) (lm (q m))) from (GL a)) c1)
def Dm:Int:=if m=0 then 0 else if neg then -1 else 1
end
theorem ID{neg:Bool}{m:Nat}(b:C (q m)<=1048576):RQ 153 [M [I neg,y lm (q m)]] (A D (Dm neg m)):=by
 have h:=A3v neg m b;have e:X2 neg m = A D (Dm neg m):=by
  unfold X2 Dm;have c:C (q m)=0↔m=0:=by rw[XO,Sw]
  by_cases h0:m=0
  ·have a:((C (q m):Int)==0)=true:=by rw[AM];omega
   rw[a,Ae h0]
  ·have a:((C (q m):Int)==0)=false:=by rw[z];omega
   rw[a,Al h0];cases neg <;> rfl
 rw[<- e];exact h
theorem Abe(n:Int):Dm (G (n<0)) (A6 n)=Gi n:=by
 unfold Dm Gi;by_cases h0:n=0
 ·subst h0;rfl
 ·rw[Al (by omega)];by_cases h1:n<0
  ·simp[h1]
  ·have h2:0<n:=by omega
   simp[h1,h2]
section
variable(na:Bool)(a:Nat)(nb:Bool)(b:Nat)
def X3:AV :=
 match decide (Dm na a<Dm nb b) with
 | true=>(A D (-1))
 | false=>(match decide (Dm na a>Dm nb b) with
 | true=>(A D 1)
 | false=>(match decide (Dm na a<0) with
 | true=>(A D (O D (0-(F5 (AQ (q a)) (AQ (q b))))))
 | false=>A D (F5 (AQ (q a)) (AQ (q b)))))
theorem A3w(c:C (q a)<=1048576)(hb:C (q b)<=1048576):RQ 142 [M [I na,y lm (q a)],M [I nb,y lm (q b)]] (X3 na a nb b):=by
 unfold X3;cases c1:(G (Dm na a<Dm nb b))
 ·cases c2:(G (Dm na a>Dm nb b))
  ·cases c3:(G (Dm na a<0))
   ·exact ALa CE rfl [.r (A D (Dm na a)),.r (A D (Dm nb b)),Y,Y,.r (P 1 (C (q a)) (lm (q a))),.r (P 1 (C (q b)) (lm (q b))),.r (A D (F5 (AQ (q a)) (AQ (q b)))),Y] (EQ (show RQ 153 [M [I na,y lm (q a)]] (A D (Dm na a)) from (ID c)) (show RQ 153 [M [I nb,y lm (q b)]] (A D (Dm nb b)) from (ID hb)) c1 c2 (show RQ 211 [y lm (q a)] (P 1 (C (q a)) (lm (q a))) from (GL c)) (show RQ 211 [y lm (q b)] (P 1 (C (q b)) (lm (q b))) from (GL hb)) (show RQ 227 [y lm (q a),y lm (q b)] (A D (F5 (AQ (q a)) (AQ (q b)))) from (Qb (ES _) (ES _) c)) c3)
   ·exact ALa CE rfl [.r (A D (Dm na a)),.r (A D (Dm nb b)),Y,Y,.r (P 1 (C (q a)) (lm (q a))),.r (P 1 (C (q b)) (lm (q b))),.r (A D (F5 (AQ (q a)) (AQ (q b)))),bT] (EQ (show RQ 153 [M [I na,y lm (q a)]] (A D (Dm na a)) from (ID c)) (show RQ 153 [M [I nb,y lm (q b)]] (A D (Dm nb b)) from (ID hb)) c1 c2 (show RQ 211 [y lm (q a)] (P 1 (C (q a)) (lm (q a))) from (GL c)) (show RQ 211 [y lm (q b)] (P 1 (C (q b)) (lm (q b))) from (GL hb)) (show RQ 227 [y lm (q a),y lm (q b)] (A D (F5 (AQ (q a)) (AQ (q b)))) from (Qb (ES _) (ES _) c)) c3)
  ·exact ALa CE rfl [.r (A D (Dm na a)),.r (A D (Dm nb b)),Y,bT] (Fk (show RQ 153 [M [I na,y lm (q a)]] (A D (Dm na a)) from (ID c)) (show RQ 153 [M [I nb,y lm (q b)]] (A D (Dm nb b)) from (ID hb)) c1 c2)
 ·exact ALa CE rfl [.r (A D (Dm na a)),.r (A D (Dm nb b)),bT] (Fa (show RQ 153 [M [I na,y lm (q a)]] (A D (Dm na a)) from (ID c)) (show RQ 153 [M [I nb,y lm (q b)]] (A D (Dm nb b)) from (ID hb)) c1)
end
theorem A3x{a b:Int}(f:C (q (A6 a))<=1048576)(hb:C (q (A6 b))<=1048576):RQ 142 [BL a,BL b] (A D (F5 a b)):=by
 have h:=A3w (G (a<0)) (A6 a) (G (b<0)) (A6 b) f hb;have e:X3 (G (a<0)) (A6 a) (G (b<0)) (A6 b) = A D (F5 a b):=by
  unfold X3;rw[Hl,Hl,Abe,Abe];have hr : -1<=F5 (A6 a) (A6 b)/\F5 (A6 a) (A6 b)<=1:=by unfold F5;split <;> (try split) <;> omega
  rw[wqz];have sa:(Gi a = -1/\a<0)\/(Gi a=0/\a=0)\/(Gi a=1/\0<a):=by unfold Gi;split <;> (try split) <;> omega
  have g:(Gi b = -1/\b<0)\/(Gi b=0/\b=0)\/(Gi b=1/\0<b):=by unfold Gi;split <;> (try split) <;> omega
  rcases sa with ⟨c,ca⟩ | ⟨c,ca⟩ | ⟨c,ca⟩ <;> rcases g with ⟨d,cb⟩ | ⟨d,cb⟩ | ⟨d,cb⟩ <;> rw[c,d] <;> unfold F5;all_goals (simp only[Int.reduceLT,Int.reduceNeg,gt_iff_lt,decide_true,decide_false,Int.lt_irrefl])
  all_goals (congr 1; (repeat' split) <;> omega)
 rw[<- e];exact h
def TBB:Bx:=TBA
theorem E0:Be CQ TBB:=CE
def X4:ICode:=Ca oS 93 116
def X5:ICode:=Ca oS 85 29844
section
variable(la:Nat)(b:u)(a:Nat)(bs:u)(n:Nat)
def LW(cs:u)(i:Int):H:=Ab (E la b)::Ab (E a bs)::V 2 (Av 1 0 []::Av 1 n cs::vi i::V 59 [])
def LX(cs:u)(i c k:Int):H:=Ab (E la b)::Ab (E a bs)::V 2 (Av 1 0 []::Av 1 n cs::vi i::Ab (A Ba c)::vi k::V 57 [])
theorem Asv(cs d:u)(i c k x y z:Int)(c1:G (k<a)=true)(e:0<=O D (i+k)/\O D (i+k)<(n:Int))(f:Ad cs (J (O D (i+k))*1) 1 true=some (A Bd z))(g:0<=i/\i<la)(j:Ad (R (J i*1) b) 0 1 true=some (A Bd x))(m:0<=k/\k<a)(o:Ad (R (J k*1) bs) 0 1 true=some (A Bd y))(p:0<=O D (i+k)/\O D (i+k)<(n:Int))(q:Cg cs (J (O D (i+k))*1) [A Bd (O Bd (O Ba (c+O Ba (O Ba z+O Ba (O Ba x*O Ba y)))))]=some d):Aa X5 (LX la b a bs n cs i c k) .norm (LX la b a bs n d i (BA (O Ba (c+O Ba (O Ba z+O Ba (O Ba x*O Ba y)))) (2^(min (J 32) (Co .u64)))) (O D (k+1))):=Cs E0 300 [bT,.v (A Bd z),.v (A Bd x),.v (A Bd y),.l d] [0,1,4,5,6,7,8] (Fm c1 e f g j m o p q NO) (by kernel_rfl)
theorem Asw(cs:u)(i c k:Int)(c1:G (k<a)=false):Aa X5 (LX la b a bs n cs i c k) xZ2 (LX la b a bs n cs i c k):=Cs E0 300 [Y] [0,1,4,5,6,7,8] (Bc c1) (by kernel_rfl)
theorem Ahq(cs:u)(i:Int)(h:G (i<la)=false):Aa X4 (LW la b a bs n cs i) xZ0 (LW la b a bs n cs i):=Cs E0 300 [Y] Yy (Bc (show (G (i<(la:Int)))=false from h)) (by kernel_rfl)
theorem Abf(cs d es:u)(i c k:Int)(h:G (i<la)=true)(hl:Aa (.loop X5) (LX la b a bs n cs i 0 0) xZ2 (LX la b a bs n d i c k))(r:0<=O D (i+a)/\O D (i+a)<(n:Int))(s:Cg d (J (O D (i+a))*1) [A Bd (O Bd c)]=some es):Aa X4 (LW la b a bs n cs i) .norm (LW la b a bs n es (O D (i+1))):=N (Cs (t:=(Ab (E la b)::Ab (E a bs)::V 2 (Av 1 0 []::Av 1 n cs::vi i::V 8 (vi i::Ab (E la b)::vi (la:Int)::Ab (I (G (i<(la:Int))))::V 47 [])))) E0 300 [bT] [0,1,4,5,6,15,16,17,18] (Bc (show (G (i<(la:Int)))=true from h))) (N (x (N (Cs (t:=(Ab (E la b)::Ab (E a bs)::V 2 (Av 1 0 []::Av 1 n cs::vi i::Ab (A Ba 0)::V 7 (vi i::Ab (E la b)::vi (la:Int)::Ab (I (G (i<(la:Int))))::V 47 [])))) E0 300 [] [0,1,4,5,6,7,15,16,17,18] a0) (N (N (Cs (t:=(Ab (E la b)::Ab (E a bs)::V 2 (Av 1 0 []::Av 1 n cs::vi i::Ab (A Ba 0)::vi 0::V 57 []))) E0 300 [] [0,1,4,5,6,7,8] a0) (A0 hl)) (Cs (t:=(Ab (E la b)::Ab (E a bs)::V 2 (Av 1 0 []::Av 1 n es::vi i::Ab (A Ba c)::vi k::V 48 (.dup 5::vi i::Ab (E a bs)::vi (a:Int)::vi (O D (i+a))::Ab (A Ba c)::Ab (A Bd (O Bd c))::.ptr 5 (J (O D (i+a))*1)::V 1 [])))) E0 300 [.l es] [0,1,4,5,6,7,8,57,58,59,60,61,62,63,64] (Gd r s))))) (Cs (t:=(Ab (E la b)::Ab (E a bs)::V 2 (Av 1 0 []::Av 1 n es::vi (O D (i+1))::V 59 []))) E0 300 [] Yy a0))
end
def Jz(a:Int)(bs:LI)(i:Nat):Nat->Nat->LI->Int->LI × Int
 | 0,_,out,c=>(out,c)
 | r+1,k,out,c=>Jz a bs i r (k+1) (out.set (i+k) ((c+(L out (i+k) 0+a*L bs k 0)) % 4294967296)) ((c+(L out (i+k) 0+a*L bs k 0)) / 4294967296)
theorem Abg{a b c o:Int}(d:0<=a/\a<4294967296)(hb:0<=b/\b<4294967296)(hc:0<=c/\c<4294967296)(ho:0<=o/\o<4294967296) :
  0<=a*b/\a*b<=18446744065119617025/\0<=c+(o+a*b)/\c+(o+a*b)<18446744073709551616:=by
 have h1:=FS d.1 hb.1;have h2:a*b<=4294967295*4294967295:=J4 (by omega) (by omega) hb.1 (by omega);omega
theorem Ua{xs:LI}{i j:Nat}{v:Int}(h:i ≠ j):L (xs.set i v) j 0=L xs j 0:=by
 simp only[Z,DX h]
theorem Asx{a:Int}{bs:LI}{i:Nat}(d:0<=a/\a<4294967296)(hb:E5 bs):∀ (r k:Nat) (out:LI) (c:Int),r+k=C bs->i+C bs<=C out->E5 out->0<=c/\c<4294967296 ->
  C (Jz a bs i r k out c).1=C out/\E5 (Jz a bs i r k out c).1/\(0<=(Jz a bs i r k out c).2/\(Jz a bs i r k out c).2<4294967296) /\
  AQ (Jz a bs i r k out c).1+4294967296^(i+C bs)*(Jz a bs i r k out c).2=AQ out+4294967296^(i+k)*(c+a*AQ (bs.drop k)) /\
  ∀ j,i+C bs<=j->L (Jz a bs i r k out c).1 j 0=L out j 0:=by
 intro r;induction r with
 | zero =>
  intro k out c e _ hu hc;have f:k=C bs:=by omega
  subst f;refine⟨rfl,hu,hc,?_,fun _ _=>rfl⟩;simp[Jz,AQ]
 | succ r g =>
  intro k out c e hl hu hc;have h:=GT hb k;have l:=GT hu (i+k);obtain⟨D,E,F,G⟩:=Abg d h hc l;have n:i+k<C out:=by omega
  simp only[Jz];generalize H:c+(L out (i+k) 0+a*L bs k 0)=W at *
  have s:0<=W % 4294967296/\W % 4294967296<4294967296:=by omega
  obtain⟨t,u,v,w,x⟩:=g (k+1) (out.set (i+k) (W % 4294967296)) (W / 4294967296) (by omega) (by simpa using hl) (YA hu s) (by omega);refine⟨by simpa using t,u,v,?_,fun j y => ?_⟩
  ·rw[w,lP out (i+k) _ n];have hd:AQ (bs.drop k)=L bs k 0+4294967296*AQ (bs.drop (k+1)):=by
    rw[ET (show k<C bs by omega)];simp[AQ,Z,Af (show k<C bs by omega)]
   rw[hd];have z:(4294967296:Int)^(i+(k+1))=4294967296^(i+k)*4294967296:=by rw[<- DC,FL]
   rw[z];generalize (4294967296:Int)^(i+k)=p at *
   generalize AQ (bs.drop (k+1))=V at *
   have A:W=4294967296*(W / 4294967296)+W % 4294967296:=by omega
   have B:c=W-L out (i+k) 0-a*L bs k 0:=by omega
   rw[B];generalize W / 4294967296=q at *
   generalize W % 4294967296=m at *
   generalize L out (i+k) 0=o at *
   generalize L bs k 0=b at *
   subst A;grind
  ·rw[x j y,Ua (by omega)]
theorem Ahr(a bs:LI)(e:E5 a)(hb:E5 bs)(n i:Nat)(hn:n<=1048576)(hi:i<C a)(A:i+C bs<=n):∀ (r k:Nat) (out:LI) (c:Int),r+k=C bs->C out=n->E5 out->0<=c/\c<4294967296 ->
  Aa (.loop X5) (LX (C a) (lm a) (C bs) (lm bs) n (lm out) i c k) xZ2
   (LX (C a) (lm a) (C bs) (lm bs) n (lm (Jz (L a i 0) bs i r k out c).1) i (Jz (L a i 0) bs i r k out c).2 (C bs)):=by
 intro r;induction r with
 | zero =>
  intro k out c g _ _ _;have h:k=C bs:=by omega
  subst h;exact f (Asw (C a) (lm a) (C bs) (lm bs) n (lm out) i c (C bs) (by simp))
 | succ r j =>
  intro k out c g hl hu hc;have l:=GT e i;have m:=GT hb k;have o:=GT hu (i+k);obtain⟨B,E,F,G⟩:=Abg l m hc o;have b:O D (i+k)=((i+k:Nat):Int):=wrz
  have p:O D (k+1)=((k+1:Nat):Int):=wrz
  have q:=Ayv (xs:=out) (i:=i+k) (by omega);have s:=KK (xs:=a) (i:=i) hi;have t:=KK (xs:=bs) (i:=k) (by omega);have u:=xA (xs:=out) (i:=i+k) (v:=(c+(L out (i+k) 0+L a i 0*L bs k 0)) % 4294967296) (by omega);have d:O Ba (c+O Ba (O Ba (L out (i+k) 0)+O Ba (O Ba (L a i 0)*O Ba (L bs k 0))))=c+(L out (i+k) 0+L a i 0*L bs k 0):=by
   have w:O Ba (L a i 0)=L a i 0:=by rw[Fi];omega
   have x:O Ba (L bs k 0)=L bs k 0:=by rw[Fi];omega
   have y:O Ba (L out (i+k) 0)=L out (i+k) 0:=by rw[Fi];omega
   rw[w,x,y,Fi,Fi,Fi];omega
  have z:BA (c+(L out (i+k) 0+L a i 0*L bs k 0)) (2^(min (J 32) (Co .u64)))=(c+(L out (i+k) 0+L a i 0*L bs k 0)) / 4294967296:=by
   show BA _ 4294967296=_;rw[Gh _ (by omega)]
  have h1:=Asv (C a) (lm a) (C bs) (lm bs) n (lm out) (lm (out.set (i+k) ((c+(L out (i+k) 0+L a i 0*L bs k 0)) % 4294967296))) i c k (L a i 0) (L bs k 0) (L out (i+k) 0)
   (by simp;omega) (by rw[b];omega) (by rw[b,Aq];exact q) (by omega) (by rw[Aq];exact s) (by omega) (by rw[Aq];exact t) (by rw[b];omega) (by rw[b,Aq,d,RU];exact u)
  rw[d,z,p] at h1;exact AB h1 (j (k+1) _ _ (by omega) (by simpa using hl) (YA hu (by omega)) (by omega))
theorem Ahs(a bs:LI)(k:E5 a)(hb:E5 bs)(s:C a+C bs<=1048576):∀ (r i:Nat) (out:LI),r+i=C a->C out=C a+C bs->E5 out->(∀ j,i+C bs<=j->L out j 0=0) ->
  ∃ b,C b=C a+C bs/\E5 b/\AQ b=AQ out+4294967296^i*(AQ (a.drop i)*AQ bs) /\
   Aa (.loop X4) (LW (C a) (lm a) (C bs) (lm bs) (C a+C bs) (lm out) i) xZ0 (LW (C a) (lm a) (C bs) (lm bs) (C a+C bs) (lm b) (C a)):=by
 intro r;induction r with
 | zero =>
  intro i out hi hl hu _;have t:i=C a:=by omega
  subst t;refine⟨out,hl,hu,by simp[AQ],?_⟩;exact f (Ahq (C a) (lm a) (C bs) (lm bs) (C a+C bs) (lm out) (C a) (by simp))
 | succ r u =>
  intro i out hi hl hu l;have w:=GT k i;have e:i<C a:=by omega
  have hin:=Ahr a bs k hb (C a+C bs) i s e (by omega) (C bs) 0 out 0 (by omega) hl hu (by omega);obtain⟨x,m,n,g,h⟩:=Asx (i:=i) w hb (C bs) 0 out 0 (by omega) (by omega) hu (by omega);generalize Jz (L a i 0) bs i (C bs) 0 out 0=q at *
  obtain⟨d,c⟩:=q;dsimp only at x m n g h hin;have o:O D (i+C bs)=((i+C bs:Nat):Int):=wrz
  have y:O D (i+1)=((i+1:Nat):Int):=wrz
  have z:O Bd c=c:=by rw[RU];omega
  have A:=xA (xs:=d) (i:=i+C bs) (v:=c) (by omega);have h1:=Abf (C a) (lm a) (C bs) (lm bs) (C a+C bs) (lm out) (lm d) (lm (d.set (i+C bs) c)) i c (C bs) (by simp;omega) hin (by rw[o];omega) (by rw[o,Aq,z];exact A);rw[y] at h1;obtain⟨b,B,E,F,G⟩:=u (i+1) (d.set (i+C bs) c) (by omega) (by simp;omega) (YA m n) (fun j I=>by rw[Ua (by omega),h j (by omega),l j (by omega)]);refine⟨b,B,E,?_,AB h1 G⟩;have H:AQ (d.set (i+C bs) c)=AQ out+4294967296^i*(L a i 0*AQ bs):=by
   rw[lP d _ _ (by omega),h _ (Ay _),l _ (Ay _)];simp only[Bv,AL,AFo,Int.sub_zero] at g |-;exact g
  have hd:AQ (a.drop i)=L a i 0+4294967296*AQ (a.drop (i+1)):=by
   rw[ET e];simp[AQ,Z,Af e]
  rw[F,H,hd,FL];generalize (4294967296:Int)^i=p at *
  generalize AQ (a.drop (i+1))=V at *
  grind
theorem W5{a bs:LI}(d:E5 a)(hb:E5 bs)(e:C a+C bs<=1048576) :
  ∃ out,C out=C a+C bs/\E5 out/\AQ out=AQ a*AQ bs/\RQ 228 [y lm a,y lm bs] (P 1 (C out) (lm out)):=by
 have b:O D (C a+C bs)=((C a+C bs:Nat):Int):=wrz
 have c:J (O D (C a+C bs))=C a+C bs:=by rw[b,Aq]
 obtain⟨out,h1,h2,h,i⟩:=Ahs a bs d hb e (C a) 0 (BP (C a+C bs) 0) (by omega) (by simp) (fun x k=>by rw[A8p k];omega) (fun j _=>by simp[Z,List.getElem?_replicate];split <;> rfl);refine⟨out,h1,h2,?_,?_⟩
 ·rw[h,xB];simp
 have l:0<=O D (C a+C bs)/\O D (C a+C bs)<=1048576:=by rw[b];omega
 have hl:Aa (.loop X4) (LW (C a) (lm a) (C bs) (lm bs) (J (O D (C a+C bs))) (Gp [A Bd 0] (J (O D (C a+C bs)))) 0) xZ0 (LW (C a) (lm a) (C bs) (lm bs) (J (O D (C a+C bs))) (lm out) (C a)):=by
  rw[c,Aql];exact i
 have:=B6 (prog:=CQ) (f:=228) (args:=[y lm a,y lm bs]) (r := P 1 (J (O D (C a+C bs))) (lm out)) (fn:=iF g oS) (s:=(Ab (y lm a)::Ab (y lm bs)::V 2 (Av 1 (J (O D (C a+C bs))) (lm out)::V 1 (vi (C a:Int)::V 59 [])))) (ex := .ret) rfl rfl
  (N (Da (t:=(Ab (y lm a)::Ab (y lm bs)::V 2 (Av 1 0 []::V 61 []))) (ex := .norm) (ps:=[]) E0 300 [] [0,1,4] (by kernel_rfl) trivial)
  (N (Da (t:=(Ab (y lm a)::Ab (y lm bs)::V 2 (Av 1 0 []::Av 1 (J (O D (C a+C bs))) (Gp [A Bd 0] (J (O D (C a+C bs))))::V 3 (Ab (y lm a)::vi (C a:Int)::Ab (y lm bs)::vi (C bs:Int)::vi (O D (C a+C bs))::V 52 [])))) (ex := .norm) (ps:=[0<=O D (C a+C bs)/\O D (C a+C bs)<=1048576]) E0 300 [] [0,1,4,5,9,10,11,12,13] (by kernel_rfl) ⟨l,trivial⟩)
  (N (N (Da (t:=(Ab (y lm a)::Ab (y lm bs)::V 2 (Av 1 0 []::Av 1 (J (O D (C a+C bs))) (Gp [A Bd 0] (J (O D (C a+C bs))))::vi 0::V 59 []))) (ex := .norm) (ps:=[]) E0 300 [] Yy (by kernel_rfl) trivial)
  (A0 hl))
  (Da (t:=(Ab (y lm a)::Ab (y lm bs)::V 2 (Av 1 (J (O D (C a+C bs))) (lm out)::V 1 (vi (C a:Int)::V 59 [])))) (ex := .ret) (ps:=[]) E0 300 [] [0,1,4,6] (by kernel_rfl) trivial)))) (by nofun) rfl
 rw[c,<- h1] at this;exact this
theorem A3y(na:Bool)(a:Nat)(nb:Bool)(b:Nat)(d:Bool)(c:Nat)(out:LI)(e:C (q a)<=1048576)(hb:C (q b)<=1048576)(f:RQ 228 [y lm (q a),y lm (q b)] (P 1 (C out) (lm out)))(g:RQ 108 [I (!(na==nb)),y lm out] (.frs (.st d) 1 (C (q c)) (lm (q c)))):RQ 143 [M [I na,y lm (q a)],M [I nb,y lm (q b)]] (M [I d,y lm (q c)]):=k (ps:=[RQ 211 [y lm (q a)] (P 1 (C (q a)) (lm (q a))),RQ 211 [y lm (q b)] (P 1 (C (q b)) (lm (q b))),RQ 228 [y lm (q a),y lm (q b)] (P 1 (C out) (lm out)),RQ 108 [I (!(na==nb)),y lm out] (.frs (.st d) 1 (C (q c)) (lm (q c)))]) E0 rfl 300 rfl [.r (P 1 (C (q a)) (lm (q a))),.r (P 1 (C (q b)) (lm (q b))),.r (P 1 (C out) (lm out)),.r (.frs (.st d) 1 (C (q c)) (lm (q c)))] (by kernel_rfl) ⟨(GL e),GL hb,f,g,trivial⟩
theorem S9{a b:Int}(i:C (q (A6 a))+C (q (A6 b))<=1048576):RQ 143 [BL a,BL b] (BL (a*b)):=by
 obtain⟨out,h1,h2,j,k⟩:=W5 (ES (A6 a)).1 (ES (A6 b)).1 i;have h:=Oe (neg := !(decide (a<0)==decide (b<0))) h2 (by omega);rw[j,Hl,Hl] at h;have e:(if (!(decide (a<0)==decide (b<0)))=true then -((A6 a:Int)*(A6 b:Int)) else (A6 a:Int)*(A6 b:Int))=a*b:=by
  by_cases f:a<0 <;> by_cases g:b<0
  ·have c:(A6 a:Int) = -a:=by omega
   have d:(A6 b:Int) = -b:=by omega
   rw[c,d];simp[f,g] <;> grind
  ·have c:(A6 a:Int) = -a:=by omega
   have d:(A6 b:Int)=b:=by omega
   rw[c,d];simp[f,g] <;> grind
  ·have c:(A6 a:Int)=a:=by omega
   have d:(A6 b:Int) = -b:=by omega
   rw[c,d];simp[f,g] <;> grind
  ·have c:(A6 a:Int)=a:=by omega
   have d:(A6 b:Int)=b:=by omega
   rw[c,d];simp[f,g] <;> grind
 rw[e] at h;exact A3y _ _ _ _ _ _ out (by omega) (by omega) k h
def TBC:Bx:=TBB
theorem C0:Be CQ TBC:=E0
theorem A3z(a b c d:Int) : -2305843009213693952<=Bs a b c d/\Bs a b c d<=2305843009213693952:=by
 unfold Bs;cases h1:e a b
 ·simp
 cases h2:e c d
 ·simp
 have f:=CI h1;have g:=CI h2;have h:=Ep (x:=a) (y:=c) (by omega) (by omega) (by omega) (by omega);have i:=Ep (x:=b) (y:=d) (by omega) (by omega) (by omega) (by omega);simp;omega
theorem Aht(a b c d:Int) : -2305843009213693952<=Bq a b c d/\Bq a b c d<=2305843009213693952:=by
 unfold Bq;cases h1:e a b
 ·simp
 cases h2:e c d
 ·simp
 have f:=CI h1;have g:=CI h2;have h:=Ep (x:=a) (y:=d) (by omega) (by omega) (by omega) (by omega);have i:=Ep (x:=b) (y:=c) (by omega) (by omega) (by omega) (by omega);simp;omega
theorem HD{n:Int}(h1:G (n<1)=false)(h2:G (n>524288)=false) : -9223372036854775808<=n/\n<=9223372036854775807:=by
 simp at h1 h2;omega
theorem dK(a b c d:Int) : -9223372036854775808<=Bs a b c d/\Bs a b c d<=9223372036854775807:=by
 have:=A3z a b c d;omega
theorem I2(a b c d:Int) : -9223372036854775808<=Bq a b c d/\Bq a b c d<=9223372036854775807:=by
 have:=Aht a b c d;omega
section
variable(e f a b c d g:Int)
def K8:Bool :=
 match I0 e f 2097152 with
 | true=>(match I0 a b 1048576 with
 | true=>(match I0 c d 1048576 with
 | true=>(match decide (g<1) with
 | true=>(false)
 | false=>(match decide (g>524288) with
 | true=>(false)
 | false=>(match Gv e f a b g with
 | true=>(true)
 | false=>(match Gv e f c d g with
 | true=>(true)
 | false=>(match decide (Bs ((X e f a b).1) ((X e f a b).2) ((X c d a b).1) ((X c d a b).2)>0) with
 | true=>(match decide (Bs ((X e f a b).1) ((X e f a b).2) ((X c d a b).1) ((X c d a b).2)<Bs ((X c d a b).1) ((X c d a b).2) ((X c d a b).1) ((X c d a b).2)) with
 | true=>((G (F5 (Bq ((X c d a b).1) ((X c d a b).2) ((X e f a b).1) ((X e f a b).2)*Bq ((X c d a b).1) ((X c d a b).2) ((X e f a b).1) ((X e f a b).2)) ((g*g)*Bs ((X c d a b).1) ((X c d a b).2) ((X c d a b).1) ((X c d a b).2))<0)))
 | false=>false)
 | false=>false)))))
 | false=>false)
 | false=>false)
 | false=>(false)
theorem AAc  : RQ 60 [M [A D e,A D f],M [A D a,A D b],M [A D c,A D d],A D g] (I (K8 e f a b c d g)):=by
 unfold K8;cases c1:(I0 e f 2097152)
 ·exact ALa Dc rfl [bT,bT,bT,bT,bT] (Fh (AKj c1) Cj Cj Cj Cj)
 ·cases c2:(I0 a b 1048576)
  ·exact ALa Dc rfl [Y,bT,bT,bT,bT] (Fh (AKg c1) (AKj c2) Cj Cj Cj)
  ·cases c3:(I0 c d 1048576)
   ·exact ALa Dc rfl [Y,Y,bT,bT,bT] (Fh (AKg c1) (AKg c2) (AKj c3) Cj Cj)
   ·cases c4:(G (g<1))
    ·cases h:(G (g>524288))
     ·cases i:(Gv e f a b g)
      ·cases j:(Gv e f c d g)
       ·cases k:(G (Bs ((X e f a b).1) ((X e f a b).2) ((X c d a b).1) ((X c d a b).2)>0))
        ·exact ALa Dc rfl [Y,Y,Y,Y,Y,Y,Y,.r (BL (Bq ((X c d a b).1) ((X c d a b).2) ((X e f a b).1) ((X e f a b).2))),.r (BL g),Y,Y] (G3 (AKg c1) (AKg c2) (AKg c3) c4 h i j (show RQ 33 [A D (Bq ((X c d a b).1) ((X c d a b).2) ((X e f a b).1) ((X e f a b).2))] (BL (Bq ((X c d a b).1) ((X c d a b).2) ((X e f a b).1) ((X e f a b).2))) from (LV (I2 _ _ _ _))) (show RQ 33 [A D g] (BL g) from (LV (HD c4 h))) k Dx)
        ·cases l:(G (Bs ((X e f a b).1) ((X e f a b).2) ((X c d a b).1) ((X c d a b).2)<Bs ((X c d a b).1) ((X c d a b).2) ((X c d a b).1) ((X c d a b).2)))
         ·exact ALa Dc rfl [Y,Y,Y,Y,Y,Y,Y,.r (BL (Bq ((X c d a b).1) ((X c d a b).2) ((X e f a b).1) ((X e f a b).2))),.r (BL g),bT,Y] (G3 (AKg c1) (AKg c2) (AKg c3) c4 h i j (show RQ 33 [A D (Bq ((X c d a b).1) ((X c d a b).2) ((X e f a b).1) ((X e f a b).2))] (BL (Bq ((X c d a b).1) ((X c d a b).2) ((X e f a b).1) ((X e f a b).2))) from (LV (I2 _ _ _ _))) (show RQ 33 [A D g] (BL g) from (LV (HD c4 h))) k l)
         ·exact ALa Dc rfl [Y,Y,Y,Y,Y,Y,Y,.r (BL (Bq ((X c d a b).1) ((X c d a b).2) ((X e f a b).1) ((X e f a b).2))),.r (BL g),bT,bT,.r (BL (Bq ((X c d a b).1) ((X c d a b).2) ((X e f a b).1) ((X e f a b).2)*Bq ((X c d a b).1) ((X c d a b).2) ((X e f a b).1) ((X e f a b).2))),.r (BL (g*g)),.r (BL (Bs ((X c d a b).1) ((X c d a b).2) ((X c d a b).1) ((X c d a b).2))),.r (BL ((g*g)*Bs ((X c d a b).1) ((X c d a b).2) ((X c d a b).1) ((X c d a b).2))),.r (A D (F5 (Bq ((X c d a b).1) ((X c d a b).2) ((X e f a b).1) ((X e f a b).2)*Bq ((X c d a b).1) ((X c d a b).2) ((X e f a b).1) ((X e f a b).2)) ((g*g)*Bs ((X c d a b).1) ((X c d a b).2) ((X c d a b).1) ((X c d a b).2))))] (Ec (AKg c1) (AKg c2) (AKg c3) c4 h i j (show RQ 33 [A D (Bq ((X c d a b).1) ((X c d a b).2) ((X e f a b).1) ((X e f a b).2))] (BL (Bq ((X c d a b).1) ((X c d a b).2) ((X e f a b).1) ((X e f a b).2))) from (LV (I2 _ _ _ _))) (EQ (show RQ 33 [A D g] (BL g) from (LV (HD c4 h))) k l (show RQ 143 [BL (Bq ((X c d a b).1) ((X c d a b).2) ((X e f a b).1) ((X e f a b).2)),BL (Bq ((X c d a b).1) ((X c d a b).2) ((X e f a b).1) ((X e f a b).2))] (BL (Bq ((X c d a b).1) ((X c d a b).2) ((X e f a b).1) ((X e f a b).2)*Bq ((X c d a b).1) ((X c d a b).2) ((X e f a b).1) ((X e f a b).2))) from (S9 (AA (iP (E2 (I2 _ _ _ _)).len (E2 (I2 _ _ _ _)).len) (by decide)))) (show RQ 143 [BL g,BL g] (BL (g*g)) from (S9 (AA (iP (E2 (HD c4 h)).len (E2 (HD c4 h)).len) (by decide)))) (show RQ 33 [A D (Bs ((X c d a b).1) ((X c d a b).2) ((X c d a b).1) ((X c d a b).2))] (BL (Bs ((X c d a b).1) ((X c d a b).2) ((X c d a b).1) ((X c d a b).2))) from (LV (dK _ _ _ _))) (show RQ 143 [BL (g*g),BL (Bs ((X c d a b).1) ((X c d a b).2) ((X c d a b).1) ((X c d a b).2))] (BL ((g*g)*Bs ((X c d a b).1) ((X c d a b).2) ((X c d a b).1) ((X c d a b).2))) from (S9 (AA (iP ((E2 (HD c4 h)).mul (E2 (HD c4 h))).len (E2 (dK _ _ _ _)).len) (by decide)))) (show RQ 142 [BL (Bq ((X c d a b).1) ((X c d a b).2) ((X e f a b).1) ((X e f a b).2)*Bq ((X c d a b).1) ((X c d a b).2) ((X e f a b).1) ((X e f a b).2)),BL ((g*g)*Bs ((X c d a b).1) ((X c d a b).2) ((X c d a b).1) ((X c d a b).2))] (A D (F5 (Bq ((X c d a b).1) ((X c d a b).2) ((X e f a b).1) ((X e f a b).2)*Bq ((X c d a b).1) ((X c d a b).2) ((X e f a b).1) ((X e f a b).2)) ((g*g)*Bs ((X c d a b).1) ((X c d a b).2) ((X c d a b).1) ((X c d a b).2)))) from (A3x (AA ((E2 (I2 _ _ _ _)).mul (E2 (I2 _ _ _ _))).len (by decide)) (AA (((E2 (HD c4 h)).mul (E2 (HD c4 h))).mul (E2 (dK _ _ _ _))).len (by decide))))))
       ·exact ALa Dc rfl [Y,Y,Y,Y,Y,Y,bT] (Gs (AKg c1) (AKg c2) (AKg c3) c4 h i j)
      ·exact ALa Dc rfl [Y,Y,Y,Y,Y,bT,bT] (Gs (AKg c1) (AKg c2) (AKg c3) c4 h i Cj)
     ·exact ALa Dc rfl [Y,Y,Y,Y,bT] (Fh (AKg c1) (AKg c2) (AKg c3) c4 h)
    ·exact ALa Dc rfl [Y,Y,Y,bT,bT] (Fh (AKg c1) (AKg c2) (AKg c3) c4 Cj)
end
def In(n x y:Int):Prop := -n<=x/\x<=n /\ -n<=y/\y<=n
theorem Nn{n x y:Int}(hn:n<=1073741824)(h:In n x y):e x y=true:=by
 unfold In at h;exact Cz (by omega)
theorem In.mono{n m x y:Int}(h:In n x y)(a:n<=m):In m x y:=by unfold In at *;omega
theorem In.sub{n m k x y a b:Int}(h:In n x y)(c:In m a b)(d:n+m<=k):In k (x-a) (y-b):=by unfold In at *;omega
section
variable{a b c d:Int}
theorem No(h1:In 536870912 a b)(h2:In 536870912 c d):X a b c d=(a-c,b-d):=by
 unfold X E9;rw[Nn (by decide) h1,Nn (by decide) h2];unfold In at h1 h2;rw[Cz (by omega)];rfl
theorem Lr(h1:In 1073741824 a b)(h2:In 1073741824 c d):Bs a b c d=a*c+b*d:=by
 unfold Bs;rw[Nn (by decide) h1,Nn (by decide) h2];rfl
theorem SA(h1:In 1073741824 a b)(h2:In 1073741824 c d):Bq a b c d=a*d-b*c:=by
 unfold Bq;rw[Nn (by decide) h1,Nn (by decide) h2];rfl
end
theorem dL{n m x y:Int}(h:In m x y)(a:m<=n):Ct n x y=true:=by
 unfold In at h;exact xX (by omega)
theorem dM(y:Int):0<=y*y:=by
 rcases Int.le_total 0 y with g | g
 ·exact FS g g
 ·have:=FS (show 0 <= -y by omega) (show 0 <= -y by omega);rwa [Aep] at this
theorem dN{x n:Int}(h : -n<=x/\x<=n):x*x<=n*n:=(Fc h.1 h.2 h.1 h.2).2
theorem Of{a b c d R:Int}(e:In 2097152 a b)(f:In 1048576 c d)(h:1<=R/\R<=524288):FZ a b c d R=decide ((a-c)*(a-c)+(b-d)*(b-d)<R*R):=by
 unfold FZ;have g:In 1073741824 (a-c) (b-d):=In.sub e f (by decide);have i:=dN (x:=R) (n:=524288) (by omega);have:=dM R;rw[dL e (by decide),dL f (by decide),As (show ¬ R<1 by omega),As (show ¬ R>524288 by omega),No (e.mono (by decide)) (f.mono (by decide)),Lr g g,A' (n:=R*R) (by omega) (by omega)]
theorem A4a(X Y W:Int)(e:0<W):(match decide (X / W<Y / W) with | true=>true | false=>match X / W==Y / W with | true=>decide (X % W<Y % W) | false=>false)=decide (X<Y):=by
 have g:=Aeu X W;have h:=Aeu Y W;have i:=A8m X (show W ≠ 0 by omega);have j:=A8m Y (show W ≠ 0 by omega);have k:=Asy X e;have l:=Asy Y e;generalize X / W=a at *
 generalize Y / W=b at *
 generalize X % W=c at *
 generalize Y % W=d at *
 by_cases h1:a<b
 ·rw[o h1];have:W*(a+1)<=W*b:=C' (by omega) (by omega);rw[IJ,Aer] at this;symm;rw[decide_eq_true_iff];omega
 ·rw[As h1];by_cases h2:a=b
  ·subst h2;have:(a==a)=true:=by simp
   rw[this];dsimp only;rw[decide_eq_decide];omega
  ·have f:(a==b)=false:=by simpa using h2
   rw[f];have:W*(b+1)<=W*a:=C' (by omega) (by omega);rw[IJ,Aer] at this;symm;rw[J6];omega
theorem Ahu{c R n:Int}(hc:0<=c/\c<=4611686018427387904)(a:1<=R/\R<=524288)(hn:0<=n/\n<=4611686018427387904):QJ c R n=decide (c*c<R*R*n):=by
 unfold QJ;have b:=dN (x:=R) (n:=524288) (by omega);have:=dM R;rw[A' (n:=R*R) (by omega) (by omega),OE (n:=R*R) (by omega) (by omega),OE (n:=c) (by omega) (by omega),OE (n:=n) (by omega) (by omega)];exact A4a _ _ _ (by decide)
def Ano(x y u v R:Int):Prop :=
 x*x+y*y<R*R\/(x-u)*(x-u)+(y-v)*(y-v)<R*R\/(0<x*u+y*v/\x*u+y*v<u*u+v*v/\(u*y-v*x)*(u*y-v*x)<R*R*(u*u+v*v))
instance (x y u v R:Int):Decidable (Ano x y u v R):=inferInstanceAs (Decidable (_\/_\/(_/\_/\_)))
theorem Ahv{c:Int}(h : -4611686018427387904<=c/\c<=4611686018427387904):∃ m,(if O D (0-c)>c then O D (0-c) else c)=m/\0<=m/\m<=4611686018427387904/\m*m=c*c:=by
 rw[A' (n:=0-c) (by omega) (by omega)];by_cases g:0-c>c
 ·refine⟨-c,by rw[Ae g];omega,by omega,by omega,Aep c c⟩
 ·exact⟨c,by rw[Al g],by omega,by omega,rfl⟩
theorem Asz{d e a b f g R:Int}(i:In 2097152 d e)(h:In 1048576 a b)(hb:In 1048576 f g)(l:1<=R/\R<=524288) :
  KY d e a b f g R=decide (Ano (d-a) (e-b) (f-a) (g-b) R):=by
 unfold KY;have o:In 3145728 (d-a) (e-b):=In.sub i h (by decide);have hd:In 2097152 (f-a) (g-b):=In.sub hb h (by decide);rw[dL i (by decide),dL h (by decide),dL hb (by decide),As (show ¬ R<1 by omega),As (show ¬ R>524288 by omega),Of i h l,Of i hb l,
  No (i.mono (by decide)) (h.mono (by decide)),No (hb.mono (by decide)) (h.mono (by decide))]
 have z:d-f=(d-a)-(f-a):=by omega
 have A:e-g=(e-b)-(g-b):=by omega
 rw[z,A];generalize d-a=x at *
 generalize e-b=y at *
 generalize f-a=u at *
 generalize g-b=v at *
 dsimp only [E8];rw[Lr (o.mono (by decide)) (hd.mono (by decide)),Lr (hd.mono (by decide)) (hd.mono (by decide)),SA (hd.mono (by decide)) (o.mono (by decide))];unfold Ano;unfold In at o hd;have F:=Fc (x:=u) (y:=y) (p:=2097152) (q:=3145728) (by omega) (by omega) (by omega) (by omega);have G:=Fc (x:=v) (y:=x) (p:=2097152) (q:=3145728) (by omega) (by omega) (by omega) (by omega);have H:=dN (x:=u) (n:=2097152) (by omega);have I:=dN (x:=v) (n:=2097152) (by omega);have J:=dM u;have K:=dM v;obtain⟨m,B,C,D,E⟩:=Ahv (c:=u*y-v*x) (by omega);rw[B,Ahu ⟨C,D⟩ l (by omega),E];by_cases j:x*x+y*y<R*R
 ·simp[j]
 ·by_cases k:(x-u)*(x-u)+(y-v)*(y-v)<R*R
  ·simp[j,k]
  ·by_cases r:x*u+y*v<=0
   ·have s:¬ 0<x*u+y*v:=by omega
    simp[j,k,r,s]
   ·have s:0<x*u+y*v:=by omega
    by_cases w:x*u+y*v>=u*u+v*v
    ·have t:¬ x*u+y*v<u*u+v*v:=by omega
     simp[j,k,r,w,t]
    ·have t:x*u+y*v<u*u+v*v:=by omega
     simp[j,k,r,s,w,t]
theorem Dn{m:Int}(h0:0<=m)(h1:m<=4611686018427387904)(x y:Int):I0 x y m=Ct m x y:=by
 unfold I0 Ct;rw[N5,A' (n := -m) (by omega) (by omega)];by_cases a : -m<=x <;> by_cases b:x<=m <;> by_cases c : -m<=y <;> by_cases d:y<=m <;> simp[a,b,c,d]
theorem JT(a b c d R:Int):Gv a b c d R=FZ a b c d R:=by
 unfold Gv FZ;rw[Dn (by decide) (by decide),Dn (by decide) (by decide)]
theorem AAd(a b:Int):decide (F5 a b<0)=decide (a<b):=by
 unfold F5;by_cases h:a<b
 ·simp[h]
 ·by_cases h2:b<a <;> simp[h,h2]
theorem Ahw(c d a b e f R:Int):K8 c d a b e f R=KY c d a b e f R:=by
 cases c1:Ct 2097152 c d
 ·unfold K8 KY;rw[Dn (by decide) (by decide),c1]
 cases c2:Ct 1048576 a b
 ·unfold K8 KY;rw[Dn (by decide) (by decide),Dn (by decide) (by decide),c1,c2];rfl
 cases c3:Ct 1048576 e f
 ·unfold K8 KY;rw[Dn (by decide) (by decide),Dn (by decide) (by decide),Dn (by decide) (by decide),c1,c2,c3];rfl
 cases c4:decide (R<1);rotate_left
 ·unfold K8 KY;rw[Dn (by decide) (by decide),Dn (by decide) (by decide),Dn (by decide) (by decide),c1,c2,c3,c4];rfl
 cases k:decide (R>524288);rotate_left
 ·unfold K8 KY;rw[Dn (by decide) (by decide),Dn (by decide) (by decide),Dn (by decide) (by decide),c1,c2,c3,c4,k];rfl
 have h:In 2097152 c d:=I9 c1;have g:In 1048576 a b:=I9 c2;have hb:In 1048576 e f:=I9 c3;have l:1<=R/\R<=524288:=by simp at c4 k;omega
 rw[Asz h g hb l];unfold K8;have n:In 3145728 (c-a) (d-b):=In.sub h g (by decide);have hd:In 2097152 (e-a) (f-b):=In.sub hb g (by decide);rw[Dn (by decide) (by decide),Dn (by decide) (by decide),Dn (by decide) (by decide),c1,c2,c3,c4,k,JT,JT,Of h g l,Of h hb l,
  No (h.mono (by decide)) (g.mono (by decide)),No (hb.mono (by decide)) (g.mono (by decide))]
 have p:c-e=(c-a)-(e-a):=by omega
 have q:d-f=(d-b)-(f-b):=by omega
 rw[p,q];generalize c-a=x at *
 generalize d-b=y at *
 generalize e-a=u at *
 generalize f-b=v at *
 dsimp only;rw[Lr (n.mono (by decide)) (hd.mono (by decide)),Lr (hd.mono (by decide)) (hd.mono (by decide)),SA (hd.mono (by decide)) (n.mono (by decide)),AAd];unfold Ano;by_cases i:x*x+y*y<R*R
 ·simp[i]
 ·by_cases j:(x-u)*(x-u)+(y-v)*(y-v)<R*R
  ·simp[i,j]
  ·by_cases m:0<x*u+y*v
   ·by_cases o:x*u+y*v<u*u+v*v
    ·simp[i,j,m,o]
    ·simp[i,j,m,o]
   ·simp[i,j,m]
theorem A4b{p1 p2 q1 q2 n:Int}(h1:1<=n)(h2:n<=2147483648):YZ p1 p2 q1 q2 n=Za p1 p2 q1 q2 n:=by
 unfold YZ Za;rw[As (show ¬ n<1 by omega),As (show ¬ n>2147483648 by omega)]
theorem W6(px py a b r:Int):PY 62 66 [M [A D px,A D py],M [A D a,A D b],A D r] [M [A D px,A D py],M [A D a,A D b],A D r] :=
 ⟨_,Amc px py a b r,JT px py a b r ▸ Amh px py a b r⟩
theorem Ahx(px py a b c d r:Int):PY 57 60 [M [A D px,A D py],M [A D a,A D b],M [A D c,A D d],A D r] [M [A D px,A D py],M [A D a,A D b],M [A D c,A D d],A D r] :=
 ⟨_,Amd px py a b c d r,Ahw px py a b c d r ▸ AAc px py a b c d r⟩
theorem Abh{px py a b n:Int}(h1:1<=n)(h2:n<=2147483648):PY 64 68 [M [A D px,A D py],M [A D a,A D b],A D n] [M [A D px,A D py],M [A D a,A D b],A D n] :=
 ⟨_,Amg px py a b n,(A4b (p1:=px) (p2:=py) (q1:=a) (q2:=b) h1 h2).symm ▸ pN px py a b n⟩
theorem Qc{m:Int}(h0:0<=m)(h1:m<=4611686018427387904)(x y:Int):BH x y m=Ct m x y:=by
 unfold BH BK Ct;rw[A' (n:=0-m) (by omega) (by omega)];by_cases a : -m<=x <;> by_cases b:x<=m <;> by_cases c : -m<=y <;> by_cases d:y<=m <;> simp[a,b,c,d]
theorem dO(a b c d ex f:Int):(DJ a b c d ex f).2=decide (Gw a b c d ex f>0)/\((DJ a b c d ex f).2=true->(DJ a b c d ex f).1=Gw a b c d ex f):=by
 unfold DJ Gw;rw[Qc (by decide) (by decide),Qc (by decide) (by decide),Qc (by decide) (by decide)];generalize Ct 1048576 a b=k;generalize Ct 1048576 c d=l;generalize Ct 1048576 ex f=m;generalize Bs (X c d a b).1 (X c d a b).2 (X c d a b).1 (X c d a b).2=dS;generalize Bs (X ex f a b).1 (X ex f a b).2 (X ex f a b).1 (X ex f a b).2=dE;generalize Bq (X c d a b).1 (X c d a b).2 (X ex f a b).1 (X ex f a b).2=cr;generalize EY dS=r;cases k <;> cases l <;> cases m <;> try exact⟨rfl,fun h=>by cases h⟩
 have e:(dE != dS)=(dS != dE):=by
  by_cases h:dE=dS
  ·rw[h]
  ·rw[bne_iff_ne.2 h,bne_iff_ne.2 (fun g=>h (Eq.symm g))]
 rw[e];simp only[E8];cases h1:(O D (r*r) != dS)
 ·cases h2:(dS != dE)
  ·by_cases i:r<1
   ·rw[o i];have j:¬ r>262144:=by omega
    rw[As j];cases n:decide (cr<=0)
    ·exact⟨(As (show ¬ r>0 by omega)).symm,fun h=>by cases h⟩
    ·exact⟨rfl,fun h=>by cases h⟩
   ·rw[As i];cases j:decide (r>262144)
    ·cases n:decide (cr<=0)
     ·exact⟨(o (show r>0 by omega)).symm,fun _=>rfl⟩
     ·exact⟨rfl,fun h=>by cases h⟩
    ·exact⟨rfl,fun h=>by cases h⟩
  ·exact⟨rfl,fun h=>by cases h⟩
 ·exact⟨rfl,fun h=>by cases h⟩
theorem mK{a b:Int}(c : -2097152<=a/\a<=2097152)(hb : -2097152<=b/\b<=2097152):DK a b 256=(a*256,b*256):=by
 unfold DK;rw[Cz (by omega),A' (n:=a*256) (by omega) (by omega),A' (n:=b*256) (by omega) (by omega)];have k:E9 (a*256) (b*256)=(a*256,b*256):=by
  unfold E9;rw[Cz (by omega)];rfl
 cases h:(a==0&&(b==0&&true))
 ·show ((E9 (a*256) (b*256)).1,(E9 (a*256) (b*256)).2)=_;rw[k]
 ·simp only[U,AM] at h;obtain⟨h1,h2,_⟩:=h;subst h1 h2;rfl
theorem X6{a b c d:Int}(e : -536870912<=a/\a<=536870912)(hb : -536870912<=b/\b<=536870912)(hc : -268435456<=c/\c<=268435456)(hd : -268435456<=d/\d<=268435456):X a b c d=(a-c,b-d):=by
 unfold X;rw[Cz (by omega),Cz (by omega)];unfold E9;rw[Cz (by omega)];rfl
theorem QV{a b c d:Int}(h:e a b=true)(g:e c d=true):Bq a b c d=a*d-b*c:=by
 unfold Bq;rw[h,g];rfl
theorem at_x{xs:LI}{i:Nat}(h:i<C xs):Ad (R (J i*1) (F cI xs)) 0 1 true=some (A D xs[i]):=by
 have:=Eo (c:=cI) (k:=1) (fun _=>rfl) (i:=i) h (j:=0) (by omega);rw[AL] at this;exact this
def r(lo hi:Int)(xs:LI):Bool:=xs.all fun x => !decide (x<lo) && !decide (x>hi)
theorem A5z{lo hi:Int}{xs:LI}{z:Bool}(hl:C xs<=1000):∀ (d i:Nat),i+d=C xs ->
  (r lo hi (xs.drop i)=true/\Aa (.loop Oj) (GN lo hi xs i z) xZ0 (GN lo hi xs (C xs) z)) \/
  (r lo hi (xs.drop i)=false/\∃ v,Aa (.loop Oj) (GN lo hi xs i z) .ret (GN lo hi xs v false))
 | 0,i,h=>by
  have e:i=C xs:=by omega
  subst e;exact .inl ⟨by rw[Avn];rfl,f (eE lo hi xs _ z (As (by omega)))⟩
 | d+1,i,h=>by
  have c:i<C xs:=by omega
  have c1:decide ((i:Int)<(C xs:Int))=true:=o (by omega);have a:=at_x c;rw[ET c];generalize xs[i]=x at a |-;have e:r lo hi (x::xs.drop (i+1))=((!decide (x<lo) && !decide (x>hi))&&r lo hi (xs.drop (i+1))):=rfl;rw[e];cases c2:decide (x<lo)
  ·cases c3:decide (x>hi)
   ·have h1:=eD lo hi xs i z x c1 c2 c3 ⟨by omega,by omega⟩ a;rw[A' (n:=(i:Int)+1) (by omega) (by omega),show (i:Int)+1=((i+1:Nat):Int) by omega] at h1;rcases A5z hl d (i+1) (by omega) with ⟨b,h2⟩ | ⟨b,v,h2⟩
    ·exact .inl ⟨b,AB h1 h2⟩
    ·exact .inr ⟨b,v,AB h1 h2⟩
   ·exact .inr ⟨rfl,_,f (eC lo hi xs i z x c1 c2 c3 ⟨by omega,by omega⟩ a)⟩
  ·exact .inr ⟨rfl,_,f (eB lo hi xs i z x c1 c2 ⟨by omega,by omega⟩ a)⟩
theorem Cr{n:Nat}(hn:CQ n=some (iF g Pn)){lo hi:Int}(xs:LI)(hl:C xs<=1000):RQ n [A D lo,A D hi,E (C xs) (F cI xs)] (I (r lo hi xs)):=by
 rcases A5z (lo:=lo) (hi:=hi) (z:=false) hl (C xs) 0 (by omega) with ⟨e,h⟩ | ⟨e,v,h⟩
 ·have e:r lo hi xs=true:=e;rw[e];refine B6 (fn:=iF g Pn) (s:=Anq true) (ex := .ret) hn rfl ?_ (by nofun) rfl;rw[mO];exact N (Ud lo hi xs) (N (N (Ue lo hi xs) (A0 h)) (rL lo hi xs _ _))
 ·have e:r lo hi xs=false:=e;rw[e];refine B6 (fn:=iF g Pn) (s:=GN lo hi xs v false) (ex := .ret) hn rfl ?_ (by nofun) rfl;rw[mO];exact N (Ud lo hi xs) (m (N (Ue lo hi xs) (AG h)))
theorem XA{lo hi:Int}(xs:LI)(hl:C xs<=1000)(h:∀ x∈xs,lo<=x/\x<=hi):RQ 123 [A D lo,A D hi,E (C xs) (F cI xs)] (I true):=by
 have e:r lo hi xs=true:=by
  simp only[r,AKf,U,Bl,J6];exact fun x a=>⟨by have:=h x a;omega,by have:=h x a;omega⟩
 exact e ▸ Cr rfl xs hl
theorem MA{lo hi x:Int}(h:lo<=x/\x<=hi):RQ 123 [A D lo,A D hi,E 1 [A D x]] (I true):=XA [x] (Ap rfl) fun y a=>by rw [AP.1 a];exact h
theorem in2{lo hi x y:Int}(h:lo<=x/\x<=hi)(g:lo<=y/\y<=hi):RQ 123 [A D lo,A D hi,E 2 [A D x,A D y]] (I true):=XA [x,y] (Ap rfl) fun z a=>by
 simp only[Aw,A3,or_false] at a;rcases a with rfl | rfl
 ·exact h
 ·exact g
theorem A6a{m:Int}{ps:List (Int × Int)}(q:0<=m/\m<=4611686018427387904)(hl:C ps<=1000)(a:∀ p∈ps,(-m<=p.1/\p.1<=m)/\(-m<=p.2/\p.2<=m)):∀ (d i:Nat),i+d=C ps ->
  Aa (.loop X9) (L_ m ps i) xZ0 (L_ m ps (C ps))
 | 0,i,h=>by
  have e:i=C ps:=by omega
  subst e;exact f (eG m ps _ (As (by omega)))
 | d+1,i,h=>by
  have b:i<C ps:=by omega
  have g:=B7 (c:=cV) (k:=2) (fun _=>rfl) b;obtain⟨j,l⟩:=a _ (AF b);generalize ps[i]=x at g j l;have hr:=in2 (lo := -m) (hi:=m) j l;have h1:=eF m ps i x (o (by omega)) ⟨by omega,by omega⟩ g (by rw[A' (n:=0-m) (by omega) (by omega),show (0:Int)-m = -m by omega];exact hr);rw[A' (n:=(i:Int)+1) (by omega) (by omega),show (i:Int)+1=((i+1:Nat):Int) by omega] at h1;exact AB h1 (A6a q hl a d (i+1) (by omega))
theorem Aog{m:Int}(ps:List (Int × Int))(a:0<=m/\m<=4611686018427387904)(hl:C ps<=1000)(b:∀ p∈ps,(-m<=p.1/\p.1<=m)/\(-m<=p.2/\p.2<=m)):RQ 124 [A D m,E (C ps) (F cV ps)] (I true):=by
 refine B6 (fn:=iF g Yx) (s:=Anw true) (ex := .ret) rfl rfl ?_ (by nofun) rfl;rw[Atu];exact N (rM m ps) (N (N (rN m ps) (A0 (A6a a hl b (C ps) 0 (by omega)))) (rO m ps _))
theorem wi1{m x y:Int}(a:0<=m/\m<=4611686018427387904)(h : -m<=x/\x<=m)(g : -m<=y/\y<=m):RQ 124 [A D m,E 1 [A D x,A D y]] (I true):=Aog [(x,y)] a (Ap rfl) fun p b=>by rw [AP.1 b];exact ⟨h,g⟩
theorem XB(ps:List (Int × Int))(hl:C ps<=1000)(a:∀ p∈ps,Sm p.1/\Sm p.2):RQ 127 [E (C ps) (F cV ps)] (I true) :=
 A5j _ _ (Aog ps (by decide) hl fun p h=>by have:=a p h;unfold Sm at this;omega)
theorem wI{x y:Int}(h:Sm x)(g:Sm y):RQ 127 [E 1 [A D x,A D y]] (I true):=XB [(x,y)] (Ap rfl) fun p a=>by rw [AP.1 a];exact ⟨h,g⟩
theorem Ui{x:Int}(h:x=0):RQ 126 [E 1 [A D x]] (I true):=Acg _ _ (MA (by omega))
theorem bou{x y:Int}(h:0<=x/\x<=15)(g:0<=y/\y<=15):RQ 128 [A D x,A D y] (I true):=A5k x y (in2 h g)
theorem por{x y:Int}(h : -1<=x/\x<=31)(g : -1<=y/\y<=63):RQ 129 [A D x,A D y] (I true):=A5l x y (MA h) (MA g)
theorem A6b{a b c d:Int}(e:Sm a)(hb:Sm b)(hc:Sm c)(hd:Sm d):RQ 56 [M [A D a,A D b],M [A D c,A D d]] (M [A D (a-c),A D (b-d)]):=by
 unfold Sm at e hb hc hd;have h:=Alz a b c d;unfold YU at h;rw[Cz (by omega),Cz (by omega),A' (n:=a-c) (by omega) (by omega),A' (n:=b-d) (by omega) (by omega)] at h;unfold E9 at h;rw[Cz (by omega)] at h;exact h
theorem XC{a b m:Int}(c : -m<=a/\a<=m)(hb : -m<=b/\b<=m)(d:m<=100000) : -10000000000<=a*b/\a*b<=10000000000:=by
 have h:A6 (a*b)<=100000*100000:=by
  rw[Int.natAbs_mul];exact A8i (by omega) (by omega)
 omega
theorem Aoh{a b c d:Int}(e:Sm a)(hb:Sm b)(hc:Sm c)(hd:Sm d):RQ 136 [M [A D a,A D b],M [A D c,A D d]] (A D (a*c+b*d)):=by
 unfold Sm at e hb hc hd;have h:=xT a b c d;have h1:=XC e hc (by omega);have h2:=XC hb hd (by omega);unfold T7 at h;rw[Cz (by omega),Cz (by omega),A' (n:=a*c) (by omega) (by omega),A' (n:=b*d) (by omega) (by omega),A' (n:=a*c+b*d) (by omega) (by omega)] at h;exact h
theorem A6c{a b c d:Int}(e:Sm a)(hb:Sm b)(hc:Sm c)(hd:Sm d):RQ 55 [M [A D a,A D b],M [A D c,A D d]] (A D (a*d-b*c)):=by
 unfold Sm at e hb hc hd;have h:=Ama a b c d;have h1:=XC e hd (by omega);have h2:=XC hb hc (by omega);unfold YV at h;rw[Cz (by omega),Cz (by omega),A' (n:=a*d) (by omega) (by omega),A' (n:=b*c) (by omega) (by omega),A' (n:=a*d-b*c) (by omega) (by omega)] at h;exact h
theorem Aiy{r:Int}{e:El}(hr:0<=r/\r<=1000)(h:Ak r e):RQ 130 [M (AD e),A D r] (I true):=by
 obtain⟨ok,_,_,_,_,_,q,a,b,c,d,R,⟨i,f⟩,⟨E,F,G,S,T⟩,U,V,W,X⟩:=h;have p:=ok.n 1;have t:=ok.n 2;have H:=ok.n 3;have J:=ok.n 4;have K:=ok.n 5;have L:=ok.n 6;have Y:=LL ⟨i,f⟩ (x:=a) (by omega);have Z:=LL ⟨i,f⟩ (x:=b) (by omega);have m3:=LL ⟨i,f⟩ (x:=c) (by omega);have m4:=LL ⟨i,f⟩ (x:=d) (by omega);have u:=A6b H J p t;have v:=A6b K L p t;rw[show e.n 3-e.n 1=q*a by omega,show e.n 4-e.n 2=q*b by omega] at u;rw[show e.n 5-e.n 1=q*c by omega,show e.n 6-e.n 2=q*d by omega] at v;have j:Sm (q*a):=by unfold Sm;omega
 have k:Sm (q*b):=by unfold Sm;omega
 have l:Sm (q*c):=by unfold Sm;omega
 have m:Sm (q*d):=by unfold Sm;omega
 have w:=Aoh j k j k;have z:=Aoh l m l m;have B:=A6c j k l m;have g:∀ x y,q*x*(q*y)=q*q*(x*y):=fun x y=>by rw[Jl,kL x q y,<- Jl]
 have N:0<q*q:=Fq (by omega) (by omega);have q2:q*q<=500*500:=J4 f f i (by omega);rw[g,g,<- IJ,E] at w;rw[g,g,<- IJ,F] at z;rw[g,g,<- A8h] at B;have O:5*q*(5*q)=q*q*25:=by rw[Jl,kL q 5 q,<- Jl];omega
 have P:EY (q*q*25)=5*q:=lV (by omega) (by omega) (by omega) (by omega) (by
  have e1:(5*q+1)*(5*q+1)=5*q*(5*q)+5*q+(5*q+1):=by rw[IJ,Int.add_mul,Aer,Int.one_mul]
  omega)
 have C:=xW (q*q*25) (by omega);rw[P] at C;have Q:=Fq N G;have h:=A5m e.s (e.n 0) (e.n 1) (e.n 2) (e.n 3) (e.n 4) (e.n 5) (e.n 6) (e.n 7) (e.n 8) (e.n 9) (e.n 10) r (q*a) (q*b) (q*c) (q*d) (q*q*25) (5*q) (q*q*(a*d-b*c)) (by simp) (by rw[A' (n:=5*q*(5*q)) (by omega) (by omega),O];simp) (by rw[A' (n:=2*r) (by omega) (by omega)];exact o (by omega)) (o (by omega)) u v w C z B;rw[o Q] at h;exact h
section
variable {t:Tbl}
theorem ov_0(h:C t.sa<=1):Aa (.seq eH (.block 0 (.loop Uf))) (Jg t) .norm (Jg t):=by
 refine N (jX t) (w [1] (A0 (?_:Aa (.loop Uf) (Nt t 0) xZ0 (Nt t (C t.sa)))) (by kernel_rfl));by_cases h0:C t.sa=0
 ·rw[h0];exact f (Qj t 0 (As (by omega)))
 ·have h1:C t.sa=1:=by omega
  have a:=B7 (c:=AN) (k:=10) (fun _=>rfl) (es:=t.sa) (i:=0) (by omega);rw[h1];exact AB (eJ t _ (o (by omega)) ⟨by omega,by omega⟩ a ⟨by omega,by omega,by omega,fun e=>nomatch e⟩) (f (Qj t 1 (As (by omega))))
theorem ov_1(h:C t.ra<=1):Aa (.seq eK (.block 4 (.loop Ug))) (Jg t) .norm (Jg t):=by
 refine N (jY t) (w [1] (A0 (?_:Aa (.loop Ug) (Nu t 0) xZ4 (Nu t (C t.ra)))) (by kernel_rfl));by_cases h0:C t.ra=0
 ·rw[h0];exact f (Qk t 0 (As (by omega)))
 ·have h1:C t.ra=1:=by omega
  have a:=B7 (c:=cR) (k:=8) (fun _=>rfl) (es:=t.ra) (i:=0) (by omega);rw[h1];exact AB (eM t _ (o (by omega)) ⟨by omega,by omega⟩ a ⟨by omega,by omega,by omega,fun e=>nomatch e⟩) (f (Qk t 1 (As (by omega))))
theorem ov_2(h:C t.ln<=1):Aa (.seq eO (.block 8 (.loop Uh))) (Jg t) .norm (Jg t):=by
 refine N (jZ t) (w [1] (A0 (?_:Aa (.loop Uh) (Nv t 0) xZ8 (Nv t (C t.ln)))) (by kernel_rfl));by_cases h0:C t.ln=0
 ·rw[h0];exact f (Ql t 0 (As (by omega)))
 ·have h1:C t.ln=1:=by omega
  have a:=B7 (c:=cK) (k:=7) (fun _=>rfl) (es:=t.ln) (i:=0) (by omega);rw[h1];exact AB (eQ t _ (o (by omega)) ⟨by omega,by omega⟩ a ⟨by omega,by omega,by omega,fun e=>nomatch e⟩) (f (Ql t 1 (As (by omega))))
theorem AHm(a:TOk t):RQ 131 [t.av] (I false):=by
 refine B6 (fn:=iF g Jv) (s:=Aoa) (ex := .ret) rfl rfl ?_ (by nofun) rfl;rw[Atv];exact N (rP t) (N (ov_0 a.Sa.len) (N (ov_1 a.Ra.len) (N (ov_2 a.Ln.len) (rQ t))))
def D2(ns:List ByteArray):u:=ns.map .str
theorem AHn{x y:ByteArray}(h:x ≠ y):(x==y)=false:=by
 cases hb:(x==y)
 ·rfl
 ·refine absurd ?_ h;obtain⟨a⟩:=x;obtain⟨b⟩:=y;have hb:(a==b)=true:=hb;rw[eq_of_beq hb]
theorem Hw:∀ {ns:List ByteArray} {x:ByteArray},x ∉ ns->FT (D2 ns) (.str x)=some false
 | [],_,_=>rfl
 | y::ns,x,h=>by
  have h1:(x==y)=false:=AHn fun e=>h (e ▸ AKh ..);have h2:=Hw (ns:=ns) (x:=x) fun e=>h (AJ _ e);show FT (.str y::D2 ns) (.str x)=_;simp only[FT,XX,h1,h2]
theorem Atw(ns:List ByteArray)(x:ByteArray):D2 ns++[.str x]=D2 (ns++[x]):=by unfold D2;rw [DU];rfl
def RD:List ByteArray:=frN++IG 119 3++[⟨#[97,49]⟩]++IG 112 2++IG 102 2++IG 122 2++[⟨#[115,49]⟩]++IG 108 2++[⟨#[114,49]⟩]++[⟨#[100,49]⟩]++[⟨#[107,49]⟩]
theorem AAl:RD.all (Kp 125)=true:=by kernel_rfl
theorem AAm:RD.Nodup:=of_decide_eq_true (by kernel_rfl)
theorem Hx{c:ICode}{bid:Nat}{S:u->Int->H}{es:List El}
  (hb:∀ (i:Nat) (h:i<C es) (ns:List ByteArray),es[i].s ∉ ns->es[i].s∈RD->Aa c (S (D2 ns) (i:Int)) .norm (S (D2 ns++[.str es[i].s]) ((i+1:Nat):Int)))
  (a:∀ ks,Aa c (S ks (C es:Int)) (.exit bid) (S ks (C es:Int))):∀ (d i:Nat) (ns:List ByteArray),i+d=C es->(ns++(es.drop i).map El.s).Nodup->(∀ x∈(es.drop i).map El.s,x∈RD) ->
  Aa (.loop c) (S (D2 ns) (i:Int)) (.exit bid) (S (D2 (ns++(es.drop i).map El.s)) (C es:Int))
 | 0,i,ns,h,_,_=>by
  have e:i=C es:=by omega
  subst e;rw[Avn,C1,Df];exact f (a _)
 | d+1,i,ns,h,hn,b=>by
  have hi:i<C es:=by omega
  rw[ET hi,Bg] at hn b |-;have h1:=hb i hi ns (fun e=>by
   rw[Ds] at hn;exact hn.2.2 _ e _ (AKh ..) rfl) (b _ (AKh ..))
  rw[Atw] at h1;have e:ns++es[i].s::(es.drop (i+1)).map El.s=(ns++[es[i].s])++(es.drop (i+1)).map El.s:=by rw[Ci];rfl
  rw[e] at hn |-;exact AB h1 (Hx hb a d (i+1) (ns++[es[i].s]) (by omega) hn fun x a=>b x (AJ _ a))
theorem MB{x:ByteArray}(h:x∈RD):Kp 125 x=true:=AKf.1 AAl x h
theorem AAn(b:TOk t)(ns:List ByteArray)(hn:(ns++t.ws.map El.s).Nodup)(l:∀ x∈t.ws.map El.s,x∈RD):Aa (.seq rS (.block 1 (.loop Q'))) (DN t (D2 ns)) .norm (DN t (D2 (ns++t.ws.map El.s))):=by
 refine N (Acn t (D2 ns)) (w [1,3,124,126] (A0 (?_:Aa (.loop Q') (Ma t (D2 ns) 0) xZ1 (Ma t (D2 (ns++t.ws.map El.s)) (C t.ws)))) (by kernel_rfl));have h:=Hx (bid:=1) (c:=Q') (S:=fun ks i=>Ma t ks i) (es:=t.ws) ?_ ?_ (C t.ws) 0 ns (by omega) (by rw[AL];exact hn) (by rw[AL];exact l)
 ·rw[AL] at h;exact h
 ·intro i hi ns hn d;have F:=b.l8;have f:=B7 (c:=cW) (k:=13) (fun _=>rfl) hi;have g:Wk _:=b.Ws.1 _ (AF hi);generalize t.ws[i]=e at f g hn d |-;have m:=g;obtain⟨ok,q,r,u,v,y,A,B,D,a⟩:=m;have ps:∀ p∈[(e.n 2,e.n 3),(e.n 4,e.n 5)],Sm p.1/\Sm p.2:=fun p j=>by
   simp only[Aw,A3,or_false] at j;rcases j with rfl | rfl <;> exact⟨ok.n _,ok.n _⟩
  have E:(!(e.n 2==(e.n 4)&&(e.n 3==(e.n 5)&&true)))=true:=by
   rcases a with a | a
   ·rw[z.2 a];rfl
   ·rw[z.2 a];cases (e.n 2==e.n 4) <;> rfl
  have h:=eR t (D2 ns) i e (o (by omega)) ⟨by omega,by omega⟩ f (Ui q) (MA r) (XB [(e.n 2,e.n 3),(e.n 4,e.n 5)] (Ap rfl) ps) (bou u v) (in2 y A) (por B D) ⟨rfl,E⟩ (MB d) (Hw hn);rw[A' (n:=(i:Int)+1) (by omega) (by omega)] at h;exact h
 ·exact fun ks=>eT t ks _ (As (by omega))
theorem AAo(a:TOk t)(ns:List ByteArray)(hn:(ns++t.ar.map El.s).Nodup)(j:∀ x∈t.ar.map El.s,x∈RD):Aa (.seq rT (.block 3 (.loop Q_))) (DN t (D2 ns)) .norm (DN t (D2 (ns++t.ar.map El.s))):=by
 refine N (Aco t (D2 ns)) (w [1,3,124,126] (A0 (?_:Aa (.loop Q_) (Mb t (D2 ns) 0) xZ3 (Mb t (D2 (ns++t.ar.map El.s)) (C t.ar)))) (by kernel_rfl));have h:=Hx (bid:=3) (c:=Q_) (S:=fun ks i=>Mb t ks i) (es:=t.ar) ?_ ?_ (C t.ar) 0 ns (by omega) (by rw[AL];exact hn) (by rw[AL];exact j)
 ·rw[AL] at h;exact h
 ·intro i hi ns hn d;have v:=a.l9;have f:=B7 (c:=AD) (k:=12) (fun _=>rfl) hi;have b:Ak t.r0 _:=a.Ar.1 _ (AF hi);generalize t.ar[i]=e at f b hn d |-;have l:=b;obtain⟨ok,m,q,r,y,u,z⟩:=l;have ps:∀ p∈[(e.n 1,e.n 2),(e.n 3,e.n 4),(e.n 5,e.n 6)],Sm p.1/\Sm p.2:=fun p g=>by
   simp only[Aw,A3,or_false] at g;rcases g with rfl | rfl | rfl <;> exact⟨ok.n _,ok.n _⟩
  have h:=eU t (D2 ns) i e (o (by omega)) ⟨by omega,by omega⟩ f (Ui m) (XB [(e.n 1,e.n 2),(e.n 3,e.n 4),(e.n 5,e.n 6)] (Ap rfl) ps) (bou q r) (MA (by omega)) (MA u) (Aiy (by have:=a.r0;omega) b) (MB d) (Hw hn);rw[A' (n:=(i:Int)+1) (by omega) (by omega)] at h;exact h
 ·exact fun ks=>eV t ks _ (As (by omega))
theorem AAp(a:TOk t)(ns:List ByteArray)(hn:(ns++t.po.map El.s).Nodup)(g:∀ x∈t.po.map El.s,x∈RD):Aa (.seq rU (.block 5 (.loop Rb))) (DN t (D2 ns)) .norm (DN t (D2 (ns++t.po.map El.s))):=by
 refine N (Acp t (D2 ns)) (w [1,3,124,126] (A0 (?_:Aa (.loop Rb) (Mc t (D2 ns) 0) xZ5 (Mc t (D2 (ns++t.po.map El.s)) (C t.po)))) (by kernel_rfl));have h:=Hx (bid:=5) (c:=Rb) (S:=fun ks i=>Mc t ks i) (es:=t.po) ?_ ?_ (C t.po) 0 ns (by omega) (by rw[AL];exact hn) (by rw[AL];exact g)
 ·rw[AL] at h;exact h
 ·intro i hi ns hn b;have y:=a.l10;have d:=B7 (c:=cPo) (k:=11) (fun _=>rfl) hi;have f:Pk _:=a.Po.1 _ (AF hi);generalize t.po[i]=e at d f hn b |-;have j:=f;obtain⟨ok,l,z,m,p,q,r,u,v⟩:=j;skip;have h:=eX t (D2 ns) i e (o (by omega)) ⟨by omega,by omega⟩ d (Ui l) (wI (ok.n 1) (ok.n 2)) (MA (by omega)) (bou m p) (in2 q r) (por u v) (MB b) (Hw hn);rw[A' (n:=(i:Int)+1) (by omega) (by omega)] at h;exact h
 ·exact fun ks=>eY t ks _ (As (by omega))
theorem AAq(b:TOk t)(ns:List ByteArray)(hn:(ns++t.fl.map El.s).Nodup)(d:∀ x∈t.fl.map El.s,x∈RD):Aa (.seq rV (.block 7 (.loop Rc))) (DN t (D2 ns)) .norm (DN t (D2 (ns++t.fl.map El.s))):=by
 refine N (Acq t (D2 ns)) (w [1,3,124,126] (A0 (?_:Aa (.loop Rc) (Md t (D2 ns) 0) xZ7 (Md t (D2 (ns++t.fl.map El.s)) (C t.fl)))) (by kernel_rfl));have h:=Hx (bid:=7) (c:=Rc) (S:=fun ks i=>Md t ks i) (es:=t.fl) ?_ ?_ (C t.fl) 0 ns (by omega) (by rw[AL];exact hn) (by rw[AL];exact d)
 ·rw[AL] at h;exact h
 ·intro i hi ns hn f;have z:=b.l11;have a:=B7 (c:=cF) (k:=15) (fun _=>rfl) hi;have g:pA _:=b.Fl.1 _ (AF hi);generalize t.fl[i]=e at a g hn f |-;have j:=g;obtain⟨ok,A,l,m,B,D,E,p,q,r,u,v⟩:=j;have y:∀ x∈[e.n 6,e.n 7,e.n 8],1<=x/\x<=64:=fun x a=>by
   simp only[Aw,A3,or_false] at a;rcases a with rfl | rfl | rfl <;> assumption
  have d:=J4 p.2 m.2 (by omega) (by omega:(0:Int)<=64);have F:=FS (show 0<=e.n 8 by omega) (show 0<=e.n 3 by omega);have h:=eZ t (D2 ns) i e (o (by omega)) (o (by omega)) (by rw[A' (n:=e.n 8*e.n 3) (by omega) (by omega)];exact o (by omega)) ⟨by omega,by omega⟩ a (Ui l) (wI (ok.n 1) (ok.n 2)) (MA (by omega)) (in2 (by omega) (by omega)) (XA [e.n 6,e.n 7,e.n 8] (Ap rfl) y) (bou q r) (por u v) (MB f) (Hw hn);rw[A' (n:=(i:Int)+1) (by omega) (by omega)] at h;exact h
 ·exact fun ks=>fA t ks _ (As (by omega))
theorem AAr(a:TOk t)(ns:List ByteArray)(hn:(ns++t.zo.map El.s).Nodup)(j:∀ x∈t.zo.map El.s,x∈RD):Aa (.seq rW (.block 9 (.loop Re))) (DN t (D2 ns)) .norm (DN t (D2 (ns++t.zo.map El.s))):=by
 refine N (Acr t (D2 ns)) (w [1,3,124,126] (A0 (?_:Aa (.loop Re) (Me t (D2 ns) 0) xZ9 (Me t (D2 (ns++t.zo.map El.s)) (C t.zo)))) (by kernel_rfl));have h:=Hx (bid:=9) (c:=Re) (S:=fun ks i=>Me t ks i) (es:=t.zo) ?_ ?_ (C t.zo) 0 ns (by omega) (by rw[AL];exact hn) (by rw[AL];exact j)
 ·rw[AL] at h;exact h
 ·intro i hi ns hn b;have y:=a.l12;have d:=B7 (c:=cZ) (k:=9) (fun _=>rfl) hi;have f:Zk _:=a.Zo.1 _ (AF hi);generalize t.zo[i]=e at d f hn b |-;have l:=f;obtain⟨ok,m,z,q,r,u,v⟩:=l;have ps:∀ p∈[(e.n 1,e.n 2),(e.n 3,e.n 4)],Sm p.1/\Sm p.2:=fun p g=>by
   simp only[Aw,A3,or_false] at g;rcases g with rfl | rfl <;> exact⟨ok.n _,ok.n _⟩
  have h:=fB t (D2 ns) i e (o (by omega)) (o (by omega)) ⟨by omega,by omega⟩ d (Ui m) (XB [(e.n 1,e.n 2),(e.n 3,e.n 4)] (Ap rfl) ps) (wi1 (by decide) r u) (MA v) ⟨rfl,o q⟩ (MB b) (Hw hn);rw[A' (n:=(i:Int)+1) (by omega) (by omega)] at h;exact h
 ·exact fun ks=>fC t ks _ (As (by omega))
theorem AAs(a:TOk t)(ns:List ByteArray)(hn:(ns++t.sa.map El.s).Nodup)(g:∀ x∈t.sa.map El.s,x∈RD):Aa (.seq rX (.block 11 (.loop Rf))) (DN t (D2 ns)) .norm (DN t (D2 (ns++t.sa.map El.s))):=by
 refine N (Acs t (D2 ns)) (w [1,3,124,126] (A0 (?_:Aa (.loop Rf) (Mf t (D2 ns) 0) (.exit 11) (Mf t (D2 (ns++t.sa.map El.s)) (C t.sa)))) (by kernel_rfl));have h:=Hx (bid:=11) (c:=Rf) (S:=fun ks i=>Mf t ks i) (es:=t.sa) ?_ ?_ (C t.sa) 0 ns (by omega) (by rw[AL];exact hn) (by rw[AL];exact g)
 ·rw[AL] at h;exact h
 ·intro i hi ns hn b;have v:=a.l13;have d:=B7 (c:=AN) (k:=10) (fun _=>rfl) hi;have f:Sk t.r0 _:=a.Sa.1 _ (AF hi);generalize t.sa[i]=e at d f hn b |-;have j:=f;obtain⟨ok,l,m,y,p,q,r,u⟩:=j;skip;have h:=fD t (D2 ns) i e (o (by omega)) ⟨by omega,by omega⟩ d (Ui l) (wI (ok.n 1) (ok.n 2)) (MA (by have:=a.r0;omega)) (MA (by have:=ok.n 4;unfold Sm at this;omega)) (wi1 (by decide) p q) (por r u) ⟨rfl,o m.2⟩ (MB b) (Hw hn);rw[A' (n:=(i:Int)+1) (by omega) (by omega)] at h;exact h
 ·exact fun ks=>fE t ks _ (As (by omega))
theorem AAt(a:TOk t)(ns:List ByteArray)(hn:(ns++t.la.map El.s).Nodup)(g:∀ x∈t.la.map El.s,x∈RD):Aa (.seq rY (.block 13 (.loop Rg))) (DN t (D2 ns)) .norm (DN t (D2 (ns++t.la.map El.s))):=by
 refine N (Acu t (D2 ns)) (w [1,3,124,126] (A0 (?_:Aa (.loop Rg) (Mg t (D2 ns) 0) (.exit 13) (Mg t (D2 (ns++t.la.map El.s)) (C t.la)))) (by kernel_rfl));have h:=Hx (bid:=13) (c:=Rg) (S:=fun ks i=>Mg t ks i) (es:=t.la) ?_ ?_ (C t.la) 0 ns (by omega) (by rw[AL];exact hn) (by rw[AL];exact g)
 ·rw[AL] at h;exact h
 ·intro i hi ns hn b;have p:=a.l14;have d:=B7 (c:=cL) (k:=6) (fun _=>rfl) hi;have f:Lk _:=a.La.1 _ (AF hi);generalize t.la[i]=e at d f hn b |-;have j:=f;obtain⟨ok,l,q,m⟩:=j;skip;have h:=fF t (D2 ns) i e (o (by omega)) ⟨by omega,by omega⟩ d (Ui l) (wI (ok.n 1) (ok.n 2)) (MA (by have:=ok.n 3;unfold Sm at this;omega)) (MA m) (MB b) (Hw hn);rw[A' (n:=(i:Int)+1) (by omega) (by omega)] at h;exact h
 ·exact fun ks=>fG t ks _ (As (by omega))
theorem AAu(a:TOk t)(ns:List ByteArray)(hn:(ns++t.ra.map El.s).Nodup)(g:∀ x∈t.ra.map El.s,x∈RD):Aa (.seq rZ (.block 15 (.loop Rh))) (DN t (D2 ns)) .norm (DN t (D2 (ns++t.ra.map El.s))):=by
 refine N (Acv t (D2 ns)) (w [1,3,124,126] (A0 (?_:Aa (.loop Rh) (Mh t (D2 ns) 0) (.exit 15) (Mh t (D2 (ns++t.ra.map El.s)) (C t.ra)))) (by kernel_rfl));have h:=Hx (bid:=15) (c:=Rh) (S:=fun ks i=>Mh t ks i) (es:=t.ra) ?_ ?_ (C t.ra) 0 ns (by omega) (by rw[AL];exact hn) (by rw[AL];exact g)
 ·rw[AL] at h;exact h
 ·intro i hi ns hn b;have u:=a.l15;have d:=B7 (c:=cR) (k:=8) (fun _=>rfl) hi;have f:Rk _:=a.Ra.1 _ (AF hi);generalize t.ra[i]=e at d f hn b |-;have j:=f;obtain⟨ok,l,m,v,p,q⟩:=j;have r:(!(e.n 5==0&&(e.n 6==0&&true)))=true:=by
   rw[q];cases (e.n 5==0) <;> rfl
  have h:=fH t (D2 ns) i e (o (by omega)) (by rw[l,m];rfl) ⟨by omega,by omega⟩ d (Acg _ _ (in2 (by omega) (by omega))) (wI (ok.n 2) (ok.n 3)) (MA (by have:=ok.n 4;unfold Sm at this;omega)) (wi1 (by decide) p (by omega)) ⟨rfl,r⟩ (MB b) (Hw hn);rw[A' (n:=(i:Int)+1) (by omega) (by omega)] at h;exact h
 ·exact fun ks=>fI t ks _ (As (by omega))
theorem AAv(a:TOk t)(ns:List ByteArray)(hn:(ns++t.dr.map El.s).Nodup)(g:∀ x∈t.dr.map El.s,x∈RD):Aa (.seq sA (.block 17 (.loop Ri))) (DN t (D2 ns)) .norm (DN t (D2 (ns++t.dr.map El.s))):=by
 refine N (Acw t (D2 ns)) (w [1,3,124,126] (A0 (?_:Aa (.loop Ri) (Mi t (D2 ns) 0) (.exit 17) (Mi t (D2 (ns++t.dr.map El.s)) (C t.dr)))) (by kernel_rfl));have h:=Hx (bid:=17) (c:=Ri) (S:=fun ks i=>Mi t ks i) (es:=t.dr) ?_ ?_ (C t.dr) 0 ns (by omega) (by rw[AL];exact hn) (by rw[AL];exact g)
 ·rw[AL] at h;exact h
 ·intro i hi ns hn b;have m:=a.l16;have d:=B7 (c:=cD) (k:=5) (fun _=>rfl) hi;have f:Dk _:=a.Dr.1 _ (AF hi);generalize t.dr[i]=e at d f hn b |-;have j:=f;obtain⟨ok,l,p⟩:=j;skip;have h:=fJ t (D2 ns) i e (o (by omega)) ⟨by omega,by omega⟩ d (Ui l) (wI (ok.n 1) (ok.n 2)) (MA (by have:=ok.n 3;unfold Sm at this;omega)) (MB b) (Hw hn);rw[A' (n:=(i:Int)+1) (by omega) (by omega)] at h;exact h
 ·exact fun ks=>fK t ks _ (As (by omega))
theorem AAw(a:TOk t)(ns:List ByteArray)(hn:(ns++t.ln.map El.s).Nodup)(g:∀ x∈t.ln.map El.s,x∈RD):Aa (.seq sB (.block 19 (.loop Rj))) (DN t (D2 ns)) .norm (DN t (D2 (ns++t.ln.map El.s))):=by
 refine N (Acx t (D2 ns)) (w [1,3,124,126] (A0 (?_:Aa (.loop Rj) (Mj t (D2 ns) 0) (.exit 19) (Mj t (D2 (ns++t.ln.map El.s)) (C t.ln)))) (by kernel_rfl));have h:=Hx (bid:=19) (c:=Rj) (S:=fun ks i=>Mj t ks i) (es:=t.ln) ?_ ?_ (C t.ln) 0 ns (by omega) (by rw[AL];exact hn) (by rw[AL];exact g)
 ·rw[AL] at h;exact h
 ·intro i hi ns hn b;have r:=a.l17;have d:=B7 (c:=cK) (k:=7) (fun _=>rfl) hi;have f:Kk _:=a.Ln.1 _ (AF hi);generalize t.ln[i]=e at d f hn b |-;have j:=f;obtain⟨ok,l,m,p,q⟩:=j;skip;have h:=fL t (D2 ns) i e (o (by omega)) ⟨by omega,by omega⟩ d (Ui l) (wI (ok.n 1) (ok.n 2)) (wi1 (by decide) m p) (MA q) (MB b) (Hw hn);rw[A' (n:=(i:Int)+1) (by omega) (by omega)] at h;exact h
 ·exact fun ks=>fM t ks _ (As (by omega))
theorem A6d(c:TOk t):RQ 48 [t.av] (A D 0):=by
 have d:(t.ws.map El.s++t.ar.map El.s++t.po.map El.s++t.fl.map El.s++t.zo.map El.s++t.sa.map El.s++t.la.map El.s++t.ra.map El.s++t.dr.map El.s++t.ln.map El.s).Sublist RD:=(((((((((c.Ws.2.append c.Ar.2).append c.Po.2).append c.Fl.2).append c.Zo.2).append c.Sa.2).append c.La.2).append c.Ra.2).append c.Dr.2).append c.Ln.2);have B:=d.nodup AAm;have E:=fun x b=>d.subset (a:=x) b;refine B6 (fn:=iF g Kr) (s:=A5w) (ex := .ret) rfl rfl ?_ (by nofun) rfl;rw[A5y];have P:=c.r0;have Q:=c.r1;obtain⟨F,G,H,I,J⟩:=c.rs;obtain⟨R,K⟩:=c.Tr;have S:C t.ws<=7:=AA c.Ws.len (by decide);have T:C t.ar<=2:=AA c.Ar.len (by decide);have U:C t.po<=2:=AA c.Po.len (by decide);have V:C t.fl<=2:=AA c.Fl.len (by decide);have W:C t.zo<=2:=AA c.Zo.len (by decide);have X:C t.sa<=2:=AA c.Sa.len (by decide);have Y:C t.la<=2:=AA c.La.len (by decide);have Z:C t.ra<=2:=AA c.Ra.len (by decide);have p8:C t.dr<=2:=AA c.Dr.len (by decide);have p9:C t.ln<=2:=AA c.Ln.len (by decide);have L:=Acl t (As (by omega)) (As (by omega)) (As (by omega)) (As (by omega)) (As (by omega)) (As (by omega)) (As (by omega)) (As (by omega)) (As (by omega)) (As (by omega)) (As (by omega)) (MA (by omega)) (MA (by omega)) (MA F) (wi1 (by decide) G H) (MA I) (MA J) (XA t.tr (by omega) K);refine N (Ack t) (N L (N (Acm t) ?_));have e:=B;have f:=(Ds.1 e).1;have h:=(Ds.1 f).1;have i:=(Ds.1 h).1;have j:=(Ds.1 i).1;have k:=(Ds.1 j).1;have l:=(Ds.1 k).1;have m:=(Ds.1 l).1;have n:=(Ds.1 m).1;have M:=(Ds.1 n).1;have o:=E;have p:=fun x b=>o x (B9 _ b);have q:=fun x b=>p x (B9 _ b);have r:=fun x b=>q x (B9 _ b);have u:=fun x b=>r x (B9 _ b);have v:=fun x b=>u x (B9 _ b);have w:=fun x b=>v x (B9 _ b);have y:=fun x b=>w x (B9 _ b);have z:=fun x b=>y x (B9 _ b);have O:=fun x b=>z x (B9 _ b);exact N (AAn c [] M O)
  (N (AAo c _ n (fun x b=>z x (BT _ b)))
  (N (AAp c _ m (fun x b=>y x (BT _ b)))
  (N (AAq c _ l (fun x b=>w x (BT _ b)))
  (N (AAr c _ k (fun x b=>v x (BT _ b)))
  (N (AAs c _ j (fun x b=>u x (BT _ b)))
  (N (AAt c _ i (fun x b=>r x (BT _ b)))
  (N (AAu c _ h (fun x b=>q x (BT _ b)))
  (N (AAv c _ f (fun x b=>p x (BT _ b)))
  (N (AAw c _ e (fun x b=>o x (BT _ b)))
  (Aix t _ (AHm c)))))))))))
end
theorem Ata{a b x y c d:Int}:a*(y*256-d*256)-b*(x*256-c*256)=256*(a*(y-d)-b*(x-c)):=by
 simp only[A8h,Hc _ 256,kL _ 256]
theorem Ahy{a b x y c d:Int}:(x*256-c*256)*b-(y*256-d*256)*a=256*((x-c)*b-(y-d)*a):=by
 simp only[A8h,Int.sub_mul,Hc _ 256,Jl]
theorem Ahz{g h i j ex k px py:Int}(hc:Ct 1048576 g h=true)(hs:Ct 1048576 i j=true)(l:Ct 1048576 ex k=true)(m:Ct 2097152 px py=true)(hr:(DS g h i j ex k).2=true) :
  Lc g h i j ex k (DK px py 256).1 (DK px py 256).2=(G (Bq (X i j g h).1 (X i j g h).2 (X px py g h).1 (X px py g h).2>0)&&decide (Bq (X px py g h).1 (X px py g h).2 (X ex k g h).1 (X ex k g h).2>0)):=by
 have c:=I9 hc;have s:=I9 hs;have e:=I9 l;have p:=I9 m;rw[mK (a:=px) (b:=py) (by omega) (by omega)];unfold Lc;rw[hr,mK (a:=g) (b:=h) (by omega) (by omega),X6 (a:=i) (b:=j) (c:=g) (d:=h) (by omega) (by omega) (by omega) (by omega),X6 (a:=ex) (b:=k) (c:=g) (d:=h) (by omega) (by omega) (by omega) (by omega),
  X6 (a:=px) (b:=py) (c:=g) (d:=h) (by omega) (by omega) (by omega) (by omega)]
 have f:Ze (px*256) (py*256)=false:=by
  unfold Ze;rw[As (by omega),As (by omega),As (by omega),As (by omega)]
 dsimp only;rw[f,X6 (a:=px*256) (b:=py*256) (c:=g*256) (d:=h*256) (by omega) (by omega) (by omega) (by omega)];dsimp only;rw[QV (Cz (by omega)) (Cz (by omega)),QV (Cz (by omega)) (Cz (by omega)),QV (Cz (by omega)) (Cz (by omega)),QV (Cz (by omega)) (Cz (by omega)),Ata,Ahy];generalize (i-g)*(py-h)-(j-h)*(px-g)=u;generalize (px-g)*(k-h)-(py-h)*(ex-g)=v;by_cases h1:u>0 <;> by_cases h2:v>0
 ·rw[o (show 256*u>0 by omega),o (show 256*v>0 by omega),o h1,o h2];rfl
 ·rw[o (show 256*u>0 by omega),As (show ¬ 256*v>0 by omega),o h1,As h2];rfl
 ·rw[As (show ¬ 256*u>0 by omega),As h1];rfl
 ·rw[As (show ¬ 256*u>0 by omega),As h1];rfl
theorem Abi{a b d e ex f:Int}(h:(DJ a b d e ex f).2=true):Ct 1048576 a b=true/\Ct 1048576 d e=true/\Ct 1048576 ex f=true:=by
 unfold DJ at h;cases c:(Ct 1048576 a b&&Ct 1048576 d e&&Ct 1048576 ex f)
 ·rw[c] at h;cases h
 ·simp only[U] at c;exact⟨c.1.1,c.1.2,c.2⟩
theorem Abj(u:Int):decide (u>0) = !decide (u<=0):=by
 by_cases h:u>0
 ·rw[o h,As (show ¬ u<=0 by omega)];rfl
 ·rw[As h,o (show u<=0 by omega)];rfl
theorem Abk(px py a b c d ex e R:Int):Nc px py a b c d ex e R=QK px py a b c d ex e R:=by
 obtain⟨r1,r2⟩:=dO a b c d ex e;have f:(DS a b c d ex e).2=(DJ a b c d ex e).2:=r1.symm;cases hr:(DJ a b c d ex e).2
 ·unfold Nc QK;rw[f,hr]
 ·rw[hr] at f;have g:(DS a b c d ex e).1=(DJ a b c d ex e).1:=(r2 hr).symm;obtain⟨i,j,k⟩:=Abi hr;have l:=fun m=>Ahz (px:=px) (py:=py) i j k m f;unfold Nc QK;rw[f,hr,g];cases c1:decide (R<1);rotate_left
  ·rfl
  cases c2:decide (R>=(DJ a b c d ex e).1);rotate_left
  ·rfl
  cases hb:Ct 2097152 px py
  ·have r:¬ (-2097152<=px/\px<=2097152 /\ -2097152<=py/\py<=2097152):=fun h=>by
    rw[xX h] at hb;cases hb
   cases n:decide (px < -2097152) <;> cases o:decide (px>2097152) <;> cases p:decide (py < -2097152) <;> cases q:decide (py>2097152) <;> first | rfl | skip
   simp only[J6] at n o p q;omega
  ·have s:=I9 hb;rw[As (show ¬ px < -2097152 by omega),As (show ¬ px>2097152 by omega),As (show ¬ py < -2097152 by omega),As (show ¬ py>2097152 by omega),JT,JT,l hb,Abj,Abj];cases FZ px py c d R
   ·cases FZ px py ex e R
    ·cases decide (Bq (X c d a b).1 (X c d a b).2 (X px py a b).1 (X px py a b).2<=0)
     ·cases decide (Bq (X px py a b).1 (X px py a b).2 (X ex e a b).1 (X ex e a b).2<=0) <;> rfl
     ·rfl
    ·rfl
   ·rfl
theorem Aia(px py:Int)(nm:ByteArray)(f a b c d ex e rs g h i r:Int):PY 61 65 [M [A D px,A D py],M [.str nm,A D f,A D a,A D b,A D c,A D d,A D ex,A D e,A D rs,A D g,A D h,A D i],A D r]
  [M [A D px,A D py],M [.str nm,A D f,A D a,A D b,A D c,A D d,A D ex,A D e,A D rs,A D g,A D h,A D i],A D r] :=
 ⟨_,Ame px py nm f a b c d ex e rs g h i r,Abk px py a b c d ex e r ▸ Ami px py nm f a b c d ex e rs g h i r⟩
end
end Go.Proofs.YtenfgdobfjofkaaGreat
