/- Texts of the proof of RootValid, packed by pack.py: part 16 of 21. -/
import Derived.Test.YtopjpgejefileaaGreatRvp15
namespace Go.Proofs.YtopjpgejefileaaGreat
open Go.IntKind (i64 u64 u32)
open Go.Ai
set_option maxRecDepth 100000
def Xq:Nat->List Int->List Int->List (List Int)
 | 0,_,_=>[]
 | f+1,a,b=>if b=[] then [] else b::Xq f b (Vq (J3 a b))
def X5 (p:List Int):List (List Int):=if Qg p=[] then [] else Qg p::Xq (Qg p).length (Qg p) (prim (Qv (Qg p)))
theorem Wl {p:List Int} (h:prim p=p):prim (Vq p)=Vq p:=by
 by_cases h0:p=[]
 ·subst h0;rfl
 ·have hl:Vn p:=Ql h;have h1:=He (xs:=p) (by rw[hl];exact h0);rw[h] at h1;exact K4 (Fq hl) (by rw[P5];exact h1)
theorem Tp {K:Nat} {p:List Int} (h:Kb K p):Kb K (Vq p):=fun i=>by rw [Vk];exact (h i).neg
def pps (l:List (List Int)):List (List Rn):=l.map fun p=>p.map cn
theorem Zf8 (ls:List (List Rn)) (rs:List Rn):pp ls++([.sl rs.length (pc rs)]:List AV)=pp (ls++[rs]):=by simp [pp]
def Nice (p:List Int):Prop:=Kb 500000 p/\p.length<=9/\Vn p
theorem T6:∀ (f:Nat) (x y:List Int) (M:Nat),0<M->y.length<=x.length->x.length<=9->prim x=x->prim y=y->Kb (M-1) x->Kb (M-1) y->M*phi x.length y.length<=500000 ->
  ∀ p∈Xq f x y,Nice p:=by
 intro f;induction f with
 | zero=>intro x y M _ _ _ _ _ _ _ _ p hp;cases hp
 | succ f ih =>
  intro x y M hM h2 h3 px py kx ky hphi p hp;simp only[Xq] at hp;split at hp
  ·cases hp
  ·rename_i h;obtain⟨r1,r2,r3⟩:=Ht hM (Ql px) h kx ky h2;have hM':0<M*(x.length-y.length+2):=Nat.mul_pos hM (by omega);have hMle:M<=M*(x.length-y.length+2):=Nat.le_mul_of_pos_right M (by omega);have hb:M*1<=M*phi x.length y.length:=Nat.mul_le_mul_left _ (by unfold phi;exact Nat.mul_pos (by omega) (Nat.pow_pos (by decide)));rcases List.mem_cons.1 hp with rfl | hp
   ·exact⟨ky.mono (by omega),by omega,Ql py⟩
   ·exact ih y (Vq (J3 x y)) (M*(x.length-y.length+2)) hM' (by rw[X1];omega) (by omega) py (Wl (V0 _ _ _ px)) (ky.mono (by omega)) (Tp r3) (by rw[X1];exact Hu r2 hphi) p hp
theorem Mf:∀ (f:Nat) (x y:List Int),(Xq f x y).length<=f
 | 0,_,_=>Nat.le_refl _
 | f+1,x,y=>by
  simp only[Xq];split
  ·simp
  ·have:=Mf f y (Vq (J3 x y));simp;omega
theorem Zdu:∀ (f:Nat) (x y:List Int) (M:Nat) (ls:List (List Rn)),0<M->y.length<=f->y.length<=x.length->x.length<=9->prim x=x->prim y=y->Kb (M-1) x->Kb (M-1) y->M*phi x.length y.length<=500000->ls.length+f<=1000 ->
  ∃ as' bs',Za Yir (.loop Z5d) (Zmi (x.map cn) ls.length (pp ls) (y.map cn)) (.exit 0) (Zmi as' (ls++pps (Xq f x y)).length (pp (ls++pps (Xq f x y))) bs'):=by
 intro f;induction f with
 | zero =>
  intro x y M ls _ h1 _ _ _ _ _ _ _ _;have:y=[]:=List.eq_nil_of_length_eq_zero (by omega);subst this;have e:ls++pps (Xq 0 x [])=ls:=by simp[pps,Xq]
  rw[e];exact⟨_,_,Za.loop_out (Zvv _ _ _ _ (by simp)) (by nofun)⟩
 | succ f ih =>
  intro x y M ls hM h1 h2 h3 px py kx ky hphi hls;simp only[Xq];split
  ·rename_i h;subst h;have e:ls++pps []=ls:=by simp[pps]
   rw[e];exact⟨_,_,Za.loop_out (Zvv _ _ _ _ (by simp)) (by nofun)⟩
  ·rename_i h;have hyl:=List.length_pos_iff.2 h;obtain⟨r1,r2,r3⟩:=Ht hM (Ql px) h kx ky h2;have hM':0<M*(x.length-y.length+2):=Nat.mul_pos hM (by omega);have hMle:M<=M*(x.length-y.length+2):=Nat.le_mul_of_pos_right M (by omega);have hbig:M*(x.length-y.length+2)<=500000:=by
    refine Nat.le_trans (Nat.mul_le_mul_left _ ?_) hphi;unfold phi;exact Nat.le_mul_of_pos_right _ (Nat.pow_pos (by decide))
   have hrem:=Wo (rs:=x.map cn) (ss:=y.map cn) (Z2 kx) (Z2 ky) (by omega) (by omega) (by rw[List.length_map];omega) (by rw[List.length_map];omega) (by rw[Z3,py];exact h) (by
    rw[Z3,Z3,px,py,Nat.sub_add_cancel hM,show x.length+1-y.length=x.length-y.length+1 by omega,Nat.mul_comm _ M];have:M*(x.length-y.length+2)=M*(x.length-y.length+1)+M:=by rw[<- Nat.mul_succ]
    omega)
   rw[Z3,Z3,px,py] at hrem;have hneg:=Kn (rs:=(J3 x y).map cn) (fun r hr=>(Z2 r3 r hr).mono (by omega)) (by rw[List.length_map];omega);rw[Z3] at hneg;have hneg':Zc Yir 117 [.sl ((J3 x y).map cn).length (pc ((J3 x y).map cn))] (.fresh 2 ((Vq (J3 x y)).map cn).length (pc ((Vq (J3 x y)).map cn))):=by
    have e:((Vq (J3 x y)).map cn).length=((J3 x y).map cn).length:=by rw[List.length_map,List.length_map,X1]
    rw[e];exact hneg
   have k:=Yk67_1 (x.map cn) ls.length (pp ls) (y.map cn) _ _ (by simp;omega) (by omega) (U2 hrem) hneg';rw[Zf8] at k;obtain⟨as',bs',hb⟩:=ih y (Vq (J3 x y)) (M*(x.length-y.length+2)) (ls++[y.map cn]) hM' (by rw[X1];omega) (by rw[X1];omega) (by omega) py (Wl (V0 _ _ _ px)) (ky.mono (by omega)) (Tp r3) (by rw[X1];exact Hu r2 hphi) (by rw[List.length_append];simp;omega);have e:ls++[y.map cn]++pps (Xq f y (Vq (J3 x y)))=ls++pps (y::Xq f y (Vq (J3 x y))):=by simp[pps]
   rw[e] at hb;have el:(ls++[y.map cn]).length=ls.length+1:=by simp
   rw[el] at hb;exact⟨as',bs',Za.loop k hb⟩
theorem Kj {rs:List Rn} (hr:∀ r∈rs,Q5 5 r) (hn:rs.length<=9) (h0:Qg (Zf rs) ≠ []) :
  prim (Qg (Zf rs))=Qg (Zf rs)/\Kb 10 (Qg (Zf rs))/\Kb 10 (Qv (Qg (Zf rs)))/\(Qg (Zf rs)).length<=9/\(Qv (Qg (Zf rs))).length<=(Qg (Zf rs)).length-1/\(prim (Qv (Qg (Zf rs)))).length<=(Qv (Qg (Zf rs))).length /\
  11*phi (Qg (Zf rs)).length (prim (Qv (Qg (Zf rs)))).length<=500000/\Vn (Qg (Zf rs)):=by
 have ht:Ze (Zf rs) ≠ []:=by
  intro h;have hz:prim (Zf rs)=[]:=by rw[Ve,<- Xi];exact h
  apply h0;unfold Qg;rw[hz];rfl
 obtain⟨lf,cf,_,_,_,_,_,_⟩:=M3 ht;obtain⟨k1,k2⟩:=Zb8 ht (by rw[Zn];exact hn) (Bx (Q2 hr));have t1:=Qb (Zf rs);rw[Zn] at t1;have k3:=Tq k1 (by omega);have d1:(Qv (Qg (Zf rs))).length<=(Qg (Zf rs)).length-1:=by
  unfold Qv;have:=Qb ((List.range ((Qg (Zf rs)).length-1)).map fun j=>(Qg (Zf rs)).getD (j+1) 0*((j+1:Nat):Int));rwa [List.length_map,List.length_range] at this
 have d2:(prim (Qv (Qg (Zf rs)))).length<=(Qv (Qg (Zf rs))).length:=by rw[Qr];exact Qb _
 refine⟨K4 lf cf,k1.mono (by omega),k3.mono (by omega),by omega,d1,d2,?_,lf⟩;have:=Eg (n:=(Qg (Zf rs)).length) (m:=(prim (Qv (Qg (Zf rs)))).length) (c:=9) (by omega) (by omega);have h3:2*3^9=39366:=by decide
 omega
theorem E3 {rs:List Rn} (hr:∀ r∈rs,Q5 5 r) (hn:rs.length<=9):∀ p∈X5 (Zf rs),Nice p:=by
 intro p hp;unfold X5 at hp;split at hp
 ·cases hp
 ·rename_i h0;obtain⟨p1,k1,k2,l1,l2,l3,hphi,lf⟩:=Kj hr hn h0;rcases List.mem_cons.1 hp with rfl | hp
  ·exact⟨k1.mono (by omega),l1,lf⟩
  ·exact T6 _ _ _ 11 (by decide) (by omega) l1 p1 (Qf _) k1 k2.prim hphi p hp
theorem Me {rs:List Rn} (hr:∀ r∈rs,Q5 5 r) (hn:rs.length<=9):(X5 (Zf rs)).length<=10:=by
 unfold X5;split
 ·simp
 ·rename_i h0;obtain⟨_,_,_,l1,_⟩:=Kj hr hn h0;have:=Mf (Qg (Zf rs)).length (Qg (Zf rs)) (prim (Qv (Qg (Zf rs))));simp;omega
theorem Zdz {rs:List Rn} (hr:∀ r∈rs,Q5 5 r) (hn:rs.length<=9):Zc Yir 67 [.sl rs.length (pc rs)] (.fresh 1 (pps (X5 (Zf rs))).length (pp (pps (X5 (Zf rs))))):=by
 have hf:=Rb hr hn (by omega) (by decide);by_cases h0:Qg (Zf rs)=[]
 ·have e:X5 (Zf rs)=[]:=by unfold X5;rw[if_pos h0]
  rw[e];rw[h0] at hf;rcases hf with h | h
  ·exact Zd5 rs [] (by decide) h
  ·exact Zd3 rs [] (by decide) h
 ·obtain⟨p1,k1,k2,l1,l2,l3,hphi,lf⟩:=Kj hr hn h0;have e:X5 (Zf rs)=Qg (Zf rs)::Xq (Qg (Zf rs)).length (Qg (Zf rs)) (prim (Qv (Qg (Zf rs)))):=by unfold X5;rw[if_neg h0]
  have hd:=Bi (rs:=(Qg (Zf rs)).map cn) (Z2 k1) (by omega) (by rw[List.length_map];omega);rw[Z3] at hd;have hp:=Jw (rs:=(Qv (Qg (Zf rs))).map cn) (Z2 k2) (by omega) (by rw[List.length_map];omega);rw[Z3] at hp;obtain⟨as',bs',hl⟩:=Zdu (Qg (Zf rs)).length (Qg (Zf rs)) (prim (Qv (Qg (Zf rs)))) 11 [(Qg (Zf rs)).map cn] (by decide) (by omega) (by omega) l1 p1 (Qf _) k1 k2.prim hphi (by simp;omega);have e2:[(Qg (Zf rs)).map cn]++pps (Xq (Qg (Zf rs)).length (Qg (Zf rs)) (prim (Qv (Qg (Zf rs)))))=pps (X5 (Zf rs)):=by rw[e];simp[pps]
  rw[e2] at hl;have c1:(((((Qg (Zf rs)).map cn).length:Nat):Int)==0)=false:=by
   rw[beq_eq_false_iff_ne,List.length_map];have:=List.length_pos_iff.2 h0;omega
  rcases hf with h | h
  ·exact Zd4 rs _ _ _ as' bs' _ c1 h (U2 hd) (U2 hp) hl
  ·exact Zd2 rs _ _ _ as' bs' _ c1 h (U2 hd) (U2 hp) hl
theorem Zgh (ls:List (List Rn)) (us bs:List Rn) {n:Nat} (hn:n=ls.length+2) (hN:n<=1048576):Qn (pp (ls++[us])++([.sl bs.length (pc bs)]:List AV)) (Int.toNat (i64.wrap ((n:Int)-2))*1) 1 true=some (.sl us.length (pc us)):=by
 have e:Int.toNat (i64.wrap ((n:Int)-2))*1=ls.length:=by rw[w64 (by omega) (by omega)];omega
 rw[e];simp only[Qn,if_true];rw[List.getElem?_append_left (by simp[pp])];simp[pp]
theorem Ta:∀ (f:Nat) (x y:List Int) (M:Nat) (ls:List (List Rn)),0<M->y.length<=f->y.length<=x.length->x.length<=9->prim x=x->prim y=y->Kb (M-1) x->Kb (M-1) y->M*phi x.length y.length<=500000->ls.length+f<=1000 ->
  ∃ bs',Za Yir (.loop Zl4) (Rp (ls.length+1) (pp (ls++[x.map cn])) (y.map cn)) (.exit 0) (Rp (ls++[x.map cn]++pps (Xq f x y)).length (pp (ls++[x.map cn]++pps (Xq f x y))) bs'):=by
 intro f;induction f with
 | zero =>
  intro x y M ls _ h1 _ _ _ _ _ _ _ _;have:y=[]:=List.eq_nil_of_length_eq_zero (by omega);subst this;have e:ls++[x.map cn]++pps (Xq 0 x [])=ls++[x.map cn]:=by simp[pps,Xq]
  rw[e,List.length_append];exact⟨_,Za.loop_out (Zkl _ _ _ (by simp)) (by nofun)⟩
 | succ f ih =>
  intro x y M ls hM h1 h2 h3 px py kx ky hphi hls;simp only[Xq];split
  ·rename_i h;subst h;have e:ls++[x.map cn]++pps []=ls++[x.map cn]:=by simp[pps]
   rw[e,List.length_append];exact⟨_,Za.loop_out (Zkl _ _ _ (by simp)) (by nofun)⟩
  ·rename_i h;have hyl:=List.length_pos_iff.2 h;obtain⟨r1,r2,r3⟩:=Ht hM (Ql px) h kx ky h2;have hM':0<M*(x.length-y.length+2):=Nat.mul_pos hM (by omega);have hMle:M<=M*(x.length-y.length+2):=Nat.le_mul_of_pos_right M (by omega);have hbig:M*(x.length-y.length+2)<=500000:=by
    refine Nat.le_trans (Nat.mul_le_mul_left _ ?_) hphi;unfold phi;exact Nat.le_mul_of_pos_right _ (Nat.pow_pos (by decide))
   have hrem:=Ea (rs:=x.map cn) (ss:=y.map cn) (Z2 kx) (Z2 ky) (by omega) (by omega) (by rw[List.length_map];omega) (by rw[List.length_map];omega) (by rw[Z3,Ql py];exact h) (by
    rw[Z3,Z3,Ql px,Ql py,Nat.sub_add_cancel hM,show x.length+1-y.length=x.length-y.length+1 by omega,Nat.mul_comm _ M];have:M*(x.length-y.length+2)=M*(x.length-y.length+1)+M:=by rw[<- Nat.mul_succ]
    omega)
   rw[Z3,Z3,px,py] at hrem;have hneg:=Zbq (rs:=(J3 x y).map cn) (fun r hr=>(Z2 r3 r hr).mono (by omega)) (by rw[List.length_map];omega);rw[Z3,Fq r1] at hneg;have hls1:(ls++[x.map cn]).length=ls.length+1:=by simp
   have e2:i64.wrap ((((ls.length+1+1):Nat):Int)-2)=(ls.length:Int):=by rw[w64 (by omega) (by omega)];omega
   have k:=Z09 (ls.length+1) (pp (ls++[x.map cn])) (y.map cn) (x.map cn) ((J3 x y).map cn) _ (by simp;omega) (by omega) (by rw[e2];omega) (Zgh ls (x.map cn) (y.map cn) (by omega) (by omega)) hrem (U2 hneg);rw[Zf8] at k;obtain⟨bs',hb⟩:=ih y (Vq (J3 x y)) (M*(x.length-y.length+2)) (ls++[x.map cn]) hM' (by rw[X1];omega) (by rw[X1];omega) (by omega) py (Wl (V0 _ _ _ px)) (ky.mono (by omega)) (Tp r3) (by rw[X1];exact Hu r2 hphi) (by rw[hls1];omega);have e:ls++[x.map cn]++[y.map cn]++pps (Xq f y (Vq (J3 x y)))=ls++[x.map cn]++pps (y::Xq f y (Vq (J3 x y))):=by simp[pps]
   rw[e,hls1] at hb;exact⟨bs',Za.loop k hb⟩
theorem Zda {rs:List Rn} (hr:∀ r∈rs,Q5 5 r) (hn:rs.length<=9):Zc Yir 108 [.sl rs.length (pc rs)] (.fresh 1 (pps (X5 (Zf rs))).length (pp (pps (X5 (Zf rs))))):=by
 have hf:=A9 hr hn (by omega) (by decide);by_cases h0:Qg (Zf rs)=[]
 ·have e:X5 (Zf rs)=[]:=by unfold X5;rw[if_pos h0]
  rw[e];rw[h0] at hf;exact Zjj rs [] (by decide) hf
 ·obtain⟨p1,k1,k2,l1,l2,l3,hphi,lf⟩:=Kj hr hn h0;have e:X5 (Zf rs)=Qg (Zf rs)::Xq (Qg (Zf rs)).length (Qg (Zf rs)) (prim (Qv (Qg (Zf rs)))):=by unfold X5;rw[if_neg h0]
  have hd:=Zbr (rs:=(Qg (Zf rs)).map cn) (Z2 k1) (by omega) (by rw[List.length_map];omega);rw[Z3] at hd;have hp:=V6 (rs:=(Qv (Qg (Zf rs))).map cn) (Z2 k2) (by omega) (by rw[List.length_map];omega);rw[Z3] at hp;obtain⟨bs',hl⟩:=Ta (Qg (Zf rs)).length (Qg (Zf rs)) (prim (Qv (Qg (Zf rs)))) 11 [] (by decide) (by omega) (by omega) l1 p1 (Qf _) k1 k2.prim hphi (by simp;omega);have e2:[]++[(Qg (Zf rs)).map cn]++pps (Xq (Qg (Zf rs)).length (Qg (Zf rs)) (prim (Qv (Qg (Zf rs)))))=pps (X5 (Zf rs)):=by rw[e];simp[pps]
  rw[e2] at hl;have c1:(((((Qg (Zf rs)).map cn).length:Nat):Int)==0)=false:=by
   rw[beq_eq_false_iff_ne,List.length_map];have:=List.length_pos_iff.2 h0;omega
  exact Zji rs _ _ _ bs' _ c1 hf (U2 hd) (U2 hp) hl
def Zmr (x:Int × Int) (s:Int):Int × Int:=(if s ≠ 0/\x.2 ≠ 0/\s ≠ x.2 then x.1+1 else x.1,if s ≠ 0 then s else x.2)
def Ss (l:List (List Int)) (N:Int) (e:Nat) (i:Nat):Int:=Xd (hv (l.getD i []) N (2^e))
def Jx (l:List (List Int)) (N:Int) (e:Nat):Nat->Int × Int
 | 0=>(0,0)
 | i+1=>Zmr (Jx l N e i) (Ss l N e i)
theorem G4 (l:List (List Int)) (N:Int) (e:Nat):∀ i:Nat,0<=(Jx l N e i).1/\(Jx l N e i).1<=(i:Int)
 | 0=>by simp[Jx]
 | i+1=>by
  have:=G4 l N e i;simp only[Jx,Zmr];split <;> omega
theorem Zbt {l:List (List Int)} {i:Nat} (h:i<l.length):(pps l).getD i []=(l.getD i []).map cn:=by
 unfold pps;rw[List.getD_eq_getElem?_getD,List.getElem?_map,List.getD_eq_getElem?_getD,List.getElem?_eq_getElem h];rfl
theorem Zf7 (l:List (List Int)):(pps l).length=l.length:=List.length_map ..
section
variable {l:List (List Int)} {r:Rn} (hl:∀ p∈l,Nice p) (hr:Q5 100 r) (hN:l.length<=100) (e:Nat) (he:e<=4096)
include hl hr he
theorem at_run {i:Nat} (hi:i<l.length):Zc Yir 65 [.sl ((pps l).getD i []).length (pc ((pps l).getD i [])),.agg [.bool r.1,.sl r.2.length (lm r.2),.int .i64 (e:Nat)]] (.int .i64 (Ss l (Zh r) e i)):=by
 rw[Zbt hi];have hm:l.getD i []∈l:=by rw[List.getD_eq_getElem?_getD,List.getElem?_eq_getElem hi];exact List.getElem_mem hi
 obtain⟨h1,h2,h3⟩:=hl _ hm;have h:=G1 (rs:=(l.getD i []).map cn) (Z2 h1) hr e (by
  rw[List.length_map];have h4:((l.getD i []).length+1)*(100+(e / 32+1)+1)<=10*230:=Nat.mul_le_mul (by omega) (by omega);omega) (by omega)
 rw[Z3] at h;exact h
theorem Znd {i:Nat} (hi:i<l.length):∃ w:Int,Zc Yir 80 [.sl ((pps l).getD i []).length (pc ((pps l).getD i [])),.agg [.bool r.1,.sl r.2.length (lm r.2)],.int .i64 (e:Nat)] (Zi w)/\Zc Yir 79 [Zi w] (.int .i64 (Ss l (Zh r) e i)):=by
 rw[Zbt hi];have hm:l.getD i []∈l:=by rw[List.getD_eq_getElem?_getD,List.getElem?_eq_getElem hi];exact List.getElem_mem hi
 obtain⟨h1,h2,h3⟩:=hl _ hm;have hS:500000+2+(((l.getD i []).map cn).length+1)*(100+(e / 32+1)+1)<=1048576:=by
  rw[List.length_map];have h4:((l.getD i []).length+1)*(100+(e / 32+1)+1)<=10*230:=Nat.mul_le_mul (by omega) (by omega);omega
 have h:=Ny (rs:=(l.getD i []).map cn) (Z2 h1) hr e hS (by omega);rw[Z3,h3] at h;have hf:=Tu (K:=500000) hr.fits e (ts:=l.getD i []) h1.mem;have hlen:(l.getD i []).length*(100+(e / 32+1)+1)<=9*230:=Nat.mul_le_mul (by omega) (by omega);exact⟨_,h,Zbh (n:=hv (l.getD i []) (Zh r) (2^e)) (by have:=hf.len;omega)⟩
theorem E2 (hN:l.length<=100):Zc Yir 68 [.sl (pps l).length (pp (pps l)),.agg [.bool r.1,.sl r.2.length (lm r.2),.int .i64 (e:Nat)]] (.int .i64 (Jx l (Zh r) e l.length).1):=by
 have hpl:=Zf7 l;have h:=Za.up (prog:=Yir) (c:=Zv1) (ex := .exit 0) (fin:=Zck (pps l) r (e:Nat) (Jx l (Zh r) e l.length).1 (Jx l (Zh r) e l.length).2 (((pps l).length:Nat):Int) (l.length:Nat))
  (fun i=>Zck (pps l) r (e:Nat) (Jx l (Zh r) e i).1 (Jx l (Zh r) e i).2 (((pps l).length:Nat):Int) (i:Nat)) l.length (by nofun) ?_ ?_ 0 (Nat.zero_le _)
 ·exact Yrun68 (pps l) r (e:Nat) _ _ _ h
 ·intro i hi;have ei:i64.wrap ((i:Int)+1)=((i+1:Nat):Int):=by rw[w64 (by omega) (by omega)];omega
  have hs:=at_run hl hr e he hi;have hb:=G4 l (Zh r) e i;have w1:i64.wrap ((Jx l (Zh r) e i).1+1)=(Jx l (Zh r) e i).1+1:=w64 (by omega) (by omega);have c1:decide ((i:Int)<(((pps l).length:Nat):Int))=true:=by rw[decide_eq_true_eq];omega
  simp only[Jx,Zmr];by_cases g1:Ss l (Zh r) e i=0
  ·rw[if_neg (fun h=>h.1 g1),if_neg (fun h=>h g1)];have k:=Yk68_4 (pps l) r (e:Nat) (Jx l (Zh r) e i).1 (Jx l (Zh r) e i).2 (((pps l).length:Nat):Int) (i:Nat) (Ss l (Zh r) e i) c1 (by rw[bne_eq_false_iff_eq];exact g1) (by omega) (by rw[Int.toNat_natCast];exact hs);rwa [ei] at k
  ·by_cases g2:(Jx l (Zh r) e i).2=0
   ·rw[if_neg (fun h=>h.2.1 g2),if_pos g1];have k:=Yk68_3 (pps l) r (e:Nat) (Jx l (Zh r) e i).1 (Jx l (Zh r) e i).2 (((pps l).length:Nat):Int) (i:Nat) (Ss l (Zh r) e i) c1 (by rw[bne_iff_ne];exact g1) (by rw[bne_eq_false_iff_eq];exact g2) (by omega) (by rw[Int.toNat_natCast];exact hs);rwa [ei] at k
   ·by_cases g3:Ss l (Zh r) e i=(Jx l (Zh r) e i).2
    ·rw[if_neg (fun h=>h.2.2 g3),if_pos g1];have k:=Yk68_2 (pps l) r (e:Nat) (Jx l (Zh r) e i).1 (Jx l (Zh r) e i).2 (((pps l).length:Nat):Int) (i:Nat) (Ss l (Zh r) e i) c1 (by rw[bne_iff_ne];exact g1) (by rw[bne_iff_ne];exact g2) (by rw[bne_eq_false_iff_eq];exact g3) (by omega) (by rw[Int.toNat_natCast];exact hs);rwa [ei] at k
    ·rw[if_pos ⟨g1,g2,g3⟩,if_pos g1];have k:=Yk68_1 (pps l) r (e:Nat) (Jx l (Zh r) e i).1 (Jx l (Zh r) e i).2 (((pps l).length:Nat):Int) (i:Nat) (Ss l (Zh r) e i) c1 (by rw[bne_iff_ne];exact g1) (by rw[bne_iff_ne];exact g2) (by rw[bne_iff_ne];exact g3) (by omega) (by rw[Int.toNat_natCast];exact hs);rwa [ei,w1] at k
 ·exact Yk68_5 (pps l) r _ _ _ _ _ (by rw[decide_eq_false_iff_not];omega)
theorem Za6 (hN:l.length<=100):Zc Yir 110 [.sl (pps l).length (pp (pps l)),.agg [.bool r.1,.sl r.2.length (lm r.2),.int .i64 (e:Nat)]] (.int .i64 (Jx l (Zh r) e l.length).1):=by
 have hpl:=Zf7 l;have h:=Za.up (prog:=Yir) (c:=Sg) (ex := .exit 0) (fin:=F5 (pps l) r (e:Nat) (Jx l (Zh r) e l.length).1 (Jx l (Zh r) e l.length).2 (l.length:Nat))
  (fun i=>F5 (pps l) r (e:Nat) (Jx l (Zh r) e i).1 (Jx l (Zh r) e i).2 (i:Nat)) l.length (by nofun) ?_ ?_ 0 (Nat.zero_le _)
 ·exact Zyi (pps l) r (e:Nat) _ _ _ h
 ·intro i hi;have ei:i64.wrap ((i:Int)+1)=((i+1:Nat):Int):=by rw[w64 (by omega) (by omega)];omega
  obtain⟨w,hs,hs2⟩:=Znd hl hr e he hi;have hb:=G4 l (Zh r) e i;have w1:i64.wrap ((Jx l (Zh r) e i).1+1)=(Jx l (Zh r) e i).1+1:=w64 (by omega) (by omega);have c1:decide ((i:Int)<(((pps l).length:Nat):Int))=true:=by rw[decide_eq_true_eq];omega
  simp only[Jx,Zmr];by_cases g1:Ss l (Zh r) e i=0
  ·rw[if_neg (fun h=>h.1 g1),if_neg (fun h=>h g1)];have k:=Z05 (pps l) r (e:Nat) (Jx l (Zh r) e i).1 (Jx l (Zh r) e i).2 (i:Nat) w (Ss l (Zh r) e i) c1 (by rw[bne_eq_false_iff_eq];exact g1) (by omega) (by rw[Int.toNat_natCast];exact hs) hs2;rwa [ei] at k
  ·by_cases g2:(Jx l (Zh r) e i).2=0
   ·rw[if_neg (fun h=>h.2.1 g2),if_pos g1];have k:=Z06 (pps l) r (e:Nat) (Jx l (Zh r) e i).1 (Jx l (Zh r) e i).2 (i:Nat) w (Ss l (Zh r) e i) c1 (by rw[bne_iff_ne];exact g1) (by rw[bne_eq_false_iff_eq];exact g2) (by omega) (by rw[Int.toNat_natCast];exact hs) hs2;rwa [ei] at k
   ·by_cases g3:Ss l (Zh r) e i=(Jx l (Zh r) e i).2
    ·rw[if_neg (fun h=>h.2.2 g3),if_pos g1];have k:=Z07 (pps l) r (e:Nat) (Jx l (Zh r) e i).1 (Jx l (Zh r) e i).2 (i:Nat) w (Ss l (Zh r) e i) c1 (by rw[bne_iff_ne];exact g1) (by rw[bne_iff_ne];exact g2) (by rw[bne_eq_false_iff_eq];exact g3) (by omega) (by rw[Int.toNat_natCast];exact hs) hs2;rwa [ei] at k
    ·rw[if_pos ⟨g1,g2,g3⟩,if_pos g1];have k:=Z08 (pps l) r (e:Nat) (Jx l (Zh r) e i).1 (Jx l (Zh r) e i).2 (i:Nat) w (Ss l (Zh r) e i) c1 (by rw[bne_iff_ne];exact g1) (by rw[bne_iff_ne];exact g2) (by rw[bne_iff_ne];exact g3) (by omega) (by rw[Int.toNat_natCast];exact hs) hs2;rwa [ei,w1] at k
 ·exact Z04 (pps l) r _ _ _ _ (by rw[decide_eq_false_iff_not];omega)
end
end Go.Proofs.YtopjpgejefileaaGreat

namespace Go.Proofs.YtopjpgejefileaaGreat
open Go.IntKind (i64 u64 u32)
open Go.Ai
set_option maxRecDepth 100000
theorem Zom (na nb:Bool) (xs ys:List Int) (s t:Int) (c1:(decide (s<t))=true) (n1:Zc Yir 79 [.agg [.bool na,.sl xs.length (lm xs)]] (.int .i64 s)) (n2:Zc Yir 79 [.agg [.bool nb,.sl ys.length (lm ys)]] (.int .i64 t)):Zc Yir 83 [.agg [.bool na,.sl xs.length (lm xs)],.agg [.bool nb,.sl ys.length (lm ys)]] (.int .i64 (-1)):=Zc.go (fn:=Zvx) Zd rfl 400 rfl [.r (.int .i64 s),.r (.int .i64 t),.b true] (ac n1 (ac n2 (ac c1 a0)))
theorem Zol (na nb:Bool) (xs ys:List Int) (s t:Int) (c1:(decide (s<t))=false) (c2:(decide (s>t))=true) (n1:Zc Yir 79 [.agg [.bool na,.sl xs.length (lm xs)]] (.int .i64 s)) (n2:Zc Yir 79 [.agg [.bool nb,.sl ys.length (lm ys)]] (.int .i64 t)):Zc Yir 83 [.agg [.bool na,.sl xs.length (lm xs)],.agg [.bool nb,.sl ys.length (lm ys)]] (.int .i64 1):=Zc.go (fn:=Zvx) Zd rfl 400 rfl [.r (.int .i64 s),.r (.int .i64 t),.b false,.b true] (ac n1 (ac n2 (ac c1 (ac c2 a0))))
theorem Zok (na nb:Bool) (xs ys:List Int) (s t c:Int) (c1:(decide (s<t))=false) (c2:(decide (s>t))=false) (c3:(decide (s<0))=true) (n1:Zc Yir 79 [.agg [.bool na,.sl xs.length (lm xs)]] (.int .i64 s)) (n2:Zc Yir 79 [.agg [.bool nb,.sl ys.length (lm ys)]] (.int .i64 t)) (n3:Zc Yir 99 [.sl xs.length (lm xs)] (.fresh 1 ((Ze xs).length) (lm (Ze xs)))) (n4:Zc Yir 99 [.sl ys.length (lm ys)] (.fresh 1 ((Ze ys).length) (lm (Ze ys)))) (n5:Zc Yir 134 [.sl ((Ze xs).length) (lm (Ze xs)),.sl ((Ze ys).length) (lm (Ze ys))] (.int .i64 c)):Zc Yir 83 [.agg [.bool na,.sl xs.length (lm xs)],.agg [.bool nb,.sl ys.length (lm ys)]] (.int .i64 (i64.wrap (0-c))):=Zc.go (fn:=Zvx) Zd rfl 400 rfl [.r (.int .i64 s),.r (.int .i64 t),.b false,.b false,.r (.fresh 1 ((Ze xs).length) (lm (Ze xs))),.r (.fresh 1 ((Ze ys).length) (lm (Ze ys))),.r (.int .i64 c),.b true] (ac n1 (ac n2 (ac c1 (ac c2 (ac n3 (ac n4 (ac n5 (ac c3 a0))))))))
theorem Zoj (na nb:Bool) (xs ys:List Int) (s t c:Int) (c1:(decide (s<t))=false) (c2:(decide (s>t))=false) (c3:(decide (s<0))=false) (n1:Zc Yir 79 [.agg [.bool na,.sl xs.length (lm xs)]] (.int .i64 s)) (n2:Zc Yir 79 [.agg [.bool nb,.sl ys.length (lm ys)]] (.int .i64 t)) (n3:Zc Yir 99 [.sl xs.length (lm xs)] (.fresh 1 ((Ze xs).length) (lm (Ze xs)))) (n4:Zc Yir 99 [.sl ys.length (lm ys)] (.fresh 1 ((Ze ys).length) (lm (Ze ys)))) (n5:Zc Yir 134 [.sl ((Ze xs).length) (lm (Ze xs)),.sl ((Ze ys).length) (lm (Ze ys))] (.int .i64 c)):Zc Yir 83 [.agg [.bool na,.sl xs.length (lm xs)],.agg [.bool nb,.sl ys.length (lm ys)]] (.int .i64 c):=Zc.go (fn:=Zvx) Zd rfl 400 rfl [.r (.int .i64 s),.r (.int .i64 t),.b false,.b false,.r (.fresh 1 ((Ze xs).length) (lm (Ze xs))),.r (.fresh 1 ((Ze ys).length) (lm (Ze ys))),.r (.int .i64 c),.b false] (ac n1 (ac n2 (ac c1 (ac c2 (ac n3 (ac n4 (ac n5 (ac c3 a0))))))))
theorem Zjq (na nb m1 m2:Bool) (xs ys us vs:List Int) (d:Int) (c1:(m1)=true) (c2:(m2)=true) (n1:Zc Yir 143 [.agg [.bool na,.sl xs.length (lm xs)]] (.tup [.bool m1,.sl us.length (lm us)])) (n2:Zc Yir 143 [.agg [.bool nb,.sl ys.length (lm ys)]] (.tup [.bool m2,.sl vs.length (lm vs)])) (n3:Zc Yir 151 [.sl vs.length (lm vs),.sl us.length (lm us)] (.int .i64 d)):Zc Yir 103 [.agg [.bool na,.sl xs.length (lm xs)],.agg [.bool nb,.sl ys.length (lm ys)]] (.int .i64 d):=Zc.go (fn:=R2) Zd rfl 400 rfl [.r (.tup [.bool m1,.sl us.length (lm us)]),.r (.tup [.bool m2,.sl vs.length (lm vs)]),.b true,.b false,.b true,.b false,.b true,.r (.int .i64 d)] (ac n1 (ac n2 (ac c1 (ac (show (!m2)=false from (by rw [c2];rfl)) (ac c2 (ac (show (!m1)=false from (by rw [c1];rfl)) (ac c1 (ac n3 a0))))))))
theorem Zjp (na nb m1 m2:Bool) (xs ys us vs:List Int) (c1:(m1)=true) (c2:(m2)=false) (n1:Zc Yir 143 [.agg [.bool na,.sl xs.length (lm xs)]] (.tup [.bool m1,.sl us.length (lm us)])) (n2:Zc Yir 143 [.agg [.bool nb,.sl ys.length (lm ys)]] (.tup [.bool m2,.sl vs.length (lm vs)])):Zc Yir 103 [.agg [.bool na,.sl xs.length (lm xs)],.agg [.bool nb,.sl ys.length (lm ys)]] (.int .i64 (-1)):=Zc.go (fn:=R2) Zd rfl 400 rfl [.r (.tup [.bool m1,.sl us.length (lm us)]),.r (.tup [.bool m2,.sl vs.length (lm vs)]),.b true,.b true] (ac n1 (ac n2 (ac c1 (ac (show (!m2)=true from (by rw [c2];rfl)) a0))))
theorem Zjo (na nb m1 m2:Bool) (xs ys us vs:List Int) (c1:(m1)=false) (c2:(m2)=true) (n1:Zc Yir 143 [.agg [.bool na,.sl xs.length (lm xs)]] (.tup [.bool m1,.sl us.length (lm us)])) (n2:Zc Yir 143 [.agg [.bool nb,.sl ys.length (lm ys)]] (.tup [.bool m2,.sl vs.length (lm vs)])):Zc Yir 103 [.agg [.bool na,.sl xs.length (lm xs)],.agg [.bool nb,.sl ys.length (lm ys)]] (.int .i64 1):=Zc.go (fn:=R2) Zd rfl 400 rfl [.r (.tup [.bool m1,.sl us.length (lm us)]),.r (.tup [.bool m2,.sl vs.length (lm vs)]),.b false,.b false,.b true,.b true] (ac n1 (ac n2 (ac c1 (ac (show false=false from rfl) (ac c2 (ac (show (!m1)=true from (by rw [c1];rfl)) a0))))))
theorem Zjn (na nb m1 m2:Bool) (xs ys us vs:List Int) (c:Int) (c1:(m1)=false) (c2:(m2)=false) (n1:Zc Yir 143 [.agg [.bool na,.sl xs.length (lm xs)]] (.tup [.bool m1,.sl us.length (lm us)])) (n2:Zc Yir 143 [.agg [.bool nb,.sl ys.length (lm ys)]] (.tup [.bool m2,.sl vs.length (lm vs)])) (n3:Zc Yir 151 [.sl us.length (lm us),.sl vs.length (lm vs)] (.int .i64 c)):Zc Yir 103 [.agg [.bool na,.sl xs.length (lm xs)],.agg [.bool nb,.sl ys.length (lm ys)]] (.int .i64 c):=Zc.go (fn:=R2) Zd rfl 400 rfl [.r (.tup [.bool m1,.sl us.length (lm us)]),.r (.tup [.bool m2,.sl vs.length (lm vs)]),.b false,.b false,.b false,.b false,.b false,.r (.int .i64 c)] (ac n1 (ac n2 (ac c1 (ac (show false=false from rfl) (ac c2 (ac (show false=false from rfl) (ac c1 (ac n3 a0))))))))
def Wh (m:Bool) (k:Int) (s:Int) (ms:List Int) (lost:Bool) (i:Int):Zk:=(dds 4 (.box [.bool false,.sl 0 []]::(.val (.bool m)::(.val (.sl ms.length (lm ms))::(.val (.int .i64 k)::(.val (.int .u64 s)::(.val (.bool lost)::(.val (.int .i64 i)::(dds 92 [])))))))))
theorem Zro (m:Bool) (k:Int) (s:Int) (ms:List Int) (lost:Bool) (i:Int)  (c1:(decide (i<k))=true) (c2:(decide (i<(ms.length:Int)))=true) (c3:(lost)=false) (n1:0<=i/\i<(ms.length:Int)):Za Yir Bs (Wh m k s ms lost i) .norm (Wh m k s ms ((ms.getD (Int.toNat i) 0) != 0) (i64.wrap (i+1))):=(Za.go Zd 400 [.b true,.b true,.b false,.v (.int .u32 (ms.getD (Int.toNat i) 0))] [4,5,6,7,8,9,10] (ac c1 (ac c2 (ac c3 (ac n1 (ac (Zu n1) a0))))))
theorem Zrn (m:Bool) (k:Int) (s:Int) (ms:List Int) (lost:Bool) (i:Int)  (c1:(decide (i<k))=false):Za Yir Bs (Wh m k s ms lost i) (.exit 0) (Wh m k s ms lost i):=(Za.go Zd 400 [.b false,.b false] [4,5,6,7,8,9,10] (ac c1 (ac (show false=false from rfl) a0)))
def Vs (m:Bool) (k:Int) (s:Int) (ms:List Int) (lost:Bool) (n:Nat) (cs:List AV) (i:Int):Zk:=(dds 4 (.box [.bool false,.sl 0 []]::(.val (.bool m)::(.val (.sl ms.length (lm ms))::(.val (.int .i64 k)::(.val (.int .u64 s)::(.val (.bool lost)::(dds 1 (.own 1 n cs::(.val (.int .i64 i)::(dds 90 [])))))))))))
theorem Zrm (m:Bool) (k:Int) (s:Int) (ms:List Int) (lost:Bool) (n:Nat) (cs:List AV) (i:Int)  (c1:(decide (i<(ms.length:Int)))=true) (c2:(decide ((i64.wrap (i+1))<(ms.length:Int)))=true) (n1:0<=i/\i<(ms.length:Int)) (n2:0<=(i64.wrap (i+1))/\(i64.wrap (i+1))<(ms.length:Int)) (n3:¬ s<0) (n4:n+1<=35184372088832):Za Yir F7 (Vs m k s ms lost n cs i) .norm (Vs m k s ms lost (n+1) (cs++([.int .u32 (u32.wrap (Int.fdiv (u64.wrap ((BitVec.ofInt (IntKind.bits .u64) (u64.wrap (ms.getD (Int.toNat i) 0)) ||| BitVec.ofInt (IntKind.bits .u64) (u64.wrap ((u64.wrap (ms.getD (Int.toNat (i64.wrap (i+1))) 0))*2^(min (Int.toNat 32) (IntKind.bits .u64))))).toNat)) (2^(min (Int.toNat s) (IntKind.bits .u64)))))]:List AV)) (i64.wrap (i+1))):=(Za.go Zd 400 [.b true,.v (.int .u32 (ms.getD (Int.toNat i) 0)),.b true,.v (.int .u32 (ms.getD (Int.toNat (i64.wrap (i+1))) 0))] [4,5,6,7,8,9,11,12] (ac c1 (ac n1 (ac (Zu n1) (ac c2 (ac n2 (ac (Zu n2) (ac (show ¬ (32:Int)<0 from (by decide)) (ac n3 (ac (show List.length ([.int .u32 (u32.wrap (Int.fdiv (u64.wrap ((BitVec.ofInt (IntKind.bits .u64) (u64.wrap (ms.getD (Int.toNat i) 0)) ||| BitVec.ofInt (IntKind.bits .u64) (u64.wrap ((u64.wrap (ms.getD (Int.toNat (i64.wrap (i+1))) 0))*2^(min (Int.toNat 32) (IntKind.bits .u64))))).toNat)) (2^(min (Int.toNat s) (IntKind.bits .u64)))))]:List AV)=1*1 from rfl) (ac n4 a0)))))))))))
theorem Zrl (m:Bool) (k:Int) (s:Int) (ms:List Int) (lost:Bool) (n:Nat) (cs:List AV) (i:Int)  (c1:(decide (i<(ms.length:Int)))=true) (c2:(decide ((i64.wrap (i+1))<(ms.length:Int)))=false) (n1:0<=i/\i<(ms.length:Int)) (n2:¬ s<0) (n3:n+1<=35184372088832):Za Yir F7 (Vs m k s ms lost n cs i) .norm (Vs m k s ms lost (n+1) (cs++([.int .u32 (u32.wrap (Int.fdiv (u64.wrap (ms.getD (Int.toNat i) 0)) (2^(min (Int.toNat s) (IntKind.bits .u64)))))]:List AV)) (i64.wrap (i+1))):=(Za.go Zd 400 [.b true,.v (.int .u32 (ms.getD (Int.toNat i) 0)),.b false] [4,5,6,7,8,9,11,12] (ac c1 (ac n1 (ac (Zu n1) (ac c2 (ac n2 (ac (show List.length ([.int .u32 (u32.wrap (Int.fdiv (u64.wrap (ms.getD (Int.toNat i) 0)) (2^(min (Int.toNat s) (IntKind.bits .u64)))))]:List AV)=1*1 from rfl) (ac n3 a0))))))))
theorem Zrk (m:Bool) (k:Int) (s:Int) (ms:List Int) (lost:Bool) (n:Nat) (cs:List AV) (i:Int)  (c1:(decide (i<(ms.length:Int)))=false):Za Yir F7 (Vs m k s ms lost n cs i) (.exit 2) (Vs m k s ms lost n cs i):=(Za.go Zd 400 [.b false] [4,5,6,7,8,9,11,12] (ac c1 a0))
theorem Zii (neg m lost:Bool) (xs ms os:List Int) (sh i1 i2 u:Int) (c1:(decide ((i64.wrap (Int.tdiv sh 32))<(ms.length:Int)))=true) (c2:((u32.wrap ((BitVec.ofInt (IntKind.bits .u32) (ms.getD (Int.toNat (i64.wrap (Int.tdiv sh 32))) 0) &&& BitVec.ofInt (IntKind.bits .u32) (u32.wrap ((u32.wrap (1*2^(min (Int.toNat (u64.wrap (Int.tmod sh 32))) (IntKind.bits .u32))))-1))).toNat)) != 0)=false) (c3:(m)=true) (c4:(lost)=false) (n1:Zc Yir 143 [.agg [.bool neg,.sl xs.length (lm xs)]] (.tup [.bool m,.sl ms.length (lm ms)])) (hl2:Za Yir (.loop Bs) (Wh m (i64.wrap (Int.tdiv sh 32)) (u64.wrap (Int.tmod sh 32)) ms false 0) (.exit 0) (Wh m (i64.wrap (Int.tdiv sh 32)) (u64.wrap (Int.tmod sh 32)) ms lost i1)) (hl3:Za Yir (.loop F7) (Vs m (i64.wrap (Int.tdiv sh 32)) (u64.wrap (Int.tmod sh 32)) ms lost 0 ([]:List AV) (i64.wrap (Int.tdiv sh 32))) (.exit 2) (Vs m (i64.wrap (Int.tdiv sh 32)) (u64.wrap (Int.tmod sh 32)) ms lost os.length (lm os) i2)) (n4:0<=(i64.wrap (Int.tdiv sh 32))/\(i64.wrap (Int.tdiv sh 32))<(ms.length:Int)) (n5:¬ (u64.wrap (Int.tmod sh 32))<0) (n6:Zc Yir 152 [.bool m,.sl os.length (lm os)] (Zi u)):Zc Yir 163 [.agg [.bool neg,.sl xs.length (lm xs)],.int .i64 sh] (Zi u):=Zc.of_bodyW (fn:=Zep) (s:=(dds 4 (.box [.bool (decide (u<0)),.sl ((Zb (Int.natAbs u)).length) (lm (Zb (Int.natAbs u)))]::(dds 98 [])))) (ex := .ret) rfl rfl (Za.asc (Za.asc (Za.asc (Za.csi (Za.seq (Za.go Zd 400 [.r (.tup [.bool m,.sl ms.length (lm ms)])] [4,5,6,7,8,9,10] (ac n1 (ac (show ¬ (32:Int)=0 from (by decide)) (ac (show ¬ (32:Int)=0 from (by decide)) a0)))) (Za.seq (Za.block hl2) (Za.csi (Za.seq (Za.go Zd 400 [] [4,5,6,7,8,9,11,12] a0) (Za.seq (Za.block hl3) (Za.go Zd 400 [.b true,.v (.int .u32 (ms.getD (Int.toNat (i64.wrap (Int.tdiv sh 32))) 0)),.b false,.b true,.b false,.r (Zi u)] [4] (ac c1 (ac n4 (ac (Zu n4) (ac n5 (ac c2 (ac c3 (ac c4 (ac n6 a0)))))))))))))))))) (by nofun) rfl
theorem Zih (neg m lost:Bool) (xs ms os:List Int) (sh i1 i2 u:Int) (c1:(decide ((i64.wrap (Int.tdiv sh 32))<(ms.length:Int)))=true) (c2:((u32.wrap ((BitVec.ofInt (IntKind.bits .u32) (ms.getD (Int.toNat (i64.wrap (Int.tdiv sh 32))) 0) &&& BitVec.ofInt (IntKind.bits .u32) (u32.wrap ((u32.wrap (1*2^(min (Int.toNat (u64.wrap (Int.tmod sh 32))) (IntKind.bits .u32))))-1))).toNat)) != 0)=false) (c3:(m)=false) (n1:Zc Yir 143 [.agg [.bool neg,.sl xs.length (lm xs)]] (.tup [.bool m,.sl ms.length (lm ms)])) (hl2:Za Yir (.loop Bs) (Wh m (i64.wrap (Int.tdiv sh 32)) (u64.wrap (Int.tmod sh 32)) ms false 0) (.exit 0) (Wh m (i64.wrap (Int.tdiv sh 32)) (u64.wrap (Int.tmod sh 32)) ms lost i1)) (hl3:Za Yir (.loop F7) (Vs m (i64.wrap (Int.tdiv sh 32)) (u64.wrap (Int.tmod sh 32)) ms lost 0 ([]:List AV) (i64.wrap (Int.tdiv sh 32))) (.exit 2) (Vs m (i64.wrap (Int.tdiv sh 32)) (u64.wrap (Int.tmod sh 32)) ms lost os.length (lm os) i2)) (n4:0<=(i64.wrap (Int.tdiv sh 32))/\(i64.wrap (Int.tdiv sh 32))<(ms.length:Int)) (n5:¬ (u64.wrap (Int.tmod sh 32))<0) (n6:Zc Yir 152 [.bool m,.sl os.length (lm os)] (Zi u)):Zc Yir 163 [.agg [.bool neg,.sl xs.length (lm xs)],.int .i64 sh] (Zi u):=Zc.of_bodyW (fn:=Zep) (s:=(dds 4 (.box [.bool (decide (u<0)),.sl ((Zb (Int.natAbs u)).length) (lm (Zb (Int.natAbs u)))]::(dds 98 [])))) (ex := .ret) rfl rfl (Za.asc (Za.asc (Za.asc (Za.csi (Za.seq (Za.go Zd 400 [.r (.tup [.bool m,.sl ms.length (lm ms)])] [4,5,6,7,8,9,10] (ac n1 (ac (show ¬ (32:Int)=0 from (by decide)) (ac (show ¬ (32:Int)=0 from (by decide)) a0)))) (Za.seq (Za.block hl2) (Za.csi (Za.seq (Za.go Zd 400 [] [4,5,6,7,8,9,11,12] a0) (Za.seq (Za.block hl3) (Za.go Zd 400 [.b true,.v (.int .u32 (ms.getD (Int.toNat (i64.wrap (Int.tdiv sh 32))) 0)),.b false,.b false,.b false,.r (Zi u)] [4] (ac c1 (ac n4 (ac (Zu n4) (ac n5 (ac c2 (ac c3 (ac (show false=false from rfl) (ac n6 a0)))))))))))))))))) (by nofun) rfl
theorem Yrun55 (r t:Rn) (e f X Y c:Int) (n1:Zc Yir 104 [Zp r,.int .i64 (i64.wrap ((if f>e then f else e)-e))] (Zi X)) (n2:Zc Yir 104 [Zp t,.int .i64 (i64.wrap ((if f>e then f else e)-f))] (Zi Y)) (n3:Zc Yir 103 [Zi X,Zi Y] (.int .i64 c)):Zc Yir 55 [.agg [.bool r.1,.sl r.2.length (lm r.2),.int .i64 e],.agg [.bool t.1,.sl t.2.length (lm t.2),.int .i64 f]] (.int .i64 c):=Zc.go (fn:=Yi55) Zd rfl 400 rfl [.r (Zi X),.r (Zi Y),.r (.int .i64 c)] (ac n1 (ac n2 (ac n3 a0)))
def No (n:Rn) (e:Int) (z:Int):Zk:=(dds 1 (.val (.int .i64 e)::(.box [.bool n.1,.sl n.2.length (lm n.2)]::(dds 1 (.box [.bool false,.sl 0 [],.int .i64 0]::(.val (.int .i64 z)::(dds 33 [])))))))
theorem Z0q (n:Rn) (e:Int) (z:Int)  (c1:(decide (z<e))=true) (c2:((u32.wrap ((BitVec.ofInt (IntKind.bits .u32) (Int.fdiv (n.2.getD (Int.toNat (i64.wrap (Int.tdiv z 32))) 0) (2^(min (Int.toNat (u64.wrap (Int.tmod z 32))) (IntKind.bits .u32)))) &&& BitVec.ofInt (IntKind.bits .u32) 1).toNat))==0)=true) (n1:0<=(i64.wrap (Int.tdiv z 32))/\(i64.wrap (Int.tdiv z 32))<(n.2.length:Int)) (n2:¬ (u64.wrap (Int.tmod z 32))<0):Za Yir Ze6 (No n e z) .norm (No n e (i64.wrap (z+1))):=(Za.go Zd 400 [.b true,.v (.int .u32 (n.2.getD (Int.toNat (i64.wrap (Int.tdiv z 32))) 0)),.b true] [1,2,4,5] (ac c1 (ac (show ¬ (32:Int)=0 from (by decide)) (ac n1 (ac (Zu n1) (ac (show ¬ (32:Int)=0 from (by decide)) (ac n2 (ac c2 a0))))))))
theorem Z0p (n:Rn) (e:Int) (z:Int)  (c1:(decide (z<e))=true) (c2:((u32.wrap ((BitVec.ofInt (IntKind.bits .u32) (Int.fdiv (n.2.getD (Int.toNat (i64.wrap (Int.tdiv z 32))) 0) (2^(min (Int.toNat (u64.wrap (Int.tmod z 32))) (IntKind.bits .u32)))) &&& BitVec.ofInt (IntKind.bits .u32) 1).toNat))==0)=false) (n1:0<=(i64.wrap (Int.tdiv z 32))/\(i64.wrap (Int.tdiv z 32))<(n.2.length:Int)) (n2:¬ (u64.wrap (Int.tmod z 32))<0):Za Yir Ze6 (No n e z) (.exit 0) (No n e z):=(Za.go Zd 400 [.b true,.v (.int .u32 (n.2.getD (Int.toNat (i64.wrap (Int.tdiv z 32))) 0)),.b false] [1,2,4,5] (ac c1 (ac (show ¬ (32:Int)=0 from (by decide)) (ac n1 (ac (Zu n1) (ac (show ¬ (32:Int)=0 from (by decide)) (ac n2 (ac c2 a0))))))))
theorem Z0o (n:Rn) (e:Int) (z:Int)  (c1:(decide (z<e))=false):Za Yir Ze6 (No n e z) (.exit 0) (No n e z):=(Za.go Zd 400 [.b false,.b false] [1,2,4,5] (ac c1 (ac (show false=false from rfl) a0)))
theorem Zi1 (r:Rn) (e n:Int) (c1:((((Zb (Int.natAbs n)).length:Nat):Int)==0)=true) (n1:Zc Yir 113 [Zp r] (Zi n)):Zc Yir 130 [Zp r,.int .i64 e] (.agg [.bool false,.sl 0 [],.int .i64 0]):=Zc.of_bodyW (fn:=Zex) (s:=(dds 4 (.box [.bool false,.sl 0 [],.int .i64 0]::(dds 34 [])))) (ex := .ret) rfl rfl (Za.asc (Za.asc (Za.asc (Za.seq_out (Za.go Zd 400 [.r (Zi n),.b true] [4] (ac n1 (ac c1 a0))) (by nofun))))) (by nofun) rfl
theorem Zi0 (r:Rn) (e n z u:Int) (c1:((((Zb (Int.natAbs n)).length:Nat):Int)==0)=false) (n1:Zc Yir 113 [Zp r] (Zi n)) (hl2:Za Yir (.loop Ze6) (No (cn n) e 0) (.exit 0) (No (cn n) e z)) (n3:Zc Yir 163 [Zp (cn n),.int .i64 z] (Zi u)):Zc Yir 130 [Zp r,.int .i64 e] (.agg [.bool (decide (u<0)),.sl ((Zb (Int.natAbs u)).length) (lm (Zb (Int.natAbs u))),.int .i64 (i64.wrap (e-z))]):=Zc.of_bodyW (fn:=Zex) (s:=(dds 4 (.box [.bool (decide (u<0)),.sl ((Zb (Int.natAbs u)).length) (lm (Zb (Int.natAbs u))),.int .i64 (i64.wrap (e-z))]::(dds 34 [])))) (ex := .ret) rfl rfl (Za.asc (Za.asc (Za.asc (Za.seq (Za.go Zd 400 [.r (Zi n),.b false] [1,2,4,5] (ac n1 (ac c1 a0))) (Za.seq (Za.block hl2) (Za.go Zd 400 [.r (Zi u)] [4] (ac n3 a0))))))) (by nofun) rfl
theorem Zx4 (r t:Rn) (e f X Y Z n m:Int) (n1:Zc Yir 104 [Zp r,.int .i64 (i64.wrap ((if f>e then f else e)-e))] (Zi X)) (n2:Zc Yir 104 [Zp t,.int .i64 (i64.wrap ((if f>e then f else e)-f))] (Zi Y)) (n3:Zc Yir 111 [Zi X,Zi Y] (Zi Z)) (n4:Zc Yir 130 [Zi Z,.int .i64 (i64.wrap ((if f>e then f else e)+1))] (.agg [.bool (decide (n<0)),.sl ((Zb (Int.natAbs n)).length) (lm (Zb (Int.natAbs n))),.int .i64 m])):Zc Yir 133 [.agg [.bool r.1,.sl r.2.length (lm r.2),.int .i64 e],.agg [.bool t.1,.sl t.2.length (lm t.2),.int .i64 f]] (.agg [.bool (decide (n<0)),.sl ((Zb (Int.natAbs n)).length) (lm (Zb (Int.natAbs n))),.int .i64 m]):=Zc.go (fn:=Zlc) Zd rfl 400 rfl [.r (Zi X),.r (Zi Y),.r (Zi Z),.r (.agg [.bool (decide (n<0)),.sl ((Zb (Int.natAbs n)).length) (lm (Zb (Int.natAbs n))),.int .i64 m])] (ac n1 (ac n2 (ac n3 (ac n4 a0))))
theorem Yrun33 (r t:Rn) (e f X Y c:Int) (n1:Zc Yir 84 [Zp r,.int .i64 f] (Uq X)) (n2:Zc Yir 84 [Zp t,.int .i64 e] (Uq Y)) (n3:Zc Yir 83 [Zi X,Zi Y] (.int .i64 c)):Zc Yir 33 [.agg [.bool r.1,.sl r.2.length (lm r.2),.int .i64 e],.agg [.bool t.1,.sl t.2.length (lm t.2),.int .i64 f]] (.int .i64 c):=Zc.go (fn:=Yi33) Zd rfl 400 rfl [.r (Uq X),.r (Uq Y),.r (.int .i64 c)] (ac n1 (ac n2 (ac n3 a0)))
def B2 (n:Rn) (e:Int):Zk:=(dds 2 (.box [.bool false,.sl 0 [],.int .i64 0]::(.box [.bool n.1,.sl n.2.length (lm n.2)]::(.val (.int .i64 e)::(dds 28 [])))))
theorem Zzj (n:Rn) (e:Int) (u:Int) (c1:(decide (e>0))=true) (c2:((n.2.length:Int)==0)=true) (n1:Zc Yir 128 [Zp n,.int .i64 1] (Zi u)):Za Yir Zat (B2 n e) .norm (B2 (cn u) (i64.wrap (e-1))):=(Za.go Zd 400 [.b true,.b true,.b true,.b true,.b true,.r (Zi u)] [2,3,4] (ac c1 (ac c2 (ac c1 (ac c2 (ac (show true=true from rfl) (ac n1 a0)))))))
theorem Zzi (n:Rn) (e:Int) (u:Int) (c1:(decide (e>0))=true) (c2:((n.2.length:Int)==0)=false) (c3:((u32.wrap ((BitVec.ofInt (IntKind.bits .u32) (n.2.getD (Int.toNat 0) 0) &&& BitVec.ofInt (IntKind.bits .u32) 1).toNat))==0)=true) (n1:0<=(0:Int)/\(0:Int)<(n.2.length:Int)) (n2:Zc Yir 128 [Zp n,.int .i64 1] (Zi u)):Za Yir Zat (B2 n e) .norm (B2 (cn u) (i64.wrap (e-1))):=(Za.go Zd 400 [.b true,.b false,.v (.int .u32 (n.2.getD (Int.toNat 0) 0)),.b true,.b false,.b true,.r (Zi u)] [2,3,4] (ac c1 (ac c2 (ac n1 (ac (Zu n1) (ac c1 (ac c2 (ac c3 (ac n2 a0)))))))))
theorem Zzh (n:Rn) (e:Int)  (c1:(decide (e>0))=true) (c2:((n.2.length:Int)==0)=false) (c3:((u32.wrap ((BitVec.ofInt (IntKind.bits .u32) (n.2.getD (Int.toNat 0) 0) &&& BitVec.ofInt (IntKind.bits .u32) 1).toNat))==0)=false) (n1:0<=(0:Int)/\(0:Int)<(n.2.length:Int)):Za Yir Zat (B2 n e) (.exit 0) (B2 n e):=(Za.go Zd 400 [.b true,.b false,.v (.int .u32 (n.2.getD (Int.toNat 0) 0)),.b true,.b false,.b false] [2,3,4] (ac c1 (ac c2 (ac n1 (ac (Zu n1) (ac c1 (ac c2 (ac c3 a0))))))))
theorem Zzg (n:Rn) (e:Int)  (c1:(decide (e>0))=false):Za Yir Zat (B2 n e) (.exit 0) (B2 n e):=(Za.go Zd 400 [.b false,.b false] [2,3,4] (ac c1 (ac (show false=false from rfl) a0)))
theorem Zxs (r:Rn) (e n u z:Int) (n1:Zc Yir 97 [Zp r] (Zi n)) (hl2:Za Yir (.loop Zat) (B2 (cn n) e) (.exit 0) (B2 (cn u) z)):Zc Yir 162 [.agg [.bool r.1,.sl r.2.length (lm r.2),.int .i64 e]] (.agg [.bool ((cn u).1),.sl ((cn u).2.length) (lm (cn u).2),.int .i64 z]):=Zc.of_bodyW (fn:=Zky) (s:=(dds 2 (.box [.bool ((cn u).1),.sl ((cn u).2.length) (lm (cn u).2),.int .i64 z]::(dds 30 [])))) (ex := .ret) rfl rfl (Za.asc (Za.seq (Za.go Zd 400 [.r (Zi n)] [2,3,4] (ac n1 a0)) (Za.seq (Za.block hl2) (Za.go Zd 400 [] [2] a0)))) (by nofun) rfl
theorem Zyb (r t:Rn) (e f X Y Z n m:Int) (n1:Zc Yir 84 [Zp r,.int .i64 (i64.wrap ((if f>e then f else e)-e))] (Uq X)) (n2:Zc Yir 84 [Zp t,.int .i64 (i64.wrap ((if f>e then f else e)-f))] (Uq Y)) (n3:Zc Yir 95 [Zi X,Zi Y] (Zi Z)) (n4:Zc Yir 162 [.agg [.bool (decide (Z<0)),.sl ((Zb (Int.natAbs Z)).length) (lm (Zb (Int.natAbs Z))),.int .i64 (i64.wrap ((if f>e then f else e)+1))]] (.agg [.bool (decide (n<0)),.sl ((Zb (Int.natAbs n)).length) (lm (Zb (Int.natAbs n))),.int .i64 m])):Zc Yir 121 [.agg [.bool r.1,.sl r.2.length (lm r.2),.int .i64 e],.agg [.bool t.1,.sl t.2.length (lm t.2),.int .i64 f]] (.agg [.bool (decide (n<0)),.sl ((Zb (Int.natAbs n)).length) (lm (Zb (Int.natAbs n))),.int .i64 m]):=Zc.go (fn:=Zlh) Zd rfl 400 rfl [.r (Uq X),.r (Uq Y),.r (Zi Z),.r (.agg [.bool (decide (n<0)),.sl ((Zb (Int.natAbs n)).length) (lm (Zb (Int.natAbs n))),.int .i64 m])] (ac n1 (ac n2 (ac n3 (ac n4 a0))))
end Go.Proofs.YtopjpgejefileaaGreat

namespace Go.Proofs.YtopjpgejefileaaGreat
open Go.IntKind (i64 u64 u32)
open Go.Ai
set_option maxRecDepth 100000
theorem cmp_sg {a b X Y:Int} (ha:a=X\/a = -X) (hb:b=Y\/b = -Y) (hX:0<=X) (hY:0<=Y) :
  (Xd a<Xd b->U0 a b = -1)/\(Xd a>Xd b->U0 a b=1)/\(¬ Xd a<Xd b->¬ Xd a>Xd b->(Xd a<0->U0 a b = -U0 X Y)/\(¬ Xd a<0->U0 a b=U0 X Y)):=by
 unfold Xd U0;grind
theorem Zhw (a b:Int) : -1<=U0 a b/\U0 a b<=1:=by unfold U0;grind
theorem rv_or (neg:Bool) (xs:List Int):rv neg xs=Zj xs\/rv neg xs = -Zj xs:=by unfold rv;cases neg <;> simp
theorem Znc {na nb:Bool} {xs ys:List Int} (hx:U32 xs) (hy:U32 ys) (h1:xs.length<=1048576) (h2:ys.length<=1048576):Zc Yir 83 [.agg [.bool na,.sl xs.length (lm xs)],.agg [.bool nb,.sl ys.length (lm ys)]] (.int .i64 (U0 (rv na xs) (rv nb ys))):=by
 obtain⟨a1,a2,a3⟩:=cmp_sg (rv_or na xs) (rv_or nb ys) (Zv hx) (Zv hy);have s1:=Ut (neg:=na) hx h1;have s2:=Ut (neg:=nb) hy h2;by_cases c1:Xd (rv na xs)<Xd (rv nb ys)
 ·rw[a1 c1];exact Zom na nb xs ys _ _ (by rw[decide_eq_true_eq];exact c1) s1 s2
 by_cases c2:Xd (rv na xs)>Xd (rv nb ys)
 ·rw[a2 c2];exact Zol na nb xs ys _ _ (by rw[decide_eq_false_iff_not];exact c1) (by rw[decide_eq_true_eq];exact c2) s1 s2
 obtain⟨a4,a5⟩:=a3 c1 c2;have t1:=Qb xs;have t2:=Qb ys;have hc:=Dz (Xr hx) (Xr hy) (by omega);rw[J4,J4] at hc;by_cases c3:Xd (rv na xs)<0
 ·have hb:=Zhw (Zj xs) (Zj ys);have k:=Zok na nb xs ys _ _ _ (by rw[decide_eq_false_iff_not];exact c1) (by rw[decide_eq_false_iff_not];exact c2) (by rw[decide_eq_true_eq];exact c3) s1 s2 (J9 (by omega)) (J9 (by omega)) hc;rw[w64 (by omega) (by omega),Int.zero_sub] at k;rw[a4 c3];exact k
 ·rw[a5 c3];exact Zoj na nb xs ys _ _ _ (by rw[decide_eq_false_iff_not];exact c1) (by rw[decide_eq_false_iff_not];exact c2) (by rw[decide_eq_false_iff_not];exact c3) s1 s2 (J9 (by omega)) (J9 (by omega)) hc
theorem Zmo {na nb:Bool} {xs ys:List Int} (hx:U32 xs) (hy:U32 ys) (h1:xs.length<=1048576) (h2:ys.length<=1048576):Zc Yir 103 [.agg [.bool na,.sl xs.length (lm xs)],.agg [.bool nb,.sl ys.length (lm ys)]] (.int .i64 (U0 (rv na xs) (rv nb ys))):=by
 have s1:=Jl (neg:=na) hx h1;have s2:=Jl (neg:=nb) hy h2;have l1:=Ul (neg:=na) hx;have l2:=Ul (neg:=nb) hy;have k1:=Wg (Qh (rv na xs).natAbs) (Qh (rv nb ys).natAbs) (by omega);have k2:=Wg (Qh (rv nb ys).natAbs) (Qh (rv na xs).natAbs) (by omega);rw[Qs,Qs] at k1 k2;by_cases c1:rv na xs<0
 ·by_cases c2:rv nb ys<0
  ·have e:U0 (rv na xs) (rv nb ys)=U0 ((rv nb ys).natAbs:Int) ((rv na xs).natAbs:Int):=by unfold U0;grind
   rw[e];exact Zjq na nb _ _ xs ys _ _ _ (decide_eq_true c1) (decide_eq_true c2) s1 s2 k2
  ·have e:U0 (rv na xs) (rv nb ys) = -1:=by unfold U0;grind
   rw[e];exact Zjp na nb _ _ xs ys _ _ (decide_eq_true c1) (decide_eq_false c2) s1 s2
 ·by_cases c2:rv nb ys<0
  ·have e:U0 (rv na xs) (rv nb ys)=1:=by unfold U0;grind
   rw[e];exact Zjo na nb _ _ xs ys _ _ (decide_eq_false c1) (decide_eq_true c2) s1 s2
  ·have e:U0 (rv na xs) (rv nb ys)=U0 ((rv na xs).natAbs:Int) ((rv nb ys).natAbs:Int):=by unfold U0;grind
   rw[e];exact Zjn na nb _ _ xs ys _ _ _ (decide_eq_false c1) (decide_eq_false c2) s1 s2 k1
theorem Zcu {ms:List Int} (hu:U32 ms):∀ k,k<=ms.length->Zj (ms.take k)=0->∀ i,i<k->ms.getD i 0=0:=by
 intro k;induction k with
 | zero=>intro _ _ i hi;omega
 | succ k ih =>
  intro hk hv i hi;have ht:=Jq ms k (by omega);have hp:=Qx k;have hm:=Zt hu k;have h1:=(G5 (Jz hu k) (Int.mul_nonneg (Int.le_of_lt hp) hm.1)).1 (by rw[<- ht];exact hv);rcases Nat.lt_or_ge i k with g | g
  ·exact ih (by omega) h1.1 i g
  ·have:i=k:=by omega
   subst this;rcases Int.mul_eq_zero.1 h1.2 with z | z
   ·omega
   ·exact z
theorem shr_a {m:Bool} {ms:List Int} {s:Int} {k:Nat} (hk:k<=ms.length) (hN:ms.length<=1048576) (hz:∀ i,i<k->ms.getD i 0=0) :
  Za Yir (.loop Bs) (Wh m (k:Nat) s ms false 0) (.exit 0) (Wh m (k:Nat) s ms false (k:Nat)):=by
 have h:=Za.up (prog:=Yir) (c:=Bs) (ex := .exit 0) (fin:=Wh m (k:Nat) s ms false (k:Nat)) (fun i=>Wh m (k:Nat) s ms false (i:Nat)) k (by nofun) ?_ ?_ 0 (Nat.zero_le _)
 ·exact h
 ·intro i hi;have ei:i64.wrap ((i:Int)+1)=((i+1:Nat):Int):=by rw[w64 (by omega) (by omega)];omega
  have k1:=Zro m (k:Nat) s ms false (i:Nat) (by simp;omega) (by simp;omega) rfl (by omega);rw[ei,Int.toNat_natCast,hz i hi] at k1;exact k1
 ·exact Zrn m _ s ms false _ (by simp)
theorem shr_b {m:Bool} {ms:List Int} {kk:Int} {s k:Nat} (hu:U32 ms) (hs:s<32) (hN:ms.length<=1048576) (hk:k<=ms.length):∀ (r i:Nat),i+r=ms.length-k ->
  Za Yir (.loop F7) (Vs m kk (s:Nat) ms false i (lm ((List.range i).map (Vo (ms.drop k) s))) ((k+i:Nat):Int)) (.exit 2) (Vs m kk (s:Nat) ms false (ms.length-k) (lm ((List.range (ms.length-k)).map (Vo (ms.drop k) s))) (ms.length:Nat)):=by
 intro r;induction r with
 | zero =>
  intro i hi;have hi':i=ms.length-k:=by omega
  subst hi';have e0:((k+(ms.length-k):Nat):Int)=(ms.length:Nat):=by omega
  rw[e0];exact Za.loop_out (Zrk m kk _ ms false _ _ _ (by simp)) (by nofun)
 | succ r ih =>
  intro i hi;have ei:i64.wrap (((k+i:Nat):Int)+1)=((k+(i+1):Nat):Int):=by rw[w64 (by omega) (by omega)];omega
  have hx:=Zt hu (k+i);have hy:=Zt hu (k+i+1);have gx:(ms.drop k).getD i 0=ms.getD (k+i) 0:=by simp[List.getD_eq_getElem?_getD,List.getElem?_drop]
  have gy:(ms.drop k).getD (i+1) 0=ms.getD (k+i+1) 0:=by simp[List.getD_eq_getElem?_getD,List.getElem?_drop,Nat.add_assoc]
  have em:min (Int.toNat (s:Int)) (IntKind.bits .u64)=s:=by rw[Int.toNat_natCast];show min s 64=s;omega
  have hR:Vo (ms.drop k) s i=(ms.getD (k+i+1) 0*4294967296+ms.getD (k+i) 0) / 2^s % 4294967296:=by
   rw[Zfr hx hs];unfold Vo;rw[gx,gy]
  have hstep:Za Yir F7 (Vs m kk (s:Nat) ms false i (lm ((List.range i).map (Vo (ms.drop k) s))) ((k+i:Nat):Int)) .norm (Vs m kk (s:Nat) ms false (i+1) (lm ((List.range (i+1)).map (Vo (ms.drop k) s))) ((k+(i+1):Nat):Int)):=by
   have el:lm ((List.range (i+1)).map (Vo (ms.drop k) s))=lm ((List.range i).map (Vo (ms.drop k) s))++([.int .u32 (Vo (ms.drop k) s i)]:List AV):=by
    rw[List.range_succ,List.map_append,List.map_cons,List.map_nil,Wm]
   rw[el,hR];by_cases h1:k+i+1<ms.length
   ·have kk1:=Zrm m kk (s:Nat) ms false i (lm ((List.range i).map (Vo (ms.drop k) s))) ((k+i:Nat):Int) (by simp;omega) (by rw[ei];simp;omega) (by omega) (by rw[ei];omega) (by omega) (by omega);rw[ei,Int.toNat_natCast,Int.toNat_natCast,em] at kk1;have w1:u64.wrap ((BitVec.ofInt (IntKind.bits .u64) (u64.wrap (ms.getD (k+i) 0)) ||| BitVec.ofInt (IntKind.bits .u64) (u64.wrap ((u64.wrap (ms.getD (k+(i+1)) 0))*2^(min (Int.toNat 32) (IntKind.bits .u64))))).toNat)=ms.getD (k+i+1) 0*4294967296+ms.getD (k+i) 0:=by
     rw[BitVec.or_comm,Ue (n:=ms.getD (k+(i+1)) 0) (by rw[<- Nat.add_assoc];omega),<- Nat.add_assoc];exact Mo hy hx
    have hpos:0<=ms.getD (k+i+1) 0*4294967296+ms.getD (k+i) 0:=by omega
    rw[w1,Int.fdiv_eq_ediv_of_nonneg _ (by have:=Qe s;omega),Wj] at kk1;exact kk1
   ·have hz:ms.getD (k+i+1) 0=0:=Qo (by omega);have kk1:=Zrl m kk (s:Nat) ms false i (lm ((List.range i).map (Vo (ms.drop k) s))) ((k+i:Nat):Int) (by simp;omega) (by rw[ei];simp;omega) (by omega) (by omega) (by omega);rw[ei,Int.toNat_natCast,em,Ue (n:=ms.getD (k+i) 0) (by omega),Int.fdiv_eq_ediv_of_nonneg _ (by have:=Qe s;omega),Wj] at kk1;rw[hz,Int.zero_mul,Int.zero_add];exact kk1
  exact Za.loop hstep (ih (i+1) (by omega))
theorem Zhz {N:Int} (h0:N ≠ 0) {z:Nat} (hd:(2:Int)^z∣N):z / 32<(Zb N.natAbs).length:=by
 apply Nat.lt_of_not_le;intro hle;have h1:=J2 (Qh N.natAbs).1;rw[Qs] at h1;have h2:=Um hle;have h3:=V1 z;have h4:=Qe (z % 32);have h5:=Int.mul_le_mul_of_nonneg_left (show (1:Int)<=2^(z % 32) by omega) (Int.le_of_lt (Qx (z / 32)));rw[Int.mul_one,<- h3] at h5;obtain⟨q,hq⟩:=hd;have hq0:q ≠ 0:=by intro h;rw[h,Int.mul_zero] at hq;exact h0 hq
 have h6:(N.natAbs:Int)=2^z*(q.natAbs:Int):=by
  rw[hq,Int.natAbs_mul,Int.natCast_mul,Int.natAbs_of_nonneg (Int.le_of_lt (Qe z))]
 have h7:=Int.mul_le_mul_of_nonneg_left (show (1:Int)<=(q.natAbs:Int) by omega) (Int.le_of_lt (Qe z));rw[Int.mul_one,<- h6] at h7;omega
theorem Zcs {N:Int} (h0:N ≠ 0) {n:Nat} (hd:(2:Int)^n∣N) (hn:(n:Int)<=9223372036854775807) (hN:(Zb N.natAbs).length<=1048576):Zc Yir 163 [Zi N,.int .i64 (n:Nat)] (Zi (N / 2^n)):=by
 have hin:=Zhz h0 hd;have e1:i64.wrap (Int.tdiv (n:Int) 32)=((n / 32:Nat):Int):=by
  rw[Int.tdiv_eq_ediv_of_nonneg (by omega),w64 (by omega) (by omega)];omega
 have e2:u64.wrap (Int.tmod (n:Int) 32)=((n % 32:Nat):Int):=by
  rw[Int.tmod_eq_emod_of_nonneg (by omega),Qw];omega
 have hs:n % 32<32:=Nat.mod_lt _ (by decide);have tu:U32 (Zb N.natAbs):=Qk _;have hlb:=Jl (neg:=decide (N<0)) tu hN;rw[Vh] at hlb;have hp:=V1 n;have hP:=Qx (n / 32);have hS:=Qe (n % 32);have hval:=Qs N.natAbs;generalize hms:Zb N.natAbs=ms at *
 have hall:=Zfs (ms:=ms) hs (show n / 32<=ms.length by omega);have ux:U32 ((List.range (ms.length-n / 32)).map (Vo (ms.drop (n / 32)) (n % 32))):=Ar fun i=>(Mv (Xy tu _) hs i).2.2.2;have hmk:=Xp (neg:=decide (N<0)) ux (by simp;omega);have hlen:((List.range (ms.length-n / 32)).map (Vo (ms.drop (n / 32)) (n % 32))).length=ms.length-n / 32:=by simp
 have hb:=shr_b (m:=decide (N<0)) (ms:=ms) (kk:=((n / 32:Nat):Int)) (s:=n % 32) (k:=n / 32) tu hs hN (by omega) (ms.length-n / 32) 0 (by omega);generalize hQ:(List.range (ms.length-n / 32)).map (Vo (ms.drop (n / 32)) (n % 32))=Q at *
 rw[<- hlen] at hb;have hm0:=Int.emod_nonneg (ms.getD (n / 32) 0) (show (2:Int)^(n % 32) ≠ 0 by omega);have hm1:=Int.emod_lt_of_pos (ms.getD (n / 32) 0) hS;have ht0:=Zv (Jz tu (n / 32));have ht1:=U6 tu (n / 32);have hl:0<=4294967296^(n / 32)*(ms.getD (n / 32) 0 % 2^(n % 32))+Zj (ms.take (n / 32))/\4294967296^(n / 32)*(ms.getD (n / 32) 0 % 2^(n % 32))+Zj (ms.take (n / 32))<2^n:=by
  rw[hp];generalize (4294967296:Int)^(n / 32)=P at *
  generalize ms.getD (n / 32) 0 % 2^(n % 32)=z at *
  generalize (2:Int)^(n % 32)=S at *
  have a:=Int.mul_nonneg (Int.le_of_lt hP) hm0;have b:=Int.mul_le_mul_of_nonneg_left (show z+1<=S by omega) (Int.le_of_lt hP);rw[Int.mul_add,Int.mul_one] at b;omega
 have hdm:(2:Int)^n∣(N.natAbs:Int):=Int.dvd_natAbs.2 hd;have hv2:(N.natAbs:Int)=2^n*Zj Q+(4294967296^(n / 32)*(ms.getD (n / 32) 0 % 2^(n % 32))+Zj (ms.take (n / 32))):=by rw[<- hval,hall,hp];grind
 have hl0:4294967296^(n / 32)*(ms.getD (n / 32) 0 % 2^(n % 32))+Zj (ms.take (n / 32))=0:=by
  have h1:(N.natAbs:Int) % 2^n=0:=Int.emod_eq_zero_of_dvd hdm;rw[hv2,Int.add_comm,Int.add_mul_emod_self_left,Int.emod_eq_of_lt hl.1 hl.2] at h1;exact h1
 have hz1:ms.getD (n / 32) 0 % 2^(n % 32)=0/\Zj (ms.take (n / 32))=0:=by
  have a:=Int.mul_nonneg (Int.le_of_lt hP) hm0;have b:4294967296^(n / 32)*(ms.getD (n / 32) 0 % 2^(n % 32))=0:=by omega
  rcases Int.mul_eq_zero.1 b with z | z
  ·omega
  ·exact⟨z,by omega⟩
 rw[hl0,Int.add_zero] at hv2;have ha:=shr_a (m:=decide (N<0)) (ms:=ms) (s:=((n % 32:Nat):Int)) (k:=n / 32) (by omega) hN (Zcu tu _ (by omega) hz1.2);have emask:u32.wrap ((u32.wrap (1*2^(min (Int.toNat (u64.wrap (Int.tmod (n:Int) 32))) (IntKind.bits .u32))))-1)=2^(n % 32)-1:=by
  have:min (Int.toNat ((n % 32:Nat):Int)) (IntKind.bits .u32)=n % 32:=by rw[Int.toNat_natCast];show min (n % 32) 32=n % 32;omega
  have h31:(2:Int)^(n % 32)<=2147483648:=Vp (show n % 32<=31 by omega);rw[e2,this,Int.one_mul,Wj,Wj];omega
 have ec2:u32.wrap ((BitVec.ofInt (IntKind.bits .u32) (ms.getD (Int.toNat (i64.wrap (Int.tdiv (n:Int) 32))) 0) &&& BitVec.ofInt (IntKind.bits .u32) (u32.wrap ((u32.wrap (1*2^(min (Int.toNat (u64.wrap (Int.tmod (n:Int) 32))) (IntKind.bits .u32))))-1))).toNat)=0:=by
  rw[emask,e1,Int.toNat_natCast,Zw9 (Zt tu _) (by omega)];exact hz1.1
 have c1:decide ((i64.wrap (Int.tdiv (n:Int) 32))<(ms.length:Int))=true:=by rw[e1];simp;omega
 have hb2:Za Yir (.loop F7) (Vs (decide (N<0)) (i64.wrap (Int.tdiv (n:Int) 32)) (u64.wrap (Int.tmod (n:Int) 32)) ms false 0 [] (i64.wrap (Int.tdiv (n:Int) 32))) (.exit 2) (Vs (decide (N<0)) (i64.wrap (Int.tdiv (n:Int) 32)) (u64.wrap (Int.tmod (n:Int) 32)) ms false Q.length (lm Q) (ms.length:Nat)):=by
  rw[e1,e2];exact hb
 have ha2:Za Yir (.loop Bs) (Wh (decide (N<0)) (i64.wrap (Int.tdiv (n:Int) 32)) (u64.wrap (Int.tmod (n:Int) 32)) ms false 0) (.exit 0) (Wh (decide (N<0)) (i64.wrap (Int.tdiv (n:Int) 32)) (u64.wrap (Int.tmod (n:Int) 32)) ms false ((n / 32:Nat):Int)):=by
  rw[e1,e2];exact ha
 have hres:rv (decide (N<0)) Q=N / 2^n:=by
  have hpn:=Qe n;by_cases hneg:N<0
  ·rw[decide_eq_true hneg];have:N=2^n*(-Zj Q):=by rw[Int.mul_neg];omega
   show -Zj Q=_;conv=>rhs;rw[this]
   rw[Int.mul_ediv_cancel_left _ (by omega)]
  ·rw[decide_eq_false hneg];have:N=2^n*Zj Q:=by omega
   show Zj Q=_;conv=>rhs;rw[this]
   rw[Int.mul_ediv_cancel_left _ (by omega)]
 rw[hres] at hmk;have hlm:(Zb N.natAbs)=ms:=hms;unfold Zi;rw[hlm];by_cases hneg:N<0
 ·exact Zii _ (decide (N<0)) false ms ms Q (n:Nat) _ _ _ c1 (by rw[ec2];rfl) (decide_eq_true hneg) rfl hlb ha2 hb2 (by rw[e1];omega) (by rw[e2];omega) hmk
 ·exact Zih _ (decide (N<0)) false ms ms Q (n:Nat) _ _ _ c1 (by rw[ec2];rfl) (decide_eq_false hneg) hlb ha2 hb2 (by rw[e1];omega) (by rw[e2];omega) hmk
end Go.Proofs.YtopjpgejefileaaGreat

namespace Go.Proofs.YtopjpgejefileaaGreat
open Go.IntKind (i64 u64 u32)
open Go.Ai
set_option maxRecDepth 100000
theorem T5 (n:Int):(cn n).2.length=(Zb n.natAbs).length:=rfl
theorem E1 (n:Int):U32 (cn n).2:=Qk _
theorem Zvi {ms:List Int} (hu:U32 ms) {z:Nat} (hz:z / 32<ms.length):ms.getD (z / 32) 0 / 2^(z % 32) % 2=Zj ms / 2^z % 2:=by
 have h1:=Ji ms (show z / 32<=ms.length by omega);have e32:=Zni (show z % 32<=32 by omega);rw[Int.mul_comm] at e32;have eT:(2:Int)^(32-z % 32)=2*2^(31-z % 32):=by rw[show 32-z % 32=(31-z % 32)+1 by omega,Int.pow_succ];omega
 have h2:Zj (ms.drop (z / 32))=ms.getD (z / 32) 0+2^(z % 32)*(2*2^(31-z % 32))*Zj (ms.drop (z / 32+1)):=by
  rw[<- eT,<- e32,List.drop_eq_getElem_cons hz,List.getD_eq_getElem?_getD,List.getElem?_eq_getElem hz];rfl
 have ht0:=Zv (Jz hu (z / 32));have ht1:=U6 hu (z / 32);have hp:=V1 z;have hP:=Qx (z / 32);have hS:=Qe (z % 32);have hb0:=Int.emod_nonneg (ms.getD (z / 32) 0) (show (2:Int)^(z % 32) ≠ 0 by omega);have hb1:=Int.emod_lt_of_pos (ms.getD (z / 32) 0) hS;have hx:=Int.mul_ediv_add_emod (ms.getD (z / 32) 0) (2^(z % 32));rw[hp,h1,h2];clear h1 h2 hp e32 eT;generalize Zj (ms.take (z / 32))=T at *
 generalize Zj (ms.drop (z / 32+1))=R at *
 generalize ms.getD (z / 32) 0=x at *
 generalize (4294967296:Int)^(z / 32)=P at *
 generalize (2:Int)^(31-z % 32)=U at *
 generalize (2:Int)^(z % 32)=S at *
 generalize x / S=a at *
 generalize x % S=b at *
 have e:T+P*(x+S*(2*U)*R)=(T+P*b)+P*S*(a+2*(U*R)):=by rw[<- hx];grind
 have hPS:=Int.mul_pos hP hS;have c1:=Int.mul_nonneg (Int.le_of_lt hP) hb0;have c2:=Int.mul_le_mul_of_nonneg_left (show b+1<=S by omega) (Int.le_of_lt hP);rw[Int.mul_add,Int.mul_one] at c2;rw[e,Int.add_mul_ediv_left _ _ (by omega),Int.ediv_eq_zero_of_lt (by omega) (by omega),Int.zero_add,Int.add_mul_emod_self_left]
theorem T8 {p:Int} (hp:0<=p/\p<4294967296):(u32.wrap ((BitVec.ofInt (IntKind.bits .u32) p &&& BitVec.ofInt (IntKind.bits .u32) 1).toNat)==0)=decide (p % 2=0):=by
 have h:=Zw9 hp (s:=1) (by decide);rw[show ((2:Int)^1-1)=1 by decide,show ((2:Int)^1)=2 by decide] at h;rw[h,Bool.eq_iff_iff,beq_iff_eq,decide_eq_true_eq]
theorem Zn9 {x:Int} (hx:0<=x/\x<4294967296) {s:Nat} (hs:s<32):(u32.wrap ((BitVec.ofInt (IntKind.bits .u32) (Int.fdiv x (2^(min (Int.toNat (s:Int)) (IntKind.bits .u32)))) &&& BitVec.ofInt (IntKind.bits .u32) 1).toNat)==0)=decide (x / 2^s % 2=0):=by
 have em:min (Int.toNat (s:Int)) (IntKind.bits .u32)=s:=by rw[Int.toNat_natCast];show min s 32=s;omega
 have hp:=Qe s;rw[em,Int.fdiv_eq_ediv_of_nonneg _ (by omega)];have h1:=Int.ediv_nonneg hx.1 (Int.le_of_lt hp);have h2:=Int.ediv_le_self (2^s) hx.1;exact T8 ⟨h1,by omega⟩
def Wq:Int->Nat->Nat
 | _,0=>0
 | N,e+1=>if N % 2=0 then Wq (N / 2) e+1 else 0
theorem S6:∀ (e:Nat) (N:Int),Wq N e<=e
 | 0,_=>Nat.le_refl _
 | e+1,N=>by
  simp only[Wq];split
  ·have:=S6 e (N / 2);omega
  ·omega
theorem Ae:∀ (e:Nat) (N:Int),(2:Int)^Wq N e∣N
 | 0,N=>⟨N,by simp[Wq]⟩
 | e+1,N=>by
  simp only[Wq];split
  ·obtain⟨q,hq⟩:=Ae e (N / 2);refine⟨q,?_⟩;rw[Int.pow_succ,Int.mul_assoc,Int.mul_comm 2 q,<- Int.mul_assoc,<- hq];omega
  ·exact⟨N,by simp⟩
theorem Zf2 {e:Nat} {N:Int} (h:N % 2=0):N / 2^(Wq (N / 2) e+1)=N / 2 / 2^Wq (N / 2) e:=by
 obtain⟨q,hq⟩:=Ae e (N / 2);have hp:=Qe (Wq (N / 2) e);have hN:N=2^(Wq (N / 2) e+1)*q:=by
  rw[Int.pow_succ,Int.mul_assoc,Int.mul_comm 2 q,<- Int.mul_assoc,<- hq];omega
 generalize Wq (N / 2) e=k at *
 have h1:N / 2^(k+1)=q:=by
  conv=>lhs;rw[hN]
  exact Int.mul_ediv_cancel_left _ (by have:=Qe (k+1);omega)
 have h2:N / 2 / 2^k=q:=by
  conv=>lhs;rw[hq]
  exact Int.mul_ediv_cancel_left _ (by omega)
 rw[h1,h2]
theorem L5:∀ e:Nat,Wq 0 e=e
 | 0=>rfl
 | e+1=>by simp only[Wq];rw[if_pos (by decide),show (0:Int) / 2=0 by decide,L5 e]
theorem Znv (N:Int) (h:N % 2=0):(Zb (N / 2).natAbs).length<=(Zb N.natAbs).length:=by
 apply Fo;have:=J2 (Qh N.natAbs).1;rw[Qs] at this;omega
theorem Zgf {N:Int} (h0:N ≠ 0):((Zb N.natAbs).getD 0 0 % 2=0)↔N % 2=0:=by
 have hl:0<(Zb N.natAbs).length:=by
  have:=Q7 N.natAbs;omega
 have h:=Zvi (Qk N.natAbs) (z:=0) (by simpa using hl);rw[Qs] at h;simp only[Nat.zero_div,Nat.zero_mod,Int.pow_zero,Int.ediv_one] at h;omega
theorem S5:∀ (e:Nat) (N:Int),(Zb N.natAbs).length<1048576->e<=1000000 ->
  Za Yir (.loop Zat) (B2 (cn N) (e:Nat)) (.exit 0) (B2 (cn (N / 2^Wq N e)) ((e-Wq N e:Nat):Int)):=by
 intro e;induction e with
 | zero =>
  intro N _ _;have e1:N / 2^Wq N 0=N:=by simp[Wq]
  rw[e1];exact Za.loop_out (Zzg (cn N) ((0:Nat):Int) (by decide)) (by nofun)
 | succ e ih =>
  intro N hN he;have ew:i64.wrap (((e+1:Nat):Int)-1)=(e:Int):=by rw[w64 (by omega) (by omega)];omega
  have hd:=L6 (neg:=(cn N).1) (xs:=(cn N).2) (E1 N) 1 (by decide) (by rw[T5];exact hN);rw[show rv (cn N).1 (cn N).2=N from Z0 N,show (2:Int)^1=2 by decide] at hd;have c1:decide (((e+1:Nat):Int)>0)=true:=by rw[decide_eq_true_eq];omega
  have hlen:(cn N).2.length=(Zb N.natAbs).length:=rfl;by_cases h2:N % 2=0
  ·have er:Wq N (e+1)=Wq (N / 2) e+1:=by simp only[Wq];rw[if_pos h2]
   rw[er,Zf2 h2,show e+1-(Wq (N / 2) e+1)=e-Wq (N / 2) e by omega];have r:=ih (N / 2) (by have:=Znv N h2;omega) (by omega);by_cases h0:N=0
   ·have k:=Zzj (cn N) ((e+1:Nat):Int) (N / 2) c1 (by rw[h0];rfl) hd;rw[ew] at k;exact Za.loop k r
   ·have hl:0<(Zb N.natAbs).length:=by have:=Q7 N.natAbs;omega
    have k:=Zzi (cn N) ((e+1:Nat):Int) (N / 2) c1 (by rw[beq_eq_false_iff_ne];omega) (by rw[T8 (Zt (E1 N) _),decide_eq_true_eq];exact (Zgf h0).2 h2) (by omega) hd;rw[ew] at k;exact Za.loop k r
  ·have h0:N ≠ 0:=by intro h;rw[h] at h2;exact h2 (by decide)
   have er:Wq N (e+1)=0:=by simp only[Wq];rw[if_neg h2]
   have hl:0<(Zb N.natAbs).length:=by have:=Q7 N.natAbs;omega
   rw[er,Int.pow_zero,Int.ediv_one,Nat.sub_zero];exact Za.loop_out (Zzh (cn N) ((e+1:Nat):Int) c1 (by rw[beq_eq_false_iff_ne];omega) (by rw[T8 (Zt (E1 N) _),decide_eq_false_iff_not];exact fun h=>h2 ((Zgf h0).1 h)) (by omega)) (by nofun)
def dyA (n e:Int):AV := .agg [.bool (decide (n<0)),.sl (Zb n.natAbs).length (lm (Zb n.natAbs)),.int .i64 e]
theorem Zc4 {N:Int} {e:Nat} (hN:(Zb N.natAbs).length<1048576) (he:e<=1000000):Zc Yir 162 [dyA N (e:Nat)] (dyA (N / 2^Wq N e) ((e-Wq N e:Nat):Int)):=by
 have h1:=L2 (neg:=(cn N).1) (xs:=(cn N).2) (E1 N) (by rw[T5];omega);rw[show rv (cn N).1 (cn N).2=N from Z0 N] at h1;exact Zxs (cn N) (e:Nat) N (N / 2^Wq N e) _ h1 (S5 e N hN he)
theorem L4 {N:Int} (h0:N ≠ 0) {e:Nat} (he:e<=1000000) (hN:(Zb N.natAbs).length<1048576):∀ (r z:Nat),z+r=e->(2:Int)^z∣N ->
  Za Yir (.loop Ze6) (No (cn N) (e:Nat) (z:Nat)) (.exit 0) (No (cn N) (e:Nat) ((z+Wq (N / 2^z) r:Nat):Int)):=by
 intro r;induction r with
 | zero =>
  intro z hz _;exact Za.loop_out (Z0o (cn N) (e:Nat) (z:Nat) (by simp;omega)) (by nofun)
 | succ r ih =>
  intro z hz hd;have hin:=Zhz h0 hd;have e1:i64.wrap (Int.tdiv (z:Int) 32)=((z / 32:Nat):Int):=by
   rw[Int.tdiv_eq_ediv_of_nonneg (by omega),w64 (by omega) (by omega)];omega
  have e2:u64.wrap (Int.tmod (z:Int) 32)=((z % 32:Nat):Int):=by
   rw[Int.tmod_eq_emod_of_nonneg (by omega),Qw];omega
  have ei:i64.wrap ((z:Int)+1)=((z+1:Nat):Int):=by rw[w64 (by omega) (by omega)];omega
  have hs:z % 32<32:=Nat.mod_lt _ (by decide);have c1:decide ((z:Int)<(e:Int))=true:=by rw[decide_eq_true_eq];omega
  have hb:=Zvi (Qk N.natAbs) hin;rw[Qs] at hb;obtain⟨q,hq⟩:=hd;have hpz:=Qe z;have hq1:N / 2^z=q:=by
   conv=>lhs;rw[hq]
   exact Int.mul_ediv_cancel_left _ (by omega)
  have hq2:(N.natAbs:Int) / 2^z=(q.natAbs:Int):=by
   have:(N.natAbs:Int)=2^z*(q.natAbs:Int):=by rw[hq,Int.natAbs_mul,Int.natCast_mul,Int.natAbs_of_nonneg (Int.le_of_lt hpz)]
   rw[this];exact Int.mul_ediv_cancel_left _ (by omega)
  rw[hq2] at hb;have ht:=Zn9 (Zt (Qk N.natAbs) (z / 32)) hs;have ct:(u32.wrap ((BitVec.ofInt (IntKind.bits .u32) (Int.fdiv ((cn N).2.getD (Int.toNat (i64.wrap (Int.tdiv (z:Int) 32))) 0) (2^(min (Int.toNat (u64.wrap (Int.tmod (z:Int) 32))) (IntKind.bits .u32)))) &&& BitVec.ofInt (IntKind.bits .u32) 1).toNat)==0)=decide (q % 2=0):=by
   rw[e1,e2,Int.toNat_natCast];refine ht.trans ?_;rw[hb,decide_eq_decide];omega
  have hlen:(cn N).2.length=(Zb N.natAbs).length:=rfl;rw[hq1];by_cases h2:q % 2=0
  ·have er:Wq q (r+1)=Wq (q / 2) r+1:=by simp only[Wq];rw[if_pos h2]
   have hq3:N=2^(z+1)*(q / 2):=by rw[Int.pow_succ,Int.mul_assoc,show 2*(q / 2)=q by omega];exact hq
   have hq4:N / 2^(z+1)=q / 2:=by
    conv=>lhs;rw[hq3]
    exact Int.mul_ediv_cancel_left _ (by have:=Qe (z+1);omega)
   have hr:=ih (z+1) (by omega) ⟨q / 2,hq3⟩;rw[hq4] at hr;have k:=Z0q (cn N) (e:Nat) (z:Nat) c1 (by rw[ct,decide_eq_true_eq];exact h2) (by rw[e1];omega) (by rw[e2];omega);rw[ei] at k;rw[er,show z+(Wq (q / 2) r+1)=z+1+Wq (q / 2) r by omega];exact Za.loop k hr
  ·have er:Wq q (r+1)=0:=by simp only[Wq];rw[if_neg h2]
   rw[er,Nat.add_zero];exact Za.loop_out (Z0p (cn N) (e:Nat) (z:Nat) c1 (by rw[ct,decide_eq_false_iff_not];exact h2) (by rw[e1];omega) (by rw[e2];omega)) (by nofun)
theorem S4 {N:Int} {e:Nat} (hN:(Zb N.natAbs).length<1048576) (he:e<=1000000):Zc Yir 130 [Zi N,.int .i64 (e:Nat)] (dyA (N / 2^Wq N e) ((e-Wq N e:Nat):Int)):=by
 have h1:=G2 (neg:=(cn N).1) (xs:=(cn N).2) (E1 N) (by rw[T5];omega);rw[show rv (cn N).1 (cn N).2=N from Z0 N] at h1;by_cases h0:N=0
 ·subst h0;rw[L5,Int.zero_ediv,Nat.sub_self];exact Zi1 (cn 0) (e:Nat) 0 rfl h1
 ·have hl:=L4 h0 he hN e 0 (by omega) (by simp);rw[Int.pow_zero,Int.ediv_one,Nat.zero_add] at hl;have hle:=S6 e N;have hs:=Zcs h0 (Ae e N) (by omega) (by omega);have k:=Zi0 (cn N) (e:Nat) N _ _ (by rw[beq_eq_false_iff_ne];have:=Q7 N.natAbs;omega) h1 hl hs;have ew:i64.wrap ((e:Int)-((Wq N e:Nat):Int))=((e-Wq N e:Nat):Int):=by rw[w64 (by omega) (by omega)];omega
  rw[ew] at k;exact k
end Go.Proofs.YtopjpgejefileaaGreat

namespace Go.Proofs.YtopjpgejefileaaGreat
open Go.IntKind (i64 u64 u32)
open Go.Ai
set_option maxRecDepth 100000
def U5 (o:Bool) (ps:List (List Rn)) (n:Int) (k:Int) (rs:List Rn) (d:Int) (i:Int):Zk:=(dds 2 (.val (.bool o)::(dds 1 (.val (.sl rs.length (pc rs))::(.val (.int .i64 d)::(.val (.int .i64 i)::(.val (.sl ps.length (pp ps))::(.val (.int .i64 n)::(.val (.int .i64 k)::(dds 19 []))))))))))
theorem Zry (o:Bool) (ps:List (List Rn)) (n:Int) (k:Int) (rs:List Rn) (d:Int) (i:Int) (z:Int) (c1:(decide (i<=d))=true) (c2:(decide (z>256))=true) (n1:0<=i/\i<(rs.length:Int)) (n2:Zc Yir 177 [Zp (rs.getD (Int.toNat i) z0)] (.int .i64 z)):Za Yir Hi (U5 o ps n k rs d i) .ret (U5 true ps n k rs d i):=(Za.go Ja 400 [.b true,.v (Zp (rs.getD (Int.toNat i) z0)),.r (.int .i64 z),.b true] [2,4,5,6,7,8,9] (ac c1 (ac n1 (ac (Z9 n1) (ac n2 (ac c2 a0))))))
theorem Zrx (o:Bool) (ps:List (List Rn)) (n:Int) (k:Int) (rs:List Rn) (d:Int) (i:Int) (z:Int) (c1:(decide (i<=d))=true) (c2:(decide (z>256))=false) (n1:0<=i/\i<(rs.length:Int)) (n2:Zc Yir 177 [Zp (rs.getD (Int.toNat i) z0)] (.int .i64 z)):Za Yir Hi (U5 o ps n k rs d i) .norm (U5 o ps n k rs d (i64.wrap (i+1))):=(Za.go Ja 400 [.b true,.v (Zp (rs.getD (Int.toNat i) z0)),.r (.int .i64 z),.b false] [2,4,5,6,7,8,9] (ac c1 (ac n1 (ac (Z9 n1) (ac n2 (ac c2 a0))))))
theorem Zrw (o:Bool) (ps:List (List Rn)) (n:Int) (k:Int) (rs:List Rn) (d:Int) (i:Int)  (c1:(decide (i<=d))=false):Za Yir Hi (U5 o ps n k rs d i) (.exit 2) (U5 o ps n k rs d i):=(Za.go Ja 400 [.b false] [2,4,5,6,7,8,9] (ac c1 a0))
def Ls:ICode := .seq (rg [oB 10 .lss 9 8]) (.seq (.cond (.t 10) (.skip) (.exit 0)) (.seq (.block 1 (.seq (rg [o1 11 (.ixa 7 (.t 9) 1),o1 12 (.ld 11 11 1 true),oM 4 12]) (.seq (rg [oM 13 4,oC 14 53 [13],oM 5 14]) (.seq (.seq (rg [oM 15 5,o1 16 (.bin .gtr (.t 15) (ci 16))]) (.cond (.t 16) (.seq (rg [o1 2 (.mov (.c (.bool true)))]) (.ret)) (.skip))) (.seq (rg [o1 6 (.mov (ci 0))]) (.block 2 (.loop (.seq (.seq (rg [oM 17 6,oM 18 5,oB 19 .leq 17 18]) (.cond (.t 19) (.skip) (.exit 2))) (.seq (.block 3 (.seq (rg [oM 22 4,oM 23 6,o1 24 (.ixa 22 (.t 23) 2),o1 25 (.ld 24 24 2 false),oC 26 177 [25],o1 27 (.bin .gtr (.t 26) (ci 256))]) (.cond (.t 27) (.seq (rg [o1 2 (.mov (.c (.bool true)))]) (.ret)) (.skip)))) (rg [oM 20 6,o1 21 (.bin .add (.t 20) (ci 1)),oM 6 21])))))))))) (rg [o1 28 (.bin .add (.t 9) (ci 1)),oM 9 28])))
def Gb (o:Bool) (ps:List (List Rn)) (n:Int) (k:Int):Zk:=(dds 2 (.val (.bool o)::(dds 4 (.val (.sl ps.length (pp ps))::(.val (.int .i64 n)::(.val (.int .i64 k)::(dds 19 [])))))))
theorem Zz7 (o:Bool) (ps:List (List Rn)) (n:Int) (k:Int) (d:Int) (c1:(decide (k<n))=true) (c2:(decide (d>16))=true) (n1:0<=k/\k<(ps.length:Int)) (n2:Zc Yir 53 [.sl ((ps.getD (Int.toNat k) []).length) (pc (ps.getD (Int.toNat k) []))] (.int .i64 d)):Za Yir Ls (Gb o ps n k) .ret (Gb true ps n k):=(Za.asc (Za.seq (Za.go (t:=(dds 2 (.val (.bool o)::(dds 4 (.val (.sl ps.length (pp ps))::(vi n::(vi k::(dds 19 [])))))))) Ja 400 [.b true] [2,7,8,9] (ac c1 a0)) (Za.seq_out (Za.block_ret (Za.asc (Za.asc (Za.asc (Za.seq_out (Za.go Ja 400 [.v (.sl ((ps.getD (Int.toNat k) []).length) (pc (ps.getD (Int.toNat k) []))),.r (.int .i64 d),.b true] [2,7,8,9] (ac n1 (ac (Us n1) (ac n2 (ac c2 a0))))) (by nofun)))))) (by nofun))))
theorem Zz6 (o:Bool) (ps:List (List Rn)) (n:Int) (k:Int) (d i:Int) (c1:(decide (k<n))=true) (c2:(decide (d>16))=false) (n1:0<=k/\k<(ps.length:Int)) (n2:Zc Yir 53 [.sl ((ps.getD (Int.toNat k) []).length) (pc (ps.getD (Int.toNat k) []))] (.int .i64 d)) (hl3:Za Yir (.loop Hi) (U5 o ps n k (ps.getD (Int.toNat k) []) d 0) (.exit 2) (U5 o ps n k (ps.getD (Int.toNat k) []) d i)):Za Yir Ls (Gb o ps n k) .norm (Gb o ps n (i64.wrap (k+1))):=(Za.asc (Za.seq (Za.go (t:=(dds 2 (.val (.bool o)::(dds 4 (.val (.sl ps.length (pp ps))::(vi n::(vi k::(dds 19 [])))))))) Ja 400 [.b true] [2,7,8,9] (ac c1 a0)) (Za.seq (Za.block_norm (Za.asc (Za.asc (Za.asc (Za.seq (Za.go Ja 400 [.v (.sl ((ps.getD (Int.toNat k) []).length) (pc (ps.getD (Int.toNat k) []))),.r (.int .i64 d),.b false] [2,4,5,6,7,8,9] (ac n1 (ac (Us n1) (ac n2 (ac c2 a0))))) (Za.block hl3)))))) (Za.go Ja 400 [] [2,7,8,9] a0))))
theorem Zz5 (o:Bool) (ps:List (List Rn)) (n:Int) (k:Int)  (c1:(decide (k<n))=false):Za Yir Ls (Gb o ps n k) (.exit 0) (Gb o ps n k):=(Za.asc (Za.seq_out (Za.go Ja 400 [.b false] [2,7,8,9] (ac c1 a0)) (by nofun)))
def Zvt (o:Bool) (ps:List (List Rn)) (n:Int) (k:Int):Zk:=(dds 2 (.val (.bool o)::(dds 4 (.val (.sl ps.length (pp ps))::(.val (.int .i64 n)::(.val (.int .i64 k)::(dds 19 [])))))))
theorem Zrv (o:Bool) (ps:List (List Rn)) (n:Int) (k:Int) (d i:Int) (c1:(decide (k<n))=true) (c2:(decide (d>16))=false) (n1:0<=k/\k<(ps.length:Int)) (n2:Zc Yir 53 [.sl ((ps.getD (Int.toNat k) []).length) (pc (ps.getD (Int.toNat k) []))] (.int .i64 d)) (hl3:Za Yir (.loop Hi) (U5 o ps n k (ps.getD (Int.toNat k) []) d 0) .ret (U5 true ps n k (ps.getD (Int.toNat k) []) d i)):Za Yir Zv4 (Zvt o ps n k) .ret (Zvt true ps n k):=(Za.asc (Za.seq (Za.go (t:=(dds 2 (.val (.bool o)::(dds 4 (.val (.sl ps.length (pp ps))::(vi n::(vi k::(dds 19 [])))))))) Ja 400 [.b true] [2,7,8,9] (ac c1 a0)) (Za.seq_out (Za.block_ret (Za.asc (Za.asc (Za.asc (Za.seq (Za.go Ja 400 [.v (.sl ((ps.getD (Int.toNat k) []).length) (pc (ps.getD (Int.toNat k) []))),.r (.int .i64 d),.b false] [2,4,5,6,7,8,9] (ac n1 (ac (Us n1) (ac n2 (ac c2 a0))))) (Za.block_ret (Za.keep (t':=(dds 2 (.val (.bool true)::(dds 4 (.val (.sl ps.length (pp ps))::(.val (.int .i64 n)::(.val (.int .i64 k)::(dds 19 [])))))))) [2,7,8,9] hl3 (by kernel_rfl)))))))) (by nofun))))
theorem Ziv (ps:List (List Rn)) (n k:Int) (hl1:Za Yir (.loop Ls) (Gb false ps (ps.length:Int) 0) (.exit 0) (Gb false ps n k)):Zc Yir 147 [.sl ps.length (pp ps)] (.bool false):=Zc.of_bodyW (fn:=Zet) (s:=(dds 2 (.val (.bool false)::(dds 26 [])))) (ex := .ret) rfl rfl (Za.csi (Za.seq (Za.go Ja 400 [] [2,7,8,9] a0) (Za.seq (Za.block hl1) (Za.go Ja 400 [] [2] a0)))) (by nofun) rfl
theorem Ziu (ps:List (List Rn)) (n k:Int) (hl1:Za Yir (.loop Ls) (Gb false ps (ps.length:Int) 0) .ret (Gb true ps n k)):Zc Yir 147 [.sl ps.length (pp ps)] (.bool true):=Zc.of_bodyW (fn:=Zet) (s:=(dds 2 (.val (.bool true)::(dds 4 (.val (.sl ps.length (pp ps))::(.val (.int .i64 n)::(.val (.int .i64 k)::(dds 19 [])))))))) (ex := .ret) rfl rfl (Za.csi (Za.seq (Za.go Ja 400 [] [2,7,8,9] a0) (Za.seq_out (Za.block_ret hl1) (by nofun)))) (by nofun) rfl
end Go.Proofs.YtopjpgejefileaaGreat

namespace Go.Proofs.YtopjpgejefileaaGreat
open Go.IntKind (i64 u64 u32)
open Go.Ai
set_option maxRecDepth 100000
def Zmh (x:Int):Bool:=decide (256<(Zb x.natAbs).length)
def J7 (p:List Int):Bool:=decide (17<(Ze p).length) || (Ze p).any Zmh
theorem Zh5 {p:List Int} {f:Int->Bool} (h:p.any f=false) (i:Nat) (hi:i<p.length):f (p.getD i 0)=false:=by
 rw[List.any_eq_false] at h;rw[List.getD_eq_getElem?_getD,List.getElem?_eq_getElem hi];simpa using h _ (List.getElem_mem hi)
theorem Zob {p:List Int} {f:Int->Bool} (h:p.any f=true):∃ i,i<p.length/\f (p.getD i 0)=true:=by
 obtain⟨x,hx,hf⟩:=List.any_eq_true.1 h;obtain⟨i,hi,rfl⟩:=List.mem_iff_getElem.1 hx;refine⟨i,hi,?_⟩;rw[List.getD_eq_getElem?_getD,List.getElem?_eq_getElem hi];simpa using hf
section
variable {rs:List Rn} {ps:List (List Rn)} {n k:Int}
theorem R1 (hg:∀ r∈rs,Q5 1048576 r) (hN:rs.length<=1048576) :
  (J7 (Zf rs)=false->(Ze (Zf rs)).length<=17->Za Yir (.loop Hi) (U5 false ps n k rs (((Zz (Zf rs) rs.length:Nat):Int)-1) 0) (.exit 2) (U5 false ps n k rs (((Zz (Zf rs) rs.length:Nat):Int)-1) (Zz (Zf rs) rs.length:Nat))) /\
  (J7 (Zf rs)=true->(Ze (Zf rs)).length<=17->∃ j:Nat,Za Yir (.loop Hi) (U5 false ps n k rs (((Zz (Zf rs) rs.length:Nat):Int)-1) 0) .ret (U5 true ps n k rs (((Zz (Zf rs) rs.length:Nat):Int)-1) (j:Nat))):=by
 have hle:=V4 (Zf rs) rs.length;have hlen:(Ze (Zf rs)).length=Zz (Zf rs) rs.length:=by rw[Ug,Zn]
 have step:∀ t:Nat,t<Zz (Zf rs) rs.length->Zmh (Zh (rs.getD t z0))=false->Za Yir Hi (U5 false ps n k rs (((Zz (Zf rs) rs.length:Nat):Int)-1) (t:Nat)) .norm (U5 false ps n k rs (((Zz (Zf rs) rs.length:Nat):Int)-1) ((t+1:Nat):Int)):=by
  intro t ht hb;have ei:i64.wrap ((t:Int)+1)=((t+1:Nat):Int):=by rw[w64 (by omega) (by omega)];omega
  obtain⟨g1,g2⟩:=Z1 hg t;have k2:=Zrx false ps n k rs (((Zz (Zf rs) rs.length:Nat):Int)-1) (t:Nat) (((Zb (Zh (rs.getD t z0)).natAbs).length:Nat):Int) (by simp;omega) (by unfold Zmh at hb;simp only[decide_eq_false_iff_not] at hb |-;omega) (by omega) (by rw[Int.toNat_natCast];exact Lx g1 g2);rwa [ei] at k2
 refine⟨fun hl _ => ?_,fun hl h17 => ?_⟩
 ·unfold J7 at hl;rw[Bool.or_eq_false_iff] at hl;have h:=Za.upTo (prog:=Yir) (c:=Hi) (ex := .exit 2) (fun t=>U5 false ps n k rs (((Zz (Zf rs) rs.length:Nat):Int)-1) (t:Nat)) (Zz (Zf rs) rs.length) (by nofun) (Zrw false ps n k rs _ _ (by simp;omega)) 0 (Nat.zero_le _) (fun t _ h2=>step t h2 (by
   have:=Zh5 hl.2 t (by omega);rwa [Je,Q1] at this))
  exact h
 ·unfold J7 at hl;rw[decide_eq_false (by omega),Bool.false_or] at hl;obtain⟨i,hi,hf⟩:=Zob hl;rcases H0 (fun j=>Zmh (Zh (rs.getD j z0))) (Zz (Zf rs) rs.length) _ 0 (by rw[Nat.zero_add]) with h | ⟨j,_,h2,h3,h4⟩
  ·have:=h i (by omega) (by omega);rw[Je,Q1] at hf;rw[hf] at this;cases this
  ·obtain⟨g1,g2⟩:=Z1 hg j;have k1:=Zry false ps n k rs (((Zz (Zf rs) rs.length:Nat):Int)-1) (j:Nat) (((Zb (Zh (rs.getD j z0)).natAbs).length:Nat):Int) (by simp;omega) (by unfold Zmh at h3;simp only[decide_eq_true_eq] at h3 |-;omega) (by omega) (by rw[Int.toNat_natCast];exact Lx g1 g2);exact⟨j,Za.upTo (prog:=Yir) (c:=Hi) (ex := .ret) (fun t=>U5 false ps n k rs (((Zz (Zf rs) rs.length:Nat):Int)-1) (t:Nat)) j (by nofun) k1 0 (Nat.zero_le _) (fun t _ h6=>step t (by omega) (h4 t (by omega) h6))⟩
end
theorem Ft {α:Type} {l:List (List α)} {i:Nat} (h:i<l.length):l.getD i []∈l:=by
 rw[List.getD_eq_getElem?_getD,List.getElem?_eq_getElem h];exact List.getElem_mem h
theorem N0 {ps:List (List Rn)} (hg:∀ p∈ps,(∀ r∈p,Q5 1048576 r)/\p.length<=1048576) (hN:ps.length<=1048576):Zc Yir 147 [.sl ps.length (pp ps)] (.bool (ps.any fun p=>J7 (Zf p))):=by
 have hdeg:∀ t,t<ps.length->Zc Yir 53 [.sl (ps.getD t []).length (pc (ps.getD t []))] (.int .i64 (((Zz (Zf (ps.getD t [])) (ps.getD t []).length:Nat):Int)-1)):=fun t ht=>V3 (hg _ (Ft ht)).1 (hg _ (Ft ht)).2;have step:∀ t:Nat,t<ps.length->J7 (Zf (ps.getD t []))=false->Za Yir Ls (Gb false ps (ps.length:Nat) (t:Nat)) .norm (Gb false ps (ps.length:Nat) ((t+1:Nat):Int)):=by
  intro t ht hl;have ei:i64.wrap ((t:Int)+1)=((t+1:Nat):Int):=by rw[w64 (by omega) (by omega)];omega
  obtain⟨g1,g2⟩:=hg _ (Ft ht);have hlen:(Ze (Zf (ps.getD t []))).length=Zz (Zf (ps.getD t [])) (ps.getD t []).length:=by rw[Ug,Zn]
  have h17:(Ze (Zf (ps.getD t []))).length<=17:=by
   unfold J7 at hl;rw[Bool.or_eq_false_iff,decide_eq_false_iff_not] at hl;omega
  have k2:=Zz6 false ps (ps.length:Nat) (t:Nat) (((Zz (Zf (ps.getD t [])) (ps.getD t []).length:Nat):Int)-1) _ (by simp;omega) (by rw[decide_eq_false_iff_not];omega) (by omega) (by rw[Int.toNat_natCast];exact hdeg t ht) (by rw[Int.toNat_natCast];exact (R1 g1 g2).1 hl h17);rwa [ei] at k2
 rcases H0 (fun j=>J7 (Zf (ps.getD j []))) ps.length _ 0 (by rw[Nat.zero_add]) with h | ⟨j,_,h2,h3,h4⟩
 ·have hany:(ps.any fun p=>J7 (Zf p))=false:=by
   rw[List.any_eq_false];intro p hp;obtain⟨i,hi,rfl⟩:=List.mem_iff_getElem.1 hp;have:=h i (by omega) hi;rw[List.getD_eq_getElem?_getD,List.getElem?_eq_getElem hi] at this;simpa using this
  rw[hany];exact Ziv ps _ _ (Za.upTo (prog:=Yir) (c:=Ls) (ex := .exit 0) (fun t=>Gb false ps (ps.length:Nat) (t:Nat)) ps.length (by nofun) (Zz5 false ps _ _ (by simp)) 0 (Nat.zero_le _) (fun t _ h6=>step t h6 (h t (by omega) h6)))
 ·have hany:(ps.any fun p=>J7 (Zf p))=true:=by
   rw[List.any_eq_true];exact⟨_,Ft h2,h3⟩
  rw[hany];obtain⟨g1,g2⟩:=hg _ (Ft h2);have hlen:(Ze (Zf (ps.getD j []))).length=Zz (Zf (ps.getD j [])) (ps.getD j []).length:=by rw[Ug,Zn]
  have out:Za Yir Ls (Gb false ps (ps.length:Nat) (j:Nat)) .ret (Gb true ps (ps.length:Nat) (j:Nat)):=by
   by_cases h17:(Ze (Zf (ps.getD j []))).length<=17
   ·obtain⟨i,hi⟩:=(R1 (ps:=ps) (n:=(ps.length:Nat)) (k:=(j:Nat)) g1 g2).2 h3 h17;exact Zrv false ps (ps.length:Nat) (j:Nat) (((Zz (Zf (ps.getD j [])) (ps.getD j []).length:Nat):Int)-1) _ (by simp;omega) (by rw[decide_eq_false_iff_not];omega) (by omega) (by rw[Int.toNat_natCast];exact hdeg j h2) (by rw[Int.toNat_natCast];exact hi)
   ·exact Zz7 false ps (ps.length:Nat) (j:Nat) (((Zz (Zf (ps.getD j [])) (ps.getD j []).length:Nat):Int)-1) (by simp;omega) (by rw[decide_eq_true_eq];omega) (by omega) (by rw[Int.toNat_natCast];exact hdeg j h2)
  exact Ziu ps _ _ (Za.upTo (prog:=Yir) (c:=Ls) (ex := .ret) (fun t=>Gb false ps (ps.length:Nat) (t:Nat)) j (by nofun) out 0 (Nat.zero_le _) (fun t _ h6=>step t (by omega) (h4 t (by omega) h6)))
end Go.Proofs.YtopjpgejefileaaGreat

namespace Go.Proofs.YtopjpgejefileaaGreat
open Go.IntKind (i64 u64 u32)
open Go.Ai
set_option maxRecDepth 100000
def Zcl (o:Bool) (ts:List Rn) (i:Int):Zk:=(dds 2 (.val (.bool o)::(.val (.sl ts.length (pc ts))::(.val (.int .i64 i)::(dds 17 [])))))
theorem Yk58_1 (o:Bool) (ts:List Rn) (i:Int) (z:Bool) (c1:(decide (i<(ts.length:Int)))=true) (c2:(z)=true) (n1:0<=i/\i<(ts.length:Int)) (n2:Zc Yir 107 [Zp (ts.getD (Int.toNat i) z0)] (.bool z)):Za Yir Zuv (Zcl o ts i) .ret (Zcl true ts i):=(Za.go Xg 400 [.b true,.v (Zp (ts.getD (Int.toNat i) z0)),.r (.bool z),.b true] [2,3,4] (ac c1 (ac n1 (ac (Z9 n1) (ac n2 (ac c2 a0))))))
theorem Yk58_2 (o:Bool) (ts:List Rn) (i:Int) (z:Bool) (c1:(decide (i<(ts.length:Int)))=true) (c2:(z)=false) (n1:0<=i/\i<(ts.length:Int)) (n2:Zc Yir 107 [Zp (ts.getD (Int.toNat i) z0)] (.bool z)):Za Yir Zuv (Zcl o ts i) .norm (Zcl o ts (i64.wrap (i+1))):=(Za.go Xg 400 [.b true,.v (Zp (ts.getD (Int.toNat i) z0)),.r (.bool z),.b false] [2,3,4] (ac c1 (ac n1 (ac (Z9 n1) (ac n2 (ac c2 a0))))))
theorem Yk58_3 (o:Bool) (ts:List Rn) (i:Int)  (c1:(decide (i<(ts.length:Int)))=false):Za Yir Zuv (Zcl o ts i) (.exit 0) (Zcl o ts i):=(Za.go Xg 400 [.b false] [2,3,4] (ac c1 a0))
theorem Zd8 (rs ts:List Rn) (c1:(decide ((i64.wrap ((ts.length:Int)-1))>16))=true) (n1:Zc Yir 46 [.sl rs.length (pc rs)] (.fresh 2 ts.length (pc ts))):Zc Yir 58 [.sl rs.length (pc rs)] (.bool true):=Zc.of_bodyW (fn:=Z4a) (s:=(dds 2 (.val (.bool true)::(dds 19 [])))) (ex := .ret) rfl rfl (Za.asc (Za.asc (Za.csi (Za.seq_out (Za.go Xg 400 [.r (.fresh 2 ts.length (pc ts)),.b true] [2] (ac n1 (ac c1 a0))) (by nofun))))) (by nofun) rfl
theorem Zd7 (rs ts:List Rn) (i:Int) (c1:(decide ((i64.wrap ((ts.length:Int)-1))>16))=false) (n1:Zc Yir 46 [.sl rs.length (pc rs)] (.fresh 2 ts.length (pc ts))) (hl2:Za Yir (.loop Zuv) (Zcl false ts 0) (.exit 0) (Zcl false ts i)):Zc Yir 58 [.sl rs.length (pc rs)] (.bool false):=Zc.of_bodyW (fn:=Z4a) (s:=(dds 2 (.val (.bool false)::(dds 19 [])))) (ex := .ret) rfl rfl (Za.asc (Za.asc (Za.csi (Za.seq (Za.go Xg 400 [.r (.fresh 2 ts.length (pc ts)),.b false] [2,3,4] (ac n1 (ac c1 a0))) (Za.seq (Za.block hl2) (Za.go Xg 400 [] [2] a0)))))) (by nofun) rfl
theorem Zd6 (rs ts:List Rn) (i:Int) (c1:(decide ((i64.wrap ((ts.length:Int)-1))>16))=false) (n1:Zc Yir 46 [.sl rs.length (pc rs)] (.fresh 2 ts.length (pc ts))) (hl2:Za Yir (.loop Zuv) (Zcl false ts 0) .ret (Zcl true ts i)):Zc Yir 58 [.sl rs.length (pc rs)] (.bool true):=Zc.of_bodyW (fn:=Z4a) (s:=(dds 2 (.val (.bool true)::(.val (.sl ts.length (pc ts))::(.val (.int .i64 i)::(dds 17 [])))))) (ex := .ret) rfl rfl (Za.asc (Za.asc (Za.csi (Za.seq (Za.go Xg 400 [.r (.fresh 2 ts.length (pc ts)),.b false] [2,3,4] (ac n1 (ac c1 a0))) (Za.seq_out (Za.block_ret hl2) (by nofun)))))) (by nofun) rfl
theorem Yrun21 (rs ts:List Rn) (n1:Zc Yir 46 [.sl rs.length (pc rs)] (.fresh 2 ts.length (pc ts))):Zc Yir 21 [.sl rs.length (pc rs)] (.int .i64 (i64.wrap ((ts.length:Int)-1))):=Zc.go (fn:=Yi21) Xg rfl 400 rfl [.r (.fresh 2 ts.length (pc ts))] (ac n1 a0)
def Zvs (n:Int) (x:Int):Zk:=(dds 4 (.val (.int .i64 n)::(.val (.int .u32 x)::(dds 23 []))))
theorem Yk51_1 (n:Int) (x:Int)  (c1:(decide (x>0))=true):Za Yir Yc51 (Zvs n x) .norm (Zvs (i64.wrap (n+1)) (Int.fdiv x (2^(min (Int.toNat 1) (IntKind.bits .u32))))):=(Za.go Xg 400 [.b true] [4,5] (ac c1 (ac (show ¬ (1:Int)<0 from (by decide)) a0)))
theorem Zvw (n:Int) (x:Int)  (c1:(decide (x>0))=false):Za Yir Yc51 (Zvs n x) (.exit 0) (Zvs n x):=(Za.go Xg 400 [.b false] [4,5] (ac c1 a0))
theorem Zpe (b:Bool) (xs ms:List Int) (c1:((ms.length:Int)==0)=true) (n1:Zc Yir 99 [.sl xs.length (lm xs)] (.fresh 1 ms.length (lm ms))):Zc Yir 51 [.agg [.bool b,.sl xs.length (lm xs)]] (.int .i64 0):=Zc.of_bodyW (fn:=Z5c) (s:=(dds 2 (.val (.int .i64 0)::(dds 26 [])))) (ex := .ret) rfl rfl (Za.asc (Za.asc (Za.asc (Za.csi (Za.seq_out (Za.go Xg 400 [.r (.fresh 1 ms.length (lm ms)),.b true] [2] (ac n1 (ac c1 a0))) (by nofun)))))) (by nofun) rfl
theorem Zpd (b:Bool) (xs ms:List Int) (n x:Int) (c1:((ms.length:Int)==0)=false) (n1:Zc Yir 99 [.sl xs.length (lm xs)] (.fresh 1 ms.length (lm ms))) (n2:0<=(i64.wrap ((ms.length:Int)-1))/\(i64.wrap ((ms.length:Int)-1))<(ms.length:Int)) (hl3:Za Yir (.loop Yc51) (Zvs (i64.wrap (32*(i64.wrap ((ms.length:Int)-1)))) (ms.getD (Int.toNat (i64.wrap ((ms.length:Int)-1))) 0)) (.exit 0) (Zvs n x)):Zc Yir 51 [.agg [.bool b,.sl xs.length (lm xs)]] (.int .i64 n):=Zc.of_bodyW (fn:=Z5c) (s:=(dds 2 (.val (.int .i64 n)::(dds 26 [])))) (ex := .ret) rfl rfl (Za.asc (Za.asc (Za.asc (Za.csi (Za.seq (Za.go Xg 400 [.r (.fresh 1 ms.length (lm ms)),.b false,.v (.int .u32 (ms.getD (Int.toNat (i64.wrap ((ms.length:Int)-1))) 0))] [4,5] (ac n1 (ac c1 (ac n2 (ac (Zu n2) a0))))) (Za.seq (Za.block hl3) (Za.go Xg 400 [] [2] a0))))))) (by nofun) rfl
end Go.Proofs.YtopjpgejefileaaGreat

namespace Go.Proofs.YtopjpgejefileaaGreat
open Go.IntKind (i64 u64 u32)
open Go.Ai
set_option maxRecDepth 100000
theorem Ly {xs:List Int} (hu:U32 xs) (neg:Bool):decide (256<(Ze xs).length)=Zmh (rv neg xs):=by
 unfold Zmh;rw[G8 (neg:=neg) hu]
theorem S8 {rs:List Rn} (hg:∀ r∈rs,Q5 1048576 r) (hN:rs.length<=1048576):Zc Yir 58 [.sl rs.length (pc rs)] (.bool (J7 (Zf rs))):=by
 have htr:=Xf hg hN;have hl:=Qb (Zf rs);rw[Zn] at hl;have hf:∀ x∈Ze (Zf rs),Jc 1048576 x:=Xj (Q2 hg);have gts:=Kc hf;have hvs:=Z3 (Ze (Zf rs));have hpk:pk (Ze (Zf rs))=pc ((Ze (Zf rs)).map cn):=rfl;rw[hpk,<- List.length_map (f:=cn)] at htr;have hlm:((Ze (Zf rs)).map cn).length=(Ze (Zf rs)).length:=List.length_map ..;have hgd:∀ t,Zh (((Ze (Zf rs)).map cn).getD t z0)=(Ze (Zf rs)).getD t 0:=fun t=>by rw[<- Q1,hvs]
 generalize (Ze (Zf rs)).map cn=ts at *
 have e1:i64.wrap ((ts.length:Int)-1)=(ts.length:Int)-1:=w64 (by omega) (by omega);have hcall:∀ t,Zc Yir 107 [.agg [.bool (ts.getD t z0).1,.sl (ts.getD t z0).2.length (lm (ts.getD t z0).2)]] (.bool (Zmh ((Ze (Zf rs)).getD t 0))):=fun t=>by
  obtain⟨g1,g2⟩:=Z1 gts t;have h:=Zc1 (neg:=(ts.getD t z0).1) (xs:=(ts.getD t z0).2) g2;rw[Ly g1 (ts.getD t z0).1,show rv (ts.getD t z0).1 (ts.getD t z0).2=Zh (ts.getD t z0) from rfl,hgd] at h;exact h
 have step:∀ t:Nat,t<ts.length->Zmh ((Ze (Zf rs)).getD t 0)=false->Za Yir Zuv (Zcl false ts (t:Nat)) .norm (Zcl false ts ((t+1:Nat):Int)):=by
  intro t ht hb;have ei:i64.wrap ((t:Int)+1)=((t+1:Nat):Int):=by rw[w64 (by omega) (by omega)];omega
  have hc:=hcall t;rw[hb] at hc;have k2:=Yk58_2 false ts (t:Nat) false (by simp;omega) rfl (by omega) (by rw[Int.toNat_natCast];exact hc);rwa [ei] at k2
 by_cases h17:(Ze (Zf rs)).length<=17
 ·have c1:decide (i64.wrap ((ts.length:Int)-1)>16)=false:=by rw[e1,decide_eq_false_iff_not];omega
  rcases H0 (fun j=>Zmh ((Ze (Zf rs)).getD j 0)) ts.length _ 0 (by rw[Nat.zero_add]) with h | ⟨j,_,h2,h3,h4⟩
  ·have hf:J7 (Zf rs)=false:=by
    unfold J7;rw[decide_eq_false (by omega),Bool.false_or,List.any_eq_false];intro x hx;obtain⟨i,hi,rfl⟩:=List.mem_iff_getElem.1 hx;have:=h i (by omega) (by omega);rw[List.getD_eq_getElem?_getD,List.getElem?_eq_getElem hi] at this;simpa using this
   rw[hf];exact Zd7 rs ts _ c1 htr (Za.upTo (prog:=Yir) (c:=Zuv) (ex := .exit 0) (fun t=>Zcl false ts (t:Nat)) ts.length (by nofun) (Yk58_3 false ts _ (by simp)) 0 (Nat.zero_le _) (fun t _ h6=>step t h6 (h t (by omega) h6)))
  ·have hf:J7 (Zf rs)=true:=by
    unfold J7;rw[decide_eq_false (by omega),Bool.false_or,List.any_eq_true];refine⟨(Ze (Zf rs)).getD j 0,?_,h3⟩;rw[List.getD_eq_getElem?_getD,List.getElem?_eq_getElem (by omega)];exact List.getElem_mem _
   rw[hf];have hc:=hcall j;rw[h3] at hc;have out:=Yk58_1 false ts (j:Nat) true (by simp;omega) rfl (by omega) (by rw[Int.toNat_natCast];exact hc);exact Zd6 rs ts _ c1 htr (Za.upTo (prog:=Yir) (c:=Zuv) (ex := .ret) (fun t=>Zcl false ts (t:Nat)) j (by nofun) out 0 (Nat.zero_le _) (fun t _ h6=>step t (by omega) (h4 t (by omega) h6)))
 ·have hf:J7 (Zf rs)=true:=by unfold J7;rw[decide_eq_true (by omega)];rfl
  rw[hf];exact Zd8 rs ts (by rw[e1,decide_eq_true_eq];omega) htr
theorem L8 {rs:List Rn} (hg:∀ r∈rs,Q5 1048576 r) (hN:rs.length<=1048576):Zc Yir 21 [.sl rs.length (pc rs)] (.int .i64 (((Ze (Zf rs)).length:Nat)-1:Int)):=by
 have htr:=Xf hg hN;have hl:=Qb (Zf rs);rw[Zn] at hl;have hpk:pk (Ze (Zf rs))=pc ((Ze (Zf rs)).map cn):=rfl;rw[hpk,<- List.length_map (f:=cn)] at htr;have h:=Yrun21 rs _ htr;rw[w64 (by omega) (by rw[List.length_map];omega),List.length_map] at h;exact h
theorem Zhx {x:Nat} (h:x ≠ 0):W1 x=W1 (x / 2)+1:=by
 unfold W1;rw[if_neg h];by_cases h2:x / 2=0
 ·have:x=1:=by omega
  subst this;decide
 ·rw[if_neg h2,Vb x 1 (by simpa using h2)]
theorem Zc5:∀ (f x:Nat) (n:Nat),x<=f->x<4294967296->n+W1 x<=2251799813685248->Za Yir (.loop Yc51) (Zvs (n:Nat) (x:Nat)) (.exit 0) (Zvs ((n+W1 x:Nat):Int) 0):=by
 intro f;induction f with
 | zero =>
  intro x n hx _ _;have:x=0:=by omega
  subst this;exact Za.loop_out (Zvw _ _ (by simp)) (by nofun)
 | succ f ih =>
  intro x n hx hb hn;by_cases h0:x=0
  ·subst h0;exact Za.loop_out (Zvw _ _ (by simp)) (by nofun)
  ·have k:=Yk51_1 (n:Nat) (x:Nat) (by simp;omega);have e1:Int.fdiv (x:Int) (2^(min (Int.toNat 1) (IntKind.bits .u32)))=((x / 2:Nat):Int):=Zv8 x 1 (by omega);rw[e1,w64 (by omega) (by omega),show (n:Int)+1=((n+1:Nat):Int) by omega] at k;have hbl:=Zhx h0;have h:=ih (x / 2) (n+1) (by omega) (by omega) (by omega);rw[show n+1+W1 (x / 2)=n+W1 x by omega] at h;exact Za.loop k h
theorem L7 {neg:Bool} {xs:List Int} (hu:U32 xs) (hN:xs.length<=35184372088832):Zc Yir 51 [.agg [.bool neg,.sl xs.length (lm xs)]] (.int .i64 ((W1 (rv neg xs).natAbs:Nat):Int)):=by
 have hm:=J9 (xs:=xs) hN;rw[G8 (neg:=neg) hu] at hm;have l1:=Ul (neg:=neg) hu;generalize rv neg xs=a at *
 by_cases h0:a.natAbs=0
 ·have h:=Zpe neg xs _ (by rw[h0];rfl) hm;rw[show W1 a.natAbs=0 by unfold W1;rw[if_pos h0]];exact h
 ·obtain⟨t1,x,t2,t3,t4,t5⟩:=Zbb h0;have e1:i64.wrap ((((Zb a.natAbs).length:Nat):Int)-1)=(((Zb a.natAbs).length-1:Nat):Int):=by rw[w64 (by omega) (by omega)];omega
  have hlog:Nat.log2 x<32:=(Nat.log2_lt t3).2 t4;have hbx:W1 x=Nat.log2 x+1:=by unfold W1;rw[if_neg t3]
  have e3:i64.wrap (32*(((Zb a.natAbs).length-1:Nat):Int))=((32*((Zb a.natAbs).length-1):Nat):Int):=by rw[w64 (by omega) (by omega)];omega
  have hl:=Zc5 x x (32*((Zb a.natAbs).length-1)) (Nat.le_refl _) t4 (by omega);have h:=Zpd neg xs (Zb a.natAbs) _ _ (by rw[beq_eq_false_iff_ne];omega) hm (by rw[e1];omega) (by rw[e1,Int.toNat_natCast,t2,e3];exact hl);have e2:W1 a.natAbs=32*((Zb a.natAbs).length-1)+W1 x:=by
   rw[hbx];unfold W1;rw[if_neg h0,Vb a.natAbs (32*((Zb a.natAbs).length-1)) (by rw[t5];exact t3),t5];omega
  rw[e2];exact h
end Go.Proofs.YtopjpgejefileaaGreat

namespace Go.Proofs.YtopjpgejefileaaGreat
open Go.IntKind (i64 u64 u32)
open Go.Ai
set_option maxRecDepth 100000
theorem Zhf {n k:Nat} (h:n<32*k):Jc k ((2:Int)^n):=by
 unfold Jc;rw[Int.natAbs_pow];show 2^n<4294967296^k;rw[show (4294967296:Nat)=2^32 by decide,<- Nat.pow_mul];exact Nat.pow_lt_pow_right (by decide) h
theorem M8 {a b:Nat} (ha:a<=4096) (hb:b<=4096):i64.wrap ((if (b:Int)>(a:Int) then (b:Int) else (a:Int))-(a:Int))=((max a b-a:Nat):Int):=by
 split <;> rw[w64 (by omega) (by omega)] <;> omega
theorem M7 {a b:Nat} (ha:a<=4096) (hb:b<=4096):i64.wrap ((if (b:Int)>(a:Int) then (b:Int) else (a:Int))-(b:Int))=((max a b-b:Nat):Int):=by
 split <;> rw[w64 (by omega) (by omega)] <;> omega
theorem Zgs {a b:Nat} (ha:a<=4096) (hb:b<=4096):i64.wrap ((if (b:Int)>(a:Int) then (b:Int) else (a:Int))+1)=((max a b+1:Nat):Int):=by
 split <;> rw[w64 (by omega) (by omega)] <;> omega
theorem Zdt {a b c:Int} (hc:0<c):U0 (a*c) (b*c)=U0 a b:=by
 unfold U0;have h1:a*c<b*c↔a<b:=Int.mul_lt_mul_right hc;have h2:b*c<a*c↔b<a:=Int.mul_lt_mul_right hc;simp only[h1,h2]
theorem Zw2 (X Y:Int) (a b:Nat):U0 (X*2^(max a b-a)) (Y*2^(max a b-b))=U0 (X*2^b) (Y*2^a):=by
 have h:=Zdt (a:=X*2^(max a b-a)) (b:=Y*2^(max a b-b)) (Qe (min a b));rw[<- h,Int.mul_assoc,Int.mul_assoc,<- Int.pow_add,<- Int.pow_add,show max a b-a+min a b=b by omega,show max a b-b+min a b=a by omega]
def dyR (r:Rn) (e:Int):AV := .agg [.bool r.1,.sl r.2.length (lm r.2),.int .i64 e]
theorem Zme {r:Rn} (hr:Q5 200 r) {n:Nat} (hn:n<=4096):Zc Yir 104 [Zp r,.int .i64 (n:Nat)] (Zi (Zh r*2^n))/\Zc Yir 84 [Zp r,.int .i64 (n:Nat)] (Uq (Zh r*2^n))/\Jc 330 (Zh r*2^n):=by
 have h2:=hr.2;exact⟨Za1 hr.1 n (by omega) (by omega),Mu hr.1 n (by omega),(hr.fits.mul (Zhf (k:=129) (by omega))).mono (by omega)⟩
def Gj (x:Int) (a:Nat) (y:Int) (b:Nat):Int:=U0 (x*2^b) (y*2^a)
def Zgq (x:Int) (a:Nat) (y:Int) (b:Nat):Int:=x*2^(max a b-a)+y*2^(max a b-b)
def midN (x:Int) (a:Nat) (y:Int) (b:Nat):Int:=Zgq x a y b / 2^Wq (Zgq x a y b) (max a b+1)
def Zwn (x:Int) (a:Nat) (y:Int) (b:Nat):Nat:=max a b+1-Wq (Zgq x a y b) (max a b+1)
section
variable {r t:Rn} (hr:Q5 200 r) (ht:Q5 200 t) {a b:Nat} (ha:a<=4096) (hb:b<=4096)
include hr ht ha hb
theorem Ao:Zc Yir 55 [dyR r (a:Nat),dyR t (b:Nat)] (.int .i64 (Gj (Zh r) a (Zh t) b)):=by
 obtain⟨x1,_,x3⟩:=Zme hr (n:=max a b-a) (by omega);obtain⟨y1,_,y3⟩:=Zme ht (n:=max a b-b) (by omega);have g1:=Qi x3;have g2:=Qi y3;have p:=Zmo (na:=(cn (Zh r*2^(max a b-a))).1) (nb:=(cn (Zh t*2^(max a b-b))).1) g1.1 g2.1 (by have:=g1.2;omega) (by have:=g2.2;omega);rw[show ∀ n,rv (cn n).1 (cn n).2=n from Z0,show ∀ n,rv (cn n).1 (cn n).2=n from Z0,Zw2] at p;exact Yrun55 r t (a:Nat) (b:Nat) _ _ _ (by rw[M8 ha hb];exact x1) (by rw[M7 ha hb];exact y1) p
theorem Xt:Zc Yir 33 [dyR r (a:Nat),dyR t (b:Nat)] (.int .i64 (Gj (Zh r) a (Zh t) b)):=by
 obtain⟨_,x2,x4⟩:=Zme hr (n:=b) hb;obtain⟨_,y2,y4⟩:=Zme ht (n:=a) ha;have g3:=Qi x4;have g4:=Qi y4;have q:=Znc (na:=(cn (Zh r*2^b)).1) (nb:=(cn (Zh t*2^a)).1) g3.1 g4.1 (by have:=g3.2;omega) (by have:=g4.2;omega);rw[show ∀ n,rv (cn n).1 (cn n).2=n from Z0,show ∀ n,rv (cn n).1 (cn n).2=n from Z0] at q;exact Yrun33 r t (a:Nat) (b:Nat) _ _ _ x2 y2 q
theorem Zb0:Jc 331 (Zgq (Zh r) a (Zh t) b):=by
 obtain⟨_,_,x3⟩:=Zme hr (n:=max a b-a) (by omega);obtain⟨_,_,y3⟩:=Zme ht (n:=max a b-b) (by omega);exact x3.add y3
theorem Zaa:Zc Yir 133 [dyR r (a:Nat),dyR t (b:Nat)] (dyA (midN (Zh r) a (Zh t) b) ((Zwn (Zh r) a (Zh t) b:Nat):Int)):=by
 obtain⟨x1,_,x3⟩:=Zme hr (n:=max a b-a) (by omega);obtain⟨y1,_,y3⟩:=Zme ht (n:=max a b-b) (by omega);have hX:=x3.len;have hY:=y3.len;have p:=Zmq (a:=Zh r*2^(max a b-a)) (b:=Zh t*2^(max a b-b)) (by omega) (by omega);have hZl:=(Zb0 hr ht ha hb).len;have k1:=S4 (N:=Zgq (Zh r) a (Zh t) b) (e:=max a b+1) (by omega) (by omega);exact Zx4 r t (a:Nat) (b:Nat) _ _ _ _ _ (by rw[M8 ha hb];exact x1) (by rw[M7 ha hb];exact y1) p (by rw[Zgs ha hb];exact k1)
theorem Zfx:Zc Yir 121 [dyR r (a:Nat),dyR t (b:Nat)] (dyA (midN (Zh r) a (Zh t) b) ((Zwn (Zh r) a (Zh t) b:Nat):Int)):=by
 obtain⟨_,x2,x3⟩:=Zme hr (n:=max a b-a) (by omega);obtain⟨_,y2,y3⟩:=Zme ht (n:=max a b-b) (by omega);have q:=A5 (na:=(cn (Zh r*2^(max a b-a))).1) (nb:=(cn (Zh t*2^(max a b-b))).1) (Qi x3).1 (Qi y3).1 (by have:=(Qi x3).2;omega) (by have:=(Qi y3).2;omega);rw[show ∀ n,rv (cn n).1 (cn n).2=n from Z0,show ∀ n,rv (cn n).1 (cn n).2=n from Z0] at q;have hZl:=(Zb0 hr ht ha hb).len;have k2:=Zc4 (N:=Zgq (Zh r) a (Zh t) b) (e:=max a b+1) (by omega) (by omega);exact Zyb r t (a:Nat) (b:Nat) _ _ _ _ _ (by rw[M8 ha hb];exact x2) (by rw[M7 ha hb];exact y2) q (by rw[Zgs ha hb];exact k2)
end
end Go.Proofs.YtopjpgejefileaaGreat

namespace Go.Proofs.YtopjpgejefileaaGreat
open Go.IntKind (i64 u64 u32)
open Go.Ai
set_option maxRecDepth 100000
def D4 (rs:List Rn) (ss:List Rn) (n:Int) (m:Int) (k:Nat) (os:List Rn) (l:Int) (i:Int):Zk:=(.val (.sl rs.length (pc rs))::(.val (.sl ss.length (pc ss))::(dds 3 (.val (.int .i64 n)::(.val (.int .i64 m)::(.own 2 k (pc os)::(dds 12 (.val (.int .i64 l)::(.val (.int .i64 i)::(dds 30 []))))))))))
theorem Zz4 (rs:List Rn) (ss:List Rn) (n:Int) (m:Int) (k:Nat) (os:List Rn) (l:Int) (i:Int)  (c1:(decide (i<l))=true) (c2:(decide (i<n))=true) (c3:(decide (i<m))=true) (n1:0<=i/\i<(rs.length:Int)) (n2:0<=i/\i<(k:Int)) (n3:os.length=k) (n4:(os.set (Int.toNat i) (rs.getD (Int.toNat i) z0)).length=k) (n5:0<=i/\i<(ss.length:Int)) (n6:Zc Yir 111 [Zp ((os.set (Int.toNat i) (rs.getD (Int.toNat i) z0)).getD (Int.toNat i) z0),Zp (ss.getD (Int.toNat i) z0)] (Zi ((Zh ((os.set (Int.toNat i) (rs.getD (Int.toNat i) z0)).getD (Int.toNat i) z0))+(Zh (ss.getD (Int.toNat i) z0))))):Za Yir Se (D4 rs ss n m k os l i) .norm (D4 rs ss n m k ((os.set (Int.toNat i) (rs.getD (Int.toNat i) z0)).set (Int.toNat i) (cn ((Zh ((os.set (Int.toNat i) (rs.getD (Int.toNat i) z0)).getD (Int.toNat i) z0))+(Zh (ss.getD (Int.toNat i) z0))))) l (i64.wrap (i+1))):=(Za.go Ja 400 [.b true,.b true,.v (Zp (rs.getD (Int.toNat i) z0)),.l (pc (os.set (Int.toNat i) (rs.getD (Int.toNat i) z0))),.b true,.v (Zp ((os.set (Int.toNat i) (rs.getD (Int.toNat i) z0)).getD (Int.toNat i) z0)),.v (Zp (ss.getD (Int.toNat i) z0)),.r (Zi ((Zh ((os.set (Int.toNat i) (rs.getD (Int.toNat i) z0)).getD (Int.toNat i) z0))+(Zh (ss.getD (Int.toNat i) z0)))),.l (pc ((os.set (Int.toNat i) (rs.getD (Int.toNat i) z0)).set (Int.toNat i) (cn ((Zh ((os.set (Int.toNat i) (rs.getD (Int.toNat i) z0)).getD (Int.toNat i) z0))+(Zh (ss.getD (Int.toNat i) z0))))))] [0,1,5,6,7,20,21] (ac c1 (ac c2 (ac n1 (ac (Z9 n1) (ac n2 (ac (Uw (r:=rs.getD (Int.toNat i) z0) n3 n2) (ac c3 (ac n2 (ac (U7 n4 n2) (ac n5 (ac (Z9 n5) (ac n6 (ac n2 (ac (Uw (r:=cn ((Zh ((os.set (Int.toNat i) (rs.getD (Int.toNat i) z0)).getD (Int.toNat i) z0))+(Zh (ss.getD (Int.toNat i) z0)))) n4 n2) a0)))))))))))))))
theorem Zz3 (rs:List Rn) (ss:List Rn) (n:Int) (m:Int) (k:Nat) (os:List Rn) (l:Int) (i:Int)  (c1:(decide (i<l))=true) (c2:(decide (i<n))=true) (c3:(decide (i<m))=false) (n1:0<=i/\i<(rs.length:Int)) (n2:0<=i/\i<(k:Int)) (n3:os.length=k):Za Yir Se (D4 rs ss n m k os l i) .norm (D4 rs ss n m k (os.set (Int.toNat i) (rs.getD (Int.toNat i) z0)) l (i64.wrap (i+1))):=(Za.go Ja 400 [.b true,.b true,.v (Zp (rs.getD (Int.toNat i) z0)),.l (pc (os.set (Int.toNat i) (rs.getD (Int.toNat i) z0))),.b false] [0,1,5,6,7,20,21] (ac c1 (ac c2 (ac n1 (ac (Z9 n1) (ac n2 (ac (Uw (r:=rs.getD (Int.toNat i) z0) n3 n2) (ac c3 a0))))))))
theorem Zz2 (rs:List Rn) (ss:List Rn) (n:Int) (m:Int) (k:Nat) (os:List Rn) (l:Int) (i:Int)  (c1:(decide (i<l))=true) (c2:(decide (i<n))=false) (c3:(decide (i<m))=true) (n1:0<=i/\i<(k:Int)) (n2:os.length=k) (n3:0<=i/\i<(ss.length:Int)) (n4:Zc Yir 111 [Zp (os.getD (Int.toNat i) z0),Zp (ss.getD (Int.toNat i) z0)] (Zi ((Zh (os.getD (Int.toNat i) z0))+(Zh (ss.getD (Int.toNat i) z0))))):Za Yir Se (D4 rs ss n m k os l i) .norm (D4 rs ss n m k (os.set (Int.toNat i) (cn ((Zh (os.getD (Int.toNat i) z0))+(Zh (ss.getD (Int.toNat i) z0))))) l (i64.wrap (i+1))):=(Za.go Ja 400 [.b true,.b false,.b true,.v (Zp (os.getD (Int.toNat i) z0)),.v (Zp (ss.getD (Int.toNat i) z0)),.r (Zi ((Zh (os.getD (Int.toNat i) z0))+(Zh (ss.getD (Int.toNat i) z0)))),.l (pc (os.set (Int.toNat i) (cn ((Zh (os.getD (Int.toNat i) z0))+(Zh (ss.getD (Int.toNat i) z0))))))] [0,1,5,6,7,20,21] (ac c1 (ac c2 (ac c3 (ac n1 (ac (U7 n2 n1) (ac n3 (ac (Z9 n3) (ac n4 (ac n1 (ac (Uw (r:=cn ((Zh (os.getD (Int.toNat i) z0))+(Zh (ss.getD (Int.toNat i) z0)))) n2 n1) a0)))))))))))
theorem Zz1 (rs:List Rn) (ss:List Rn) (n:Int) (m:Int) (k:Nat) (os:List Rn) (l:Int) (i:Int)  (c1:(decide (i<l))=false):Za Yir Se (D4 rs ss n m k os l i) (.exit 0) (D4 rs ss n m k os l i):=(Za.go Ja 400 [.b false] [0,1,5,6,7,20,21] (ac c1 a0))
def K6 (rs ss:List Rn) (a b j:Nat):Rn:=if j<b then cn (Zh (if j<a then rs.getD j z0 else z0)+Zh (ss.getD j z0)) else (if j<a then rs.getD j z0 else z0)
theorem Zqn {rs ss:List Rn} {a b:Nat} (ha:a<=rs.length) (hb:b<=ss.length) (hN:rs.length<=1048576) (hM:ss.length<=1048576) (hr:∀ r∈rs,Q5 1048575 r) (hs:∀ r∈ss,Q5 1048575 r) :
  Za Yir (.loop Se) (D4 rs ss a b (max a b) (List.replicate (max a b) z0) (max a b:Nat) 0) (.exit 0) (D4 rs ss a b (max a b) ((List.range (max a b)).map (K6 rs ss a b)) (max a b:Nat) (max a b:Nat)):=by
 have h:=Za.up (prog:=Yir) (c:=Se) (ex := .exit 0) (fin:=D4 rs ss a b (max a b) ((List.range (max a b)).map (K6 rs ss a b)) (max a b:Nat) (max a b:Nat))
  (fun i=>D4 rs ss a b (max a b) (Up (K6 rs ss a b) i (max a b-i)) (max a b:Nat) (i:Nat)) (max a b) (by nofun) ?_ ?_ 0 (Nat.zero_le _)
 ·simp only[Gy,Nat.sub_zero] at h;exact h
 ·intro i hi;obtain⟨r,hr'⟩:∃ r,max a b-i=r+1:=⟨max a b-i-1,by omega⟩;have e2:max a b-(i+1)=r:=by omega
  have ei:i64.wrap ((i:Int)+1)=((i+1:Nat):Int):=by rw[w64 (by omega) (by omega)];omega
  have hlen:(Up (K6 rs ss a b) i (r+1)).length=max a b:=by rw[Kf];omega
  have hz:=Zhg (K6 rs ss a b) i r;have hset:=Dw (K6 rs ss a b) i r;obtain⟨gr1,gr2⟩:=Z1 hr i;obtain⟨gs1,gs2⟩:=Z1 hs i;simp only[hr',e2];generalize Up (K6 rs ss a b) i (r+1)=os at *
  by_cases h1:i<a <;> by_cases h2:i<b
  ·have ho:(os.set i (rs.getD i z0)).getD i z0=rs.getD i z0:=by simp[List.getD_eq_getElem?_getD,show i<os.length by omega]
   have k:=Zz4 rs ss a b (max a b) os (max a b:Nat) (i:Nat) (by simp;omega) (by simp;omega) (by simp;omega) (by omega) (by omega) hlen (by simpa using hlen) (by omega) (by
    simp only[Int.toNat_natCast,ho];exact Ab gr1 gs1 (by omega) (by omega))
   refine k.to rfl ?_;simp only[Int.toNat_natCast,ei,ho,List.set_set];rw[<- hset];simp only[K6,if_pos h1,if_pos h2]
  ·have k:=Zz3 rs ss a b (max a b) os (max a b:Nat) (i:Nat) (by simp;omega) (by simp;omega) (by simp;omega) (by omega) (by omega) hlen;refine k.to rfl ?_;simp only[Int.toNat_natCast,ei];rw[<- hset];simp only[K6,if_pos h1,if_neg h2]
  ·have k:=Zz2 rs ss a b (max a b) os (max a b:Nat) (i:Nat) (by simp;omega) (by simp;omega) (by simp;omega) (by omega) hlen (by omega) (by
    simp only[Int.toNat_natCast,hz];exact Ab (Ds 0).1 gs1 (by decide) (by omega))
   refine k.to rfl ?_;simp only[Int.toNat_natCast,ei,hz];rw[<- hset];simp only[K6,if_neg h1,if_pos h2]
  ·omega
 ·have k:=Zz1 rs ss a b (max a b) ((List.range (max a b)).map (K6 rs ss a b)) (max a b:Nat) (max a b:Nat) (by simp);simp only[Nat.sub_self,Gz];exact k
theorem Zxz (rs ss os ts:List Rn) (drs dss:Int) (k M:Nat) (n1:Zc Yir 53 [.sl rs.length (pc rs)] (.int .i64 drs)) (n2:Zc Yir 53 [.sl ss.length (pc ss)] (.int .i64 dss)) (n3:0<=(if (i64.wrap (dss+1))>(i64.wrap (drs+1)) then (i64.wrap (dss+1)) else (i64.wrap (drs+1)))/\(if (i64.wrap (dss+1))>(i64.wrap (drs+1)) then (i64.wrap (dss+1)) else (i64.wrap (drs+1)))<=1048576) (hl4:Za Yir (.loop Se) ((.val (.sl rs.length (pc rs))::(.val (.sl ss.length (pc ss))::(dds 3 (.val (.int .i64 (i64.wrap (drs+1)))::(.val (.int .i64 (i64.wrap (dss+1)))::(.own 2 (Int.toNat (if (i64.wrap (dss+1))>(i64.wrap (drs+1)) then (i64.wrap (dss+1)) else (i64.wrap (drs+1)))) (Ju [.bool false,.sl 0 []] (Int.toNat (if (i64.wrap (dss+1))>(i64.wrap (drs+1)) then (i64.wrap (dss+1)) else (i64.wrap (drs+1)))))::(dds 12 (.val (.int .i64 (((Int.toNat (if (i64.wrap (dss+1))>(i64.wrap (drs+1)) then (i64.wrap (dss+1)) else (i64.wrap (drs+1)))):Nat):Int))::(.val (.int .i64 0)::(dds 30 []))))))))))) (.exit 0) (D4 rs ss (i64.wrap (drs+1)) (i64.wrap (dss+1)) M os M M)) (n5:Zc Yir 66 [.sl M (pc os)] (.fresh 2 k (pc ts))):Zc Yir 149 [.sl rs.length (pc rs),.sl ss.length (pc ss)] (.fresh 2 k (pc ts)):=Zc.of_bodyW (fn:=Zk5) (s:=(dds 4 (.own 2 k (pc ts)::(dds 47 [])))) (ex := .ret) rfl rfl (Za.asc (Za.asc (Za.csi (Za.seq (Za.go Ja 400 [.r (.int .i64 drs),.r (.int .i64 dss)] [0,1,5,6,7,20,21] (ac n1 (ac n2 (ac n3 a0)))) (Za.seq (Za.block hl4) (Za.go Ja 400 [.r (.fresh 2 k (pc ts))] [4] (ac n5 a0))))))) (by nofun) rfl
theorem Hn (xs:List Int) {j:Nat} (h:Zz xs xs.length<=j):xs.getD j 0=0:=by
 rcases Nat.lt_or_ge j xs.length with g | g
 ·exact G9 xs xs.length j h g
 ·exact Qo g
theorem Zga (rs ss:List Rn) (j:Nat):Zh (K6 rs ss (Zz (Zf rs) rs.length) (Zz (Zf ss) ss.length) j)=(Zf rs).getD j 0+(Zf ss).getD j 0:=by
 have h1:=Q1 rs j;have h2:=Q1 ss j;unfold K6;by_cases g1:j<Zz (Zf rs) rs.length <;> by_cases g2:j<Zz (Zf ss) ss.length
 ·rw[if_pos g1,if_pos g2,Z0,h1,h2]
 ·have:=Hn (Zf ss) (j:=j) (by rw[Zn];omega);rw[if_pos g1,if_neg g2,h1,this,Int.add_zero]
 ·have:=Hn (Zf rs) (j:=j) (by rw[Zn];omega);rw[if_neg g1,if_pos g2,Z0,Sv,h2,this]
 ·have k1:=Hn (Zf ss) (j:=j) (by rw[Zn];omega);have k2:=Hn (Zf rs) (j:=j) (by rw[Zn];omega);rw[if_neg g1,if_neg g2,Sv,k1,k2];rfl
theorem Zdf {K:Nat} {rs ss:List Rn} (hr:∀ r∈rs,Q5 K r) (hs:∀ r∈ss,Q5 K r) (a b j:Nat):Q5 (K+1) (K6 rs ss a b j):=by
 have h1:=Z1 hr j;have h2:=Z1 hs j;unfold K6;split
 ·split
  ·exact Qi (h1.fits.add h2.fits)
  ·exact Qi ((Ds K).fits.add h2.fits)
 ·split
  ·exact h1.mono (by omega)
  ·exact Ds _
theorem Zh4 {K:Nat} {rs ss:List Rn} (hr:∀ r∈rs,Q5 K r) (hs:∀ r∈ss,Q5 K r) (hK:K<1048576) (hN:rs.length<=1048576) (hM:ss.length<=1048576) :
  Zc Yir 149 [.sl rs.length (pc rs),.sl ss.length (pc ss)] (.fresh 2 (F8 (Zf rs) (Zf ss)).length (pk (F8 (Zf rs) (Zf ss)))):=by
 have hr':∀ r∈rs,Q5 1048575 r:=fun r h=>(hr r h).mono (by omega);have hs':∀ r∈ss,Q5 1048575 r:=fun r h=>(hs r h).mono (by omega);have d1:=V3 (fun r h=>(hr r h).mono (by omega)) hN;have d2:=V3 (fun r h=>(hs r h).mono (by omega)) hM;have l1:=V4 (Zf rs) rs.length;have l2:=V4 (Zf ss) ss.length;have hl:=Zqn l1 l2 hN hM hr' hs';have hg:∀ r∈(List.range (max (Zz (Zf rs) rs.length) (Zz (Zf ss) ss.length))).map (K6 rs ss (Zz (Zf rs) rs.length) (Zz (Zf ss) ss.length)),Q5 1048576 r:=Fr fun i _=>(Zdf hr hs _ _ i).mono (by omega);have ht:=W3 hg (by simp;omega);have e:Ze (Zf ((List.range (max (Zz (Zf rs) rs.length) (Zz (Zf ss) ss.length))).map (K6 rs ss (Zz (Zf rs) rs.length) (Zz (Zf ss) ss.length))))=F8 (Zf rs) (Zf ss):=by
  rw[<- Ej];apply Vd;intro j;rw[Xm,Wr];split
  ·exact Zga rs ss j
  ·rename_i h;rw[Hn (Zf rs) (j:=j) (by rw[Zn];omega),Hn (Zf ss) (j:=j) (by rw[Zn];omega)];rfl
 rw[e] at ht;have e1:i64.wrap ((((Zz (Zf rs) rs.length:Nat):Int)-1)+1)=((Zz (Zf rs) rs.length:Nat):Int):=by rw[w64 (by omega) (by omega)];omega
 have e2:i64.wrap ((((Zz (Zf ss) ss.length:Nat):Int)-1)+1)=((Zz (Zf ss) ss.length:Nat):Int):=by rw[w64 (by omega) (by omega)];omega
 have e3:(if ((Zz (Zf ss) ss.length:Nat):Int)>((Zz (Zf rs) rs.length:Nat):Int) then ((Zz (Zf ss) ss.length:Nat):Int) else ((Zz (Zf rs) rs.length:Nat):Int))=((max (Zz (Zf rs) rs.length) (Zz (Zf ss) ss.length):Nat):Int):=by split <;> omega
 rw[List.length_map,List.length_range] at ht;exact Zxz rs ss _ _ _ _ _ (max (Zz (Zf rs) rs.length) (Zz (Zf ss) ss.length)) d1 d2 (by rw[e1,e2,e3];omega) (by rw[e1,e2,e3,Int.toNat_natCast,A7];exact hl) ht
end Go.Proofs.YtopjpgejefileaaGreat
