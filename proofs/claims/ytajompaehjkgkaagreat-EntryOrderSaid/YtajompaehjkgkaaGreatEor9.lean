/- Texts of the proof of EntryOrder: part 9 of 14. -/
import Derived.KernelRfl
import Derived.Test.YtajompaehjkgkaaGreatEor8
namespace Go.Ai
open Classical renaming byContradiction->A1
open Int renaming add_mul->Gw,add_zero->BJ,le_of_lt->Aw,le_of_mul_le_mul_left->F5,le_refl->Dg,le_trans->FJ,mul_add->CT,mul_assoc->AK,mul_comm->AE,mul_le_mul->EO,mul_le_mul_of_nonneg_left->Al,mul_le_mul_of_nonneg_right->Ac,mul_neg_of_neg_of_pos->HH,mul_neg_of_pos_of_neg->Hp,mul_nonneg->AA,mul_one->Dh,mul_pos->Bp,mul_sub->Fy,mul_zero->AG,natAbs_mul->BS,natCast_add->LN,natCast_nonneg->I8,ofNat_le->ACi,one_mul->Dt,pow_succ->A7,pow_zero->Dj
open List renaming length_cons->B0,length_map->Q,length_pos_iff->Ak,map_cons->Cx,mem_cons->BD
open Nat renaming add_sub_cancel->Ie,le_refl->Ao,mul_le_mul->BG,mul_le_mul_right->AJ,zero_le->AN
open Rat renaming div_def->A3m,intCast_add->LQ,intCast_le_intCast->BN,intCast_mul->Dc,intCast_natCast->DU,intCast_neg->Any,intCast_sub->rV,inv_pos->A3o,le_of_lt->Ic,mul_le_mul_of_nonneg_right->KD,mul_lt_mul_of_pos_right->Mj,mul_nonneg->FH,mul_pos->I7,natCast_add->TL,natCast_le_natCast->qL,natCast_mul->HE,one_mul->A3n,pow_succ->ADs
theorem zC(x d:Int)(hd:0<d):∀ p:LI,pq p ((x:Rat) / (d:Rat))*(d:Rat)^p.length=((hv p x d:Int):Rat)*(d:Rat)
 | []=>by simp[pq,hv]
 | t::ts=>by
  have ih:=zC x d hd ts;have h0:(d:Rat) ≠ 0:=by
   intro h;have:=Rat.intCast_inj.1 (show (d:Rat)=((0:Int):Rat) by simpa using h);omega
  simp only[pq,hv,B0];rw[LQ,Dc,Dc,Rat.intCast_pow,ADs];have e:(x:Rat) / (d:Rat)*(d:Rat)=(x:Rat):=by grind
  generalize pq ts ((x:Rat) / (d:Rat))=y at *
  generalize (d:Rat)^ts.length=z at *
  generalize ((hv ts x d:Int):Rat)=w at *
  generalize (x:Rat) / (d:Rat)=r at *
  grind
theorem ADt(p:LI)(x q:Int):hv p x q=Hh p x q:=by unfold Hh;rw [iQ]
theorem UC{d:Rat}(h:0<d):∀ n:Nat,0<d^n
 | 0=>by simp;decide
 | n+1=>by rw[ADs];exact I7 (UC h n) h
theorem ME{d:Int}(h:0<d):0<(d:Rat):=by
 have:=Rat.intCast_lt_intCast.2 h;simpa using this
theorem VN{u v h:Rat}(hu:u*v<=0)(hd:Bd (v-u) h):Bd u h:=by
 have h0:=hd.pos;unfold Bd at *
 apply A1;intro hn;have:h<u\/u < -h:=by grind
 rcases this with g | g
 ·have hu0:0<u:=by grind
  have hv0:0<v:=by grind
  have:=I7 hu0 hv0;grind
 ·have hu0:0 < -u:=by grind
  have hv0:0 < -v:=by grind
  have:=I7 hu0 hv0;grind
theorem P5{f:LI}{z d:Int}(hd:0<d)(h:Hh f z d*Hh f (z+1) d<=0):pq f ((z:Rat) / (d:Rat))*pq f (((z+1:Int):Rat) / (d:Rat))<=0:=by
 have e1:=zC z d hd f;have e2:=zC (z+1) d hd f;rw[ADt] at e1 e2;have hd0:=ME hd;have hp:=UC hd0 f.length;have hR:((Hh f z d:Int):Rat)*((Hh f (z+1) d:Int):Rat)<=0:=by
  have:=BN.2 h;rw[Dc] at this;simpa using this
 generalize pq f ((z:Rat) / (d:Rat))=u at *
 generalize pq f (((z+1:Int):Rat) / (d:Rat))=v at *
 generalize (d:Rat)^f.length=P at *
 generalize ((Hh f z d:Int):Rat)=a at *
 generalize ((Hh f (z+1) d:Int):Rat)=b at *
 generalize (d:Rat)=D at *
 apply A1;intro hn;have huv:0<u*v:=by grind
 have h1:=I7 huv (I7 hp hp);have e3:u*v*(P*P)=a*b*(D*D):=by
  have:u*v*(P*P)=(u*P)*(v*P):=by grind
  rw[this,e1,e2];grind
 have h2:=FH (show 0 <= -(a*b) by grind) (Ic (I7 hd0 hd0));grind
theorem ADu(p:LI)(hp:Y p ≠ [])(hl:2<=(S p).length){x y q:Int}(hq:0<q):∃ c0:Int,0<c0/\∀ c:Int,c0<=c->∀ z:Int,c*x<=z->z<c*y->PS (S p) (prim (At (S p))) (fun z=>wv 0 (DV (CJ p) z (c*q))) (c*q) z:=by
 obtain⟨lf,hl1,hG,hc⟩:=KW hp hl;have h0:S p ≠ []:=by intro h;rw[h] at hl;simp at hl
 obtain⟨Q0,hQ0,hm⟩:=cell ((x.natAbs:Int)+(y.natAbs:Int)) (by omega) lf hl hl1 hG hc (S p).length (by omega);refine⟨Q0,hQ0,fun c hcc z h1 h2 => ?_⟩;have hc0:0<c:=by omega
 have hQq:Q0<=c*q:=by
  have:=Al (show (1:Int)<=q by omega) (show 0<=c by omega);omega
 have hb:∀ z:Int,(z.natAbs:Int)<=(x.natAbs:Int)+(y.natAbs:Int)->((c*z).natAbs:Int)<=((x.natAbs:Int)+(y.natAbs:Int))*(c*q):=by
  intro z hz;have hcq:c<=c*q:=by
   have:=Al (show (1:Int)<=q by omega) (show 0<=c by omega);omega
  have h2:=Ds (a:=c) (A:=c*q) (by omega) hz;have e:c*q*((x.natAbs:Int)+(y.natAbs:Int))=((x.natAbs:Int)+(y.natAbs:Int))*(c*q):=AE ..;omega
 have bx:=hb x (by omega);have by':=hb y (by omega);have e:CJ p=S p::Ik (S p).length (S p) (prim (At (S p))):=by unfold CJ;rw[if_neg h0]
 rw[e];exact hm (c*q) z ⟨Bp hc0 hq,by omega,by omega⟩ hQq
theorem TA{f g:LI}{W:Int->Int}{q u:Int}(n:Nat)(hc:∀ j:Nat,j<n->PS f g W q (u+(j:Int)))(h:W (u+(n:Int))<W u):∃ j:Nat,j<n/\W (u+(j:Int)+1)<W (u+(j:Int))/\W (u+(j:Int))=W u:=by
 rcases Jc (fun j=>decide (W (u+(j:Int)+1)<W (u+(j:Int)))) n n 0 (by omega) with g1 | ⟨j,_,h2,h3,h4⟩
 ·exfalso;have key:∀ m:Nat,m<=n->W (u+(m:Int))=W u:=by
   intro m;induction m with
   | zero=>intro _;simp
   | succ m ih =>
    intro hm;have i1:=ih (by omega);have i2:=of_decide_eq_false (g1 m (by omega) (by omega));have i3:=(hc m (by omega)).mono;have e:u+((m+1:Nat):Int)=u+(m:Int)+1:=by omega
    rw[e];omega
  have:=key n (Ao _);omega
 ·refine⟨j,h2,of_decide_eq_true h3,?_⟩;have key:∀ m:Nat,m<=j->W (u+(m:Int))=W u:=by
   intro m;induction m with
   | zero=>intro _;simp
   | succ m ih =>
    intro hm;have i1:=ih (by omega);have i2:=of_decide_eq_false (h4 m (by omega) (by omega));have i3:=(hc m (by omega)).mono;have e:u+((m+1:Nat):Int)=u+(m:Int)+1:=by omega
    rw[e];omega
  exact key j (Ao _)
theorem PS.drop{f g:LI}{W:Int->Int}{q x:Int}(h:PS f g W q x)(hd:W (x+1)<W x) :
  W x=W (x+1)+1/\(Ce (Hh g x q)=1\/Ce (Hh g x q) = -1)/\Ce (Hh g (x+1) q)=Ce (Hh g x q)/\Ce (Hh f x q) = -Ce (Hh g x q)/\(Hh f (x+1) q=0\/Ce (Hh f (x+1) q)=Ce (Hh g x q)):=by
 rcases h with ⟨_,_,h⟩ | ⟨h1,h2,⟨_,_,h⟩ | ⟨h3,h4,h5⟩⟩
 ·omega
 ·omega
 ·exact⟨h5,h1,h2,h3,h4⟩
theorem PS.change{f g:LI}{W:Int->Int}{q x:Int}(h:PS f g W q x)(hd:W (x+1)<W x):Hh f x q*Hh f (x+1) q<=0:=by
 obtain⟨_,h1,_,h3,h4⟩:=h.drop hd;rcases h4 with h4 | h4
 ·rw[h4];simp
 ·rcases h1 with e | e
  ·rw[e] at h3 h4;have a:=Gk.1 h3;have b:=GH.1 h4;have:=HH a b;omega
  ·rw[e] at h3 h4;have a:=GH.1 (show Ce (Hh f x q)=1 by omega);have b:=Gk.1 h4;have:=Hp a b;omega
theorem zF(p:LI)(hp:Y p ≠ [])(hl:2<=(S p).length){x y q:Int}(hq:0<q)(hxy:x<=y)(hV:2<=wv 0 (DV (CJ p) x q)-wv 0 (DV (CJ p) y q)) :
  ∃ c:Int,0<c/\∀ k:Int,0<k->∃ z w:Int,k*c*x<=z/\z+1<=k*c*y/\k*c*x<=w/\w+1<=k*c*y/\z+k<=w /\
   Hh (S p) z (k*c*q)*Hh (S p) (z+1) (k*c*q)<=0/\Hh (S p) w (k*c*q)*Hh (S p) (w+1) (k*c*q)<=0:=by
 obtain⟨c,hc,hg⟩:=ADu p hp hl (x:=x) (y:=y) hq;have sc:∀ c:Int,0<c->∀ z Q,wv 0 (DV (CJ p) (c*z) (c*Q))=wv 0 (DV (CJ p) z Q):=fun c hc z Q=>by rw[I' _ _ _ _ hc]
 have g1:=hg c (Dg _);have hcx:=Al hxy (Aw hc);have V1:=sc c hc x q;have V2:=sc c hc y q;obtain⟨j1,hj1,d1,e1⟩:=TA (W:=fun z=>wv 0 (DV (CJ p) z (c*q))) (u:=c*x) (c*y-c*x).toNat (fun j hj=>g1 (c*x+(j:Int)) (by omega) (by omega)) (by
  show wv 0 (DV (CJ p) (c*x+((c*y-c*x).toNat:Int)) (c*q))<wv 0 (DV (CJ p) (c*x) (c*q));rw[show c*x+((c*y-c*x).toNat:Int)=c*y by omega];omega)
 obtain⟨D1,_,D3,_,D5⟩:=(g1 (c*x+(j1:Int)) (by omega) (by omega)).drop d1;generalize hz1:c*x+(j1:Int)=z1 at *
 obtain⟨j2,hj2,d2,e2⟩:=TA (W:=fun z=>wv 0 (DV (CJ p) z (c*q))) (u:=z1+1) (c*y-(z1+1)).toNat (fun j hj=>g1 (z1+1+(j:Int)) (by omega) (by omega)) (by
  show wv 0 (DV (CJ p) (z1+1+((c*y-(z1+1)).toNat:Int)) (c*q))<wv 0 (DV (CJ p) (z1+1) (c*q));rw[show z1+1+((c*y-(z1+1)).toNat:Int)=c*y by omega];omega)
 obtain⟨_,E2,_,E4,_⟩:=(g1 (z1+1+(j2:Int)) (by omega) (by omega)).drop d2;have hj20:0<j2:=by
  apply A1;intro hn;have:j2=0:=by omega
  subst this;simp only[Int.natCast_zero,BJ] at E2 E4 hz1;have:((0:Nat):Int)=0:=rfl;rcases D5 with k | k
  ·rw[show z1+1+((0:Nat):Int)=z1+1 by omega] at *
   rw[k] at E4;have:Ce 0=0:=rfl;omega
  ·rw[show z1+1+((0:Nat):Int)=z1+1 by omega] at *
   omega
 generalize hz2:z1+1+(j2:Int)=z2 at *
 refine⟨c,hc,fun k hk => ?_⟩;have hkc:=Bp hk hc;have gk:=hg (k*c) (by
  have:=Ac (show (1:Int)<=k by omega) (Aw hc);omega)
 have scz:∀ z,wv 0 (DV (CJ p) (k*z) (k*c*q))=wv 0 (DV (CJ p) z (c*q)):=fun z=>by rw[AK];exact sc k hk z (c*q)
 have one:∀ z0,c*x<=z0->z0+1<=c*y->wv 0 (DV (CJ p) (z0+1) (c*q))<wv 0 (DV (CJ p) z0 (c*q))->∃ z,k*z0<=z/\z+1<=k*z0+k/\Hh (S p) z (k*c*q)*Hh (S p) (z+1) (k*c*q)<=0:=by
  intro z0 h1 h2 h3;have b1:=Al h1 (Aw hk);have b2:=Al h2 (Aw hk);rw[<- AK] at b1 b2;rw[CT,Dh] at b2;have hcell:∀ j:Nat,j<k.toNat->PS (S p) (prim (At (S p))) (fun z=>wv 0 (DV (CJ p) z (k*c*q))) (k*c*q) (k*z0+(j:Int)):=fun j hj=>gk _ (by omega) (by omega);obtain⟨j,hj,d,_⟩:=TA (W:=fun z=>wv 0 (DV (CJ p) z (k*c*q))) (u:=k*z0) k.toNat hcell (by
   show wv 0 (DV (CJ p) (k*z0+(k.toNat:Int)) (k*c*q))<wv 0 (DV (CJ p) (k*z0) (k*c*q));rw[show k*z0+(k.toNat:Int)=k*(z0+1) by rw[CT,Dh];omega,scz,scz];exact h3)
  exact⟨k*z0+(j:Int),by omega,by omega,(hcell j hj).change d⟩
 obtain⟨z,a1,a2,a3⟩:=one z1 (by omega) (by omega) d1;obtain⟨w,b1,b2,b3⟩:=one z2 (by omega) (by omega) d2;have c1:=Al (show c*x<=z1 by omega) (Aw hk);have c2:=Al (show z2+1<=c*y by omega) (Aw hk);have c3:=Al (show z1+2<=z2 by omega) (Aw hk);rw[<- AK] at c1 c2;rw[CT] at c2 c3;exact⟨z,w,by omega,by omega,by omega,by omega,by omega,a3,b3⟩
theorem zG:∀ l:LI,∃ A:Nat,∀ c∈l,c.natAbs<=A
 | []=>⟨0,fun c hc=>by cases hc⟩
 | a::l=>by
  obtain⟨A,h⟩:=zG l;refine⟨A+a.natAbs,fun c hc => ?_⟩;rcases BD.1 hc with rfl | hc
  ·omega
  ·have:=h c hc;omega
theorem A1b{X:Nat}(hX:1<=X):∀ {m n:Nat},m<=n->zV X m<=zV X n/\zD X m<=zD X n:=by
 intro m n h;induction h with
 | refl=>exact⟨Ao _,Ao _⟩
 | step _ ih =>
  rename_i n _;have h1:=AJ (zV X n) hX;have h2:=AJ (zD X n) hX;simp only[zV,zD];omega
theorem K_{z D:Int}{X:Nat}(hD:0<D)(h1 : -(X*D)<=z)(h2:z<=X*D):Bd ((z:Rat) / (D:Rat)) X:=by
 have hD0:=ME hD;have g1:=BN.2 h1;have g2:=BN.2 h2;rw[Any,Dc,DU] at g1;rw[Dc,DU] at g2;have e:(z:Rat) / (D:Rat)*(D:Rat)=(z:Rat):=by grind
 generalize (z:Rat) / (D:Rat)=r at *
 rw[<- e] at g1 g2;generalize (D:Rat)=d at *
 unfold Bd;constructor
 ·apply A1;intro hn;have:=Mj (show r < -(X:Rat) by grind) hD0;grind
 ·apply A1;intro hn;have:=Mj (show (X:Rat)<r by grind) hD0;grind
def Mz(n A X:Nat):Nat:=(2*zB n A*zD X n)*(A*zT X (n+1))+(2*zB n A*zV X n)*(A*zS X (n+1))
theorem zH{p:LI}(hp:Y p ≠ []){n A X:Nat}(hn:(S p).length=n+1)(h2:2<=n)(hA:∀ i,((S p).getD i 0).natAbs<=A)(hA0:0<A)(hX:1<=X)
  {x y q:Int} (hq:0<q) (hxy:x<=y) (hx : -(X*q)<=x) (hy:y<=X*q) (hV:2<=wv 0 (DV (CJ p) x q)-wv 0 (DV (CJ p) y q)):q*q<=(y-x)*(y-x)*(Mz n A X:Nat):=by
 have hl:2<=(S p).length:=by omega
 obtain⟨_,hl1,hG,_⟩:=KW hp hl;obtain⟨c,hc,hk⟩:=zF p hp hl hq hxy hV;generalize S p=f at *
 have hlead:Y (At f)=At f:=by unfold At;rw[Fs]
 have hpl:(At f).length=n:=by rw[Cg,hlead] at hl1;omega
 obtain⟨m,hm,hme⟩:=IY (At f);have hG2:F4 [1] f (At f):=F4.scaled (m:=1) (n:=1) (k:=1) (l:=m) (by decide) (by decide) (by decide) hm (fun _=>rfl) (fun x=>by rw[hme x];omega) hG;obtain⟨U,W,R,hR,hid,hWl,hW⟩:=A6y hn h2 hpl hG2 hA hA0;obtain⟨Au,hAu⟩:=zG U;have hAf:∀ c∈f,c.natAbs<=A:=fun c hc=>by
  obtain⟨i,rfl⟩:=R' hc;exact hA i
 have mono:=A1b hX hWl;generalize hS:2*zB n A=B at *
 generalize hE:A*zD X f.length=E0;generalize hC:4*X*(Au*zV X U.length)+4*(B*zV X W.length)=C0;obtain⟨z,w,z1,z2,w1,w2,hzw,fz,fw⟩:=hk ((E0*C0+1:Nat):Int) (by omega);generalize hkk:((E0*C0+1:Nat):Int)=k at *
 have hk0:0<k:=by omega
 have hkc:=Bp hk0 hc;have hD:0<k*c*q:=Bp hkc hq;have sx:=Al hx (Aw hkc);have sy:=Al hy (Aw hkc);have ex:k*c * -(X*q) = -(X*(k*c*q)):=by grind
 have ey:k*c*(X*q)=X*(k*c*q):=by grind
 rw[ex] at sx;rw[ey] at sy;have hsub:(w-z)<=k*c*(y-x):=by rw[Fy];omega
 have eD:k*c*q=k*(c*q):=AK ..;generalize hDD:k*c*q=D at *
 have ba:=K_ (X:=X) hD (z:=z) (by omega) (by omega);have bb:=K_ (X:=X) hD (z:=w) (by omega) (by omega);have ba1:=K_ (X:=X) hD (z:=z+1) (by omega) (by omega);have bb1:=K_ (X:=X) hD (z:=w+1) (by omega) (by omega);have ca:=P5 hD fz;have cb:=P5 hD fw;have hD0:=ME hD;have d1:=MD ((z:Rat) / (D:Rat)) (((z+1:Int):Rat) / (D:Rat)) f;have d2:=MD ((w:Rat) / (D:Rat)) (((w+1:Int):Rat) / (D:Rat)) f;have b1:=T8 ba ba1 f hAf;have b2:=T8 bb bb1 f hAf;have bUa:=P4 ba U hAu;have bUb:=P4 bb U hAu;have eN:(A:Rat)*(zD X f.length:Nat)=(E0:Nat):=by rw[<- hE];simp
 rw[eN] at b1 b2;have step:∀ s:Int,((s+1:Int):Rat) / (D:Rat)-(s:Rat) / (D:Rat)=1 / (D:Rat):=by
  intro s;rw[LQ];simp;grind
 have bone:Bd (1 / (D:Rat)) (1 / (D:Rat)):=by
  have:0<1 / (D:Rat):=by
   rw[A3m,A3n];exact A3o.2 hD0
  unfold Bd;constructor <;> grind
 have hfa:Bd (pq f ((z:Rat) / (D:Rat))) (1 / (D:Rat)*(E0:Nat)):=VN ca (by
  have e:pq f (((z+1:Int):Rat) / (D:Rat))-pq f ((z:Rat) / (D:Rat))=1 / (D:Rat)*dD f ((z:Rat) / (D:Rat)) (((z+1:Int):Rat) / (D:Rat)):=by rw[d1,step];grind
  rw[e];exact bone.mul b1)
 have hfb:Bd (pq f ((w:Rat) / (D:Rat))) (1 / (D:Rat)*(E0:Nat)):=VN cb (by
  have e:pq f (((w+1:Int):Rat) / (D:Rat))-pq f ((w:Rat) / (D:Rat))=1 / (D:Rat)*dD f ((w:Rat) / (D:Rat)) (((w+1:Int):Rat) / (D:Rat)):=by rw[d2,step];grind
  rw[e];exact bone.mul b2)
 have hzw':=BN.2 hzw;rw[LQ] at hzw';have hkR:(k:Rat)=(E0:Nat)*(C0:Nat)+1:=by rw[<- hkk,DU,TL,HE];simp
 have hk1:(0:Rat)<(k:Rat):=ME hk0;have eC:(C0:Rat)=4*(X:Nat)*((Au:Nat)*(zV X U.length:Nat))+4*((B:Nat)*(zV X W.length:Nat)):=by rw[<- hC];simp
 have ea:(z:Rat) / (D:Rat)*(D:Rat)=(z:Rat):=by grind
 have eb:(w:Rat) / (D:Rat)*(D:Rat)=(w:Rat):=by grind
 have eo:1 / (D:Rat)*(D:Rat)=1:=by grind
 have ho:0<1 / (D:Rat):=by
  rw[A3m,A3n];exact A3o.2 hD0
 have key:1<=((w:Rat) / (D:Rat)-(z:Rat) / (D:Rat))*((w:Rat) / (D:Rat)-(z:Rat) / (D:Rat))*(((B:Nat)*(zD X W.length:Nat))*((A:Nat)*(zT X f.length:Nat))+((B:Nat)*(zV X W.length:Nat))*((A:Nat)*(zS X f.length:Nat))):=by
  refine far hR hid hAf hW ba bb ?_ hfa hfb bUa bUb ?_
  ·have h1:=Mj (show (z:Rat)<(w:Rat) by grind) ho;have e1:(z:Rat)*(1 / (D:Rat))=(z:Rat) / (D:Rat):=by grind
   have e2:(w:Rat)*(1 / (D:Rat))=(w:Rat) / (D:Rat):=by grind
   rw[e1,e2] at h1;exact h1
  ·-- the error
   have hkb:(k:Rat)*(1 / (D:Rat))<=(w:Rat) / (D:Rat)-(z:Rat) / (D:Rat):=by
    have h1:=KD (show (k:Rat)<=(w:Rat)-(z:Rat) by grind) (Ic ho);grind
   have hle2:(w:Rat) / (D:Rat)-(z:Rat) / (D:Rat)<=2*(X:Nat):=by
    unfold Bd at ba bb;grind
   generalize (w:Rat) / (D:Rat)-(z:Rat) / (D:Rat)=t at *
   generalize 1 / (D:Rat)=o at *
   have hE0:(0:Rat)<=(E0:Nat):=by
    have h:=(qL (a:=0) (b:=E0)).2 (AN _);simpa using h
   have hu0:=bUa.pos;have hv0:(0:Rat)<=(B:Nat)*(zV X W.length:Nat):=by
    have:=AN (B*zV X W.length);have h:=(qL (a:=0) (b:=B*zV X W.length)).2 this;simpa using h
   generalize (Au:Rat)*(zV X U.length:Nat)=u at *
   generalize (B:Rat)*(zV X W.length:Nat)=v at *
   have hoE:=FH (Ic ho) hE0;have h1:=KD hle2 (FH hu0 hoE);rw[hkR,eC] at hkb;generalize (E0:Rat)=e0 at *
   generalize (X:Rat)=xx at *
   grind
 have hDR:(D:Rat)*(D:Rat)<=((w:Rat)-(z:Rat))*((w:Rat)-(z:Rat))*(((B:Nat)*(zD X W.length:Nat))*((A:Nat)*(zT X f.length:Nat))+((B:Nat)*(zV X W.length:Nat))*((A:Nat)*(zS X f.length:Nat))):=by
  have h1:=KD key (Ic (I7 hD0 hD0));have e:(w:Rat)-(z:Rat)=((w:Rat) / (D:Rat)-(z:Rat) / (D:Rat))*(D:Rat):=by grind
  rw[e];grind
 have hInt:D*D<=(w-z)*(w-z)*(((B*zD X W.length)*(A*zT X f.length)+(B*zV X W.length)*(A*zS X f.length):Nat):Int):=by
  apply BN.1;rw[Dc,Dc,Dc,rV,DU];simp only[TL,HE];exact hDR
 have hM:(B*zD X W.length)*(A*zT X f.length)+(B*zV X W.length)*(A*zS X f.length)<=Mz n A X:=by
  unfold Mz;rw[hS,hn];exact Nat.add_le_add (BG (BG (Ao _) mono.2) (Ao _)) (BG (BG (Ao _) mono.1) (Ao _))
 have hwz:0<=w-z:=by omega
 have s1:=EO hsub hsub hwz (FJ hwz hsub);have s2:=Ac s1 (I8 (Mz n A X));have s3:=Al (ACi.2 hM) (AA hwz hwz);apply F5 (a:=k*c*(k*c)) _ (Bp hkc hkc);have e1:k*c*(k*c)*(q*q)=D*D:=by rw[<- hDD];grind
 have e2:k*c*(k*c)*((y-x)*(y-x)*(Mz n A X:Nat))=k*c*(y-x)*(k*c*(y-x))*(Mz n A X:Nat):=by grind
 rw[e1,e2];omega
theorem VO{u a b P Q:Int}{v:Int}(hu:u ≠ 0)(hv:v.natAbs<=u.natAbs)(h:u*a=b-v*P)(hb:(b.natAbs:Int)<=Q):(a.natAbs:Int)<=Q+(P.natAbs:Int):=by
 have h1:(u.natAbs:Int)*(a.natAbs:Int)<=(b.natAbs:Int)+(v.natAbs:Int)*(P.natAbs:Int):=by
  have e1:(u.natAbs:Int)*(a.natAbs:Int)=((u*a).natAbs:Int):=by rw[BS];rfl
  have e2:(v.natAbs:Int)*(P.natAbs:Int)=((v*P).natAbs:Int):=by rw[BS];rfl
  rw[e1,e2,h];omega
 have hu1:(1:Int)<=(u.natAbs:Int):=by omega
 have h2:(v.natAbs:Int)*(P.natAbs:Int)<=(u.natAbs:Int)*(P.natAbs:Int):=Ac (by omega) (by omega);have h3:(b.natAbs:Int)<=(u.natAbs:Int)*(b.natAbs:Int):=by
  have:=Ac hu1 (show (0:Int)<=(b.natAbs:Int) by omega);omega
 have h4:(u.natAbs:Int)*(a.natAbs:Int)<=(u.natAbs:Int)*((b.natAbs:Int)+(P.natAbs:Int)):=by rw[CT];omega
 have:=F5 h4 (by omega);omega
theorem zI{t f:LI}{v u:Int}{P N:Nat}(hu:u ≠ 0)(hN:f.length<=N)(hP:∀ i,(t.getD i 0).natAbs<=P)(h:∀ x,Aa t x=Aa f x*Aa [v,u] x):∀ i,(f.getD i 0).natAbs<=(N+1)*P:=by
 have hc:=Dq (p:=t) (q:=Ec (As v f) (As u (Dz 1 f))) (fun x=>by
  rw[h x,BY,A0,A0,D9,A7,Dj];simp only[Aa];grind)
 have hi:∀ i,t.getD i 0=v*f.getD i 0+u*(if 1<=i then f.getD (i-1) 0 else 0):=by
  intro i;rw[hc i,DS,m,m,Cw]
 by_cases hvu:v.natAbs<=u.natAbs
 ·-- from the top
  have key:∀ j i:Nat,i+j=N->((f.getD i 0).natAbs:Int)<=(j:Int)*P:=by
   intro j;induction j with
   | zero=>intro i e;rw[B3 (by omega)];simp
   | succ j ih =>
    intro i e;have h1:=ih (i+1) (by omega);have h2:=hi (i+1);rw[if_pos (by omega),Ie] at h2;have h3:=VO (a:=f.getD i 0) (b:=t.getD (i+1) 0) (P:=f.getD (i+1) 0) (Q:=P) hu hvu (by omega) (by have:=hP (i+1);omega);have:((j+1:Nat):Int)*(P:Int)=(j:Int)*P+P:=by rw[LN];grind
    omega
  intro i;by_cases hiN:i<=N
  ·have:=key (N-i) i (by omega);have h2:((N-i:Nat):Int)*(P:Int)<=((N+1:Nat):Int)*(P:Int):=Ac (by omega) (by omega);have h3:(((N+1)*P:Nat):Int)=((N+1:Nat):Int)*(P:Int):=by simp
   omega
  ·rw[B3 (by omega)];simp
 ·have hv:v ≠ 0:=by omega
  have key:∀ i:Nat,((f.getD i 0).natAbs:Int)<=((i+1:Nat):Int)*P:=by
   intro i;induction i with
   | zero =>
    have h2:=hi 0;rw[if_neg (by omega),AG] at h2;have h3:=VO (u:=v) (v:=0) (a:=f.getD 0 0) (b:=t.getD 0 0) (P:=0) (Q:=P) hv (by simp) (by omega) (by have:=hP 0;omega);simp at h3 |-;omega
   | succ i ih =>
    have h2:=hi (i+1);rw[if_pos (by omega),Ie] at h2;have h3:=VO (u:=v) (v:=u) (a:=f.getD (i+1) 0) (b:=t.getD (i+1) 0) (P:=f.getD i 0) (Q:=P) hv (by omega) (by omega) (by have:=hP (i+1);omega);have:((i+1+1:Nat):Int)*(P:Int)=((i+1:Nat):Int)*P+P:=by
     rw[show ((i+1+1:Nat):Int)=((i+1:Nat):Int)+1 by omega,Gw,Dt]
    omega
  intro i;by_cases hiN:i<N
  ·have:=key i;have h2:((i+1:Nat):Int)*(P:Int)<=((N+1:Nat):Int)*(P:Int):=Ac (by omega) (by omega);have h3:(((N+1)*P:Nat):Int)=((N+1:Nat):Int)*(P:Int):=by simp
   omega
  ·rw[B3 (by omega)];simp
def sizA(n P:Nat):Nat:=if 7<=n then 10*P else P*8^9*17^6
theorem zJ(p:LI)(hp:Y p ≠ [])(hl:2<=(S p).length){x y q:Int}(hq:0<q)(hxy:x<y)(hz:Hh (S p) y q=0):wv 0 (DV (CJ p) y q)+1<=wv 0 (DV (CJ p) x q):=by
 obtain⟨c,hc,hg⟩:=A0s p hp hl (x:=x) (y:=y) hq;have sc:∀ z,wv 0 (DV (CJ p) (c*z) (c*q))=wv 0 (DV (CJ p) z q):=fun z=>by rw[I' _ _ _ _ hc]
 have hs:Ce (Hh (S p) (c*y) (c*q))=Ce (Hh (S p) y q):=Mh _ _ _ _ hc;have d1:c*x+c<=c*y:=by
  have:=Al (show x+1<=y by omega) (show 0<=c by omega);rw[CT,Dh] at this;exact this
 have hz':Hh (S p) (c*y) (c*q)=0:=by rw[<- CZ,hs,CZ];exact hz
 have hcell:=hg (c*y-1) (by omega) (by omega);have h2:=hcell.root (by rw[show c*y-1+1=c*y by omega];exact hz');simp only[show c*y-1+1=c*y by omega] at h2;have h3:=Ro (u:=c*x) (c*y-1-c*x).toNat (fun j hj=>hg (c*x+(j:Int)) (by omega) (by omega));simp only[show c*x+((c*y-1-c*x).toNat:Int)=c*y-1 by omega] at h3;rw[sc] at h2 h3;omega
theorem Xv:∀ (l:LI) (last:Int),wv last l<=(l.length:Int)
 | [],_=>by simp[wv]
 | s::ss,last=>by
  simp only[wv,B0];have h1:=Xv ss last;have h2:=Xv ss s;split
  ·omega
  ·split <;> omega
theorem Zw(s:Int)(ss:LI):wv 0 (s::ss)<=(ss.length:Int):=by
 simp only[wv];have h1:=Xv ss 0;have h2:=Xv ss s;split
 ·omega
 ·rw[if_neg (fun h=>h.1 rfl)];omega
theorem MF:∀ (l:LI) (last:Int),0<=wv last l
 | [],_=>by simp[wv]
 | s::ss,last=>by
  simp only[wv];have h1:=MF ss last;have h2:=MF ss s;split
  ·exact h1
  ·split <;> omega
theorem Akr{p:LI}(h:(S p).length<=2)(x q:Int):wv 0 (DV (CJ p) x q)<=1:=by
 unfold CJ;split
 ·simp[DV,wv]
 ·rename_i h0;have hpos:=Ak.2 h0;have hb:(prim (At (S p))).length<=1:=by
   rw[Cg];have:=BA (At (S p));have:=V6 (S p);omega
  have hc:(Ik (S p).length (S p) (prim (At (S p)))).length<=1:=by
   generalize prim (At (S p))=g at *
   obtain⟨n,hn⟩:∃ n,(S p).length=n+1:=⟨(S p).length-1,by omega⟩;rw[hn];simp only[Ik];split
   ·simp
   ·rename_i hg;have hgp:=Ak.2 hg;have hn1:n<=1:=by omega
    have:(Ik n g (Cp (BC (S p) g))).length=0:=by
     match n,hn1 with
     | 0,_=>rfl
     | 1,_ =>
      simp only[Ik];split
      ·rfl
      ·rename_i hz;exfalso;apply hz;have e:BC (S p) g=[]:=by
        apply A1;intro he;have hle:(BC (S p) g).length<g.length:=by
         have:=(oK (x:=S p) (y:=g) ?_ hg).2
         ·exact this
         ·have h0':Y p ≠ []:=by
           intro h;apply h0;have hz:prim p=[]:=by rw[DY,<- Dn];exact h
           unfold S;rw[hz];rfl
          exact (Ci h0').1
        have:=Ak.2 he;omega
       rw[e];rfl
    simp only[B0];omega
  unfold DV;rw[Cx];have:=Zw (Ce (Hh (S p) x q)) ((Ik (S p).length (S p) (prim (At (S p)))).map fun p=>Ce (Hh p x q));(first|rw[Q] at this|(unfold sL at this;rw[Q] at this));omega
end Go.Ai
namespace Go.Proofs.YtajompaehjkgkaaGreat
open Go.Ai
set_option maxRecDepth 100000
open Classical renaming byContradiction->A1
open Int renaming le_of_lt->Aw,le_of_mul_le_mul_right->Cj,lt_of_mul_lt_mul_right->Dd,mul_le_mul_of_nonneg_right->Ac,mul_lt_mul_of_pos_right->Bc,mul_right_comm->r,not_le->FD
open Nat renaming add_comm->Gt,log2_lt->Sk,lt_of_le_of_lt->DF,pow_lt_pow_right->Tv
def sd(p:LI)(y:Iv)(m:Int)(c:Nat):Int:=Fv (S p) (L y.r) y.a (L y.t) y.b m c
theorem Zx{p:LI}(hp:Y p ≠ [])(hl:2<=(S p).length){x y:Int}{a b:Nat}(h:x*2^b<y*2^a)(hz:DG (S p) y b=0):Vd p y b+1<=Vd p x a:=by
 have e1:=Hz p x a b;have e2:=Hz p y b a;have g:=MC (S p) y b a;rw[Gt b a] at e2 g;rw[<- e1,<- e2,I3,I3];refine zJ p hp hl (Bt _) h ?_;rw[hz,P3] at g;exact CZ.1 g
theorem One.len{p:LI}{y:Iv}(h:One p y):2<=(S p).length:=by
 apply A1;intro g;have:=VJ (p:=p) (by omega) (L y.r) (L y.t) y.a y.b;have:=h.v;omega
theorem One.ne{p:LI}{y:Iv}(h:One p y):Y p ≠ []:=by
 intro g;have hz:prim p=[]:=by rw[DY,<- Dn];exact g
 have h0:S p=[]:=by unfold S;rw[hz];rfl
 have:=h.len;rw[h0] at this;simp at this
theorem R_(p:LI)(lo:Int)(a:Nat)(hi:Int)(b:Nat)(x:Int)(c:Nat) : -1<=Fv p lo a hi b x c/\Fv p lo a hi b x c<=1:=by unfold Fv; (repeat' split) <;> omega
theorem P6{p:LI}{y:Iv}{m:Int}{c:Nat}(h:m*2^y.a<=L y.r*2^c):sd p y m c=1:=by
 unfold sd Fv;rw[if_pos];have hb:=KU (m*2^y.a) (L y.r*2^c);have:BI m c (L y.r) y.a ≠ 1:=fun g=>by have:=KY.1 g;omega
 unfold BI at this |-;omega
theorem VP{p:LI}{y:Iv}{m:Int}{c:Nat}(hlt:L y.r*2^y.b<L y.t*2^y.a)(h:L y.t*2^c<m*2^y.b):sd p y m c = -1:=by
 have h1:L y.r*2^c<m*2^y.a:=by
  have hA:=Bt y.a;have hB:=Bt y.b;have hC:=Bt c;apply Dd (a:=2^y.b) _ (Aw hB);have e1:=Bc hlt hC;have e2:=Bc h hA;have e3:L y.r*2^c*2^y.b=L y.r*2^y.b*2^c:=r ..;have e4:L y.t*2^y.a*2^c=L y.t*2^c*2^y.a:=r ..;have e5:m*2^y.b*2^y.a=m*2^y.a*2^y.b:=r ..;omega
 unfold sd Fv;rw[if_neg (by rw[KY.2 h1];decide),if_pos (by rw[KY.2 h];decide)]
theorem NO{p:LI}{y:Iv}(h:One p y){m:Int}{c:Nat}(h1:L y.r*2^c<m*2^y.a)(h2:m*2^y.b<=L y.t*2^c) :
  (sd p y m c<=0↔Vd p m c=Vd p (L y.t) y.b)/\(sd p y m c=0↔DG (S p) m c=0):=by
 have d1:¬ BI m c (L y.r) y.a<=0:=by rw[KY.2 h1];decide
 have d2:¬ BI m c (L y.t) y.b>0:=by
  intro g;have hb:=KU (m*2^y.b) (L y.t*2^c);have:BI m c (L y.t) y.b=1:=by unfold BI at g |-;omega
  have:=KY.1 this;omega
 have e:sd p y m c=if DG (S p) m c=0 then 0 else if DG (S p) m c=DG (S p) (L y.t) y.b then -1 else 1:=by
  unfold sd Fv;rw[if_neg d1,if_neg d2]
 constructor
 ·by_cases hlt:m*2^y.b<L y.t*2^c
  ·exact (pZ h h1 hlt).1
  ·have heq:m*2^y.b=L y.t*2^c:=by omega
   rw[e,VB heq,pY heq];split
   ·simp
   ·simp
 ·rw[e];split
  ·rename_i g;simp[g]
  ·rename_i g;constructor
   ·intro hh;split at hh <;> omega
   ·intro hh;exact absurd hh g
theorem dY{p:LI}{y:Iv}(h:One p y){m:Int}{c:Nat}(hm:sd p y m c<=0){m':Int}{c':Nat}(hmm:m*2^c'<m'*2^c):sd p y m' c' = -1:=by
 have hC:=Bt c;have hC':=Bt c';have hA:=Bt y.a;have hB:=Bt y.b;by_cases g1:m'*2^y.b<=L y.t*2^c'
 ·have g2:L y.r*2^c<m*2^y.a:=by
   apply FD.1;intro g;rw[P6 g] at hm;exact absurd hm (by decide)
  have g3:L y.r*2^c'<m'*2^y.a:=by
   apply Dd (a:=2^c) _ (Aw hC);have e1:=Bc g2 hC';have e2:=Bc hmm hA;have e3:L y.r*2^c'*2^c=L y.r*2^c*2^c':=r ..;have e4:m*2^y.a*2^c'=m*2^c'*2^y.a:=r ..;have e5:m'*2^c*2^y.a=m'*2^y.a*2^c:=r ..;omega
  have g4:m*2^y.b<=L y.t*2^c:=by
   apply Cj (a:=2^c') _ hC';have e1:=Bc hmm hB;have e2:=Ac g1 (Aw hC);have e3:m*2^y.b*2^c'=m*2^c'*2^y.b:=r ..;have e4:m'*2^c*2^y.b=m'*2^y.b*2^c:=r ..;have e5:L y.t*2^c*2^c'=L y.t*2^c'*2^c:=r ..;omega
  have v1:=(NO h g2 g4).1.1 hm;have v2:Vd p m' c'<=Vd p m c:=Lz (Aw hmm);have v3:Vd p (L y.t) y.b<=Vd p m' c':=Lz g1;obtain⟨s1,s2⟩:=NO h g3 g1;have s3:=s1.2 (by omega);have s4:sd p y m' c' ≠ 0:=by
   intro z;have:=Zx h.ne h.len hmm (s2.1 z);omega
  have hb:=(R_ (S p) (L y.r) y.a (L y.t) y.b m' c').1;unfold sd at s3 s4 |-;omega
 ·exact VP h.lt (by omega)
theorem A6z{p:LI}{y:Iv}(h:One p y)(m:Int)(c:Nat):sd p (JJ (S p) y) m c=sd p y m c:=by
 obtain⟨b1,b2⟩:=Hj h.lt;have b1:L y.r*2^y.me<y.mn*2^y.a:=b1;have b2:y.mn*2^y.b<L y.t*2^y.me:=b2;have hne:BI (L y.r) y.a (L y.t) y.b ≠ 0:=by rw[EE.2 h.lt];decide
 have hh:=h.half;have hmid:=NO h b1 (Aw b2);have bd:=R_ (S p) (L y.r) y.a (L y.t) y.b m c;unfold JJ at hh |-;rw[if_neg hne] at hh |-;by_cases g:Fv (S p) (L y.r) y.a (L y.t) y.b y.mn y.me<=0
 ·rw[if_pos g] at hh |-;have gv:Vd p y.mn y.me=Vd p (L y.t) y.b:=hmid.1.1 g;have bd':=R_ (S p) (L y.r) y.a (L (cn y.mn)) y.me m c;by_cases c1:m*2^y.a<=L y.r*2^c
  ·have q1:sd p ⟨y.r,y.a,cn y.mn,y.me⟩ m c=1:=P6 c1;rw[q1,P6 c1]
  ·by_cases c2:m*2^y.me<=y.mn*2^c
   ·obtain⟨s1,s2⟩:=NO hh (m:=m) (c:=c) (by show L y.r*2^c<m*2^y.a;omega) (by show m*2^y.me<=L (cn y.mn)*2^c;rw[A6];exact c2);have c3:m*2^y.b<=L y.t*2^c:=by
     have hE:=Bt y.me;have hB:=Bt y.b;have hC:=Bt c;apply Cj (a:=2^y.me) _ hE;have e1:=Ac c2 (Aw hB);have e2:=Bc b2 hC;have e3:m*2^y.b*2^y.me=m*2^y.me*2^y.b:=r ..;have e4:y.mn*2^c*2^y.b=y.mn*2^y.b*2^c:=r ..;have e5:L y.t*2^c*2^y.me=L y.t*2^y.me*2^c:=r ..;omega
    obtain⟨t1,t2⟩:=NO h (m:=m) (c:=c) (by omega) c3;have s1:sd p ⟨y.r,y.a,cn y.mn,y.me⟩ m c<=0↔Vd p m c=Vd p (L (cn y.mn)) y.me:=s1;rw[A6,gv] at s1;unfold sd at s1 s2 t1 t2 |-;have q1:=s1.trans t1.symm;have q2:=s2.trans t2.symm;simp only at q1 q2 |-;generalize Fv (S p) (L y.r) y.a (L (cn y.mn)) y.me m c=u at *
    generalize Fv (S p) (L y.r) y.a (L y.t) y.b m c=w at *
    by_cases z1:u<=0
    ·have:=q1.1 z1;by_cases z2:u=0
     ·have:=q2.1 z2;omega
     ·have:w ≠ 0:=fun z=>z2 (q2.2 z);omega
    ·have:¬ w<=0:=fun z=>z1 (q1.2 z);omega
   ·have e1:sd p ⟨y.r,y.a,cn y.mn,y.me⟩ m c = -1:=VP hh.lt (by show L (cn y.mn)*2^c<m*2^y.me;rw[A6];omega);rw[e1];exact (dY h g (by omega)).symm
 ·rw[if_neg g] at hh |-;have bd':=R_ (S p) (L (cn y.mn)) y.me (L y.t) y.b m c;by_cases c1:m*2^y.me<=y.mn*2^c
  ·have e1:sd p ⟨cn y.mn,y.me,y.t,y.b⟩ m c=1:=P6 (by show m*2^y.me<=L (cn y.mn)*2^c;rw[A6];exact c1);rw[e1];have:¬ sd p y m c<=0:=by
    intro z;by_cases c2:m*2^y.me<y.mn*2^c
    ·have:=dY h z c2;unfold sd at this;rw[this] at g;exact g (by decide)
    ·have heq:m*2^y.me=y.mn*2^c:=by omega
     have hE:=Bt y.me;have hA:=Bt y.a;have hB:=Bt y.b;have hC:=Bt c;have i1:L y.r*2^c<m*2^y.a:=by
      apply Dd (a:=2^y.me) _ (Aw hE);have e1:=Bc b1 hC;have e3:L y.r*2^c*2^y.me=L y.r*2^y.me*2^c:=r ..;have e4:m*2^y.a*2^y.me=y.mn*2^y.a*2^c:=by rw[r,heq,r]
      omega
     have i2:m*2^y.b<=L y.t*2^c:=by
      apply Cj (a:=2^y.me) _ hE;have e1:=Bc b2 hC;have e3:L y.t*2^c*2^y.me=L y.t*2^y.me*2^c:=r ..;have e4:m*2^y.b*2^y.me=y.mn*2^y.b*2^c:=by rw[r,heq,r]
      omega
     have:=(NO h i1 i2).1.1 z;rw[pY heq] at this;exact g (hmid.1.2 this)
   unfold sd at this |-;omega
  ·by_cases c3:m*2^y.b<=L y.t*2^c
   ·obtain⟨s1,s2⟩:=NO hh (m:=m) (c:=c) (by show L (cn y.mn)*2^c<m*2^y.me;rw[A6];omega) c3;have c4:L y.r*2^c<m*2^y.a:=by
     have hE:=Bt y.me;have hA:=Bt y.a;have hC:=Bt c;apply Dd (a:=2^y.me) _ (Aw hE);have e1:=Bc (show y.mn*2^c<m*2^y.me by omega) hA;have e2:=Bc b1 hC;have e3:L y.r*2^c*2^y.me=L y.r*2^y.me*2^c:=r ..;have e4:y.mn*2^c*2^y.a=y.mn*2^y.a*2^c:=r ..;have e5:m*2^y.me*2^y.a=m*2^y.a*2^y.me:=r ..;omega
    obtain⟨t1,t2⟩:=NO h (m:=m) (c:=c) c4 c3;unfold sd at s1 s2 t1 t2 |-;have q1:=s1.trans t1.symm;have q2:=s2.trans t2.symm;simp only at q1 q2 |-;generalize Fv (S p) (L (cn y.mn)) y.me (L y.t) y.b m c=u at *
    generalize Fv (S p) (L y.r) y.a (L y.t) y.b m c=w at *
    by_cases z1:u<=0
    ·have:=q1.1 z1;by_cases z2:u=0
     ·have:=q2.1 z2;omega
     ·have:w ≠ 0:=fun z=>z2 (q2.2 z);omega
    ·have:¬ w<=0:=fun z=>z1 (q1.2 z);omega
   ·rw[VP h.lt (by omega),VP hh.lt (show L y.t*2^c<m*2^y.b by omega)]
theorem Rp{p:LI}{y:Iv}(h:One p y)(m:Int)(c:Nat):∀ n,sd p (stpN (S p) y n) m c=sd p y m c
 | 0=>rfl
 | n+1=>by
  show sd p (JJ (S p) (stpN (S p) y n)) m c=_;rw[A6z (h.halves n),Rp h m c n]
theorem A1c{n k:Nat}(h:n<=2^k):F3 n<=k+1:=by
 unfold F3;split
 ·omega
 ·rename_i h0;have:n.log2<k+1:=(Sk h0).2 (DF h (Tv (by decide) (by omega)));omega
end Go.Proofs.YtajompaehjkgkaaGreat
namespace Go.Ai
open Classical renaming byContradiction->A1
open Int renaming le_of_lt->Aw,le_refl->Dg,lt_or_gt_of_ne->Gd,lt_trichotomy->G3,mul_assoc->AK,mul_comm->AE,mul_eq_zero->EH,mul_le_mul_of_nonneg_left->Al,mul_le_mul_of_nonneg_right->Ac,mul_ne_zero->AS,mul_neg->EY,mul_nonneg->AA,mul_one->Dh,mul_pos->Bp,mul_sub->Fy,mul_zero->AG,neg_mul->NM,not_le->FD,not_lt->KF,ofNat_le->ACi,toNat_of_nonneg->U9,zero_mul->BU
open List renaming eq_nil_of_length_eq_zero->A5,length_pos_iff->Ak,map_cons->Cx,map_nil->FW,mem_map->Cn,range->Aq
open Or renaming inl->Adi,inr->S8
open Rat renaming div_def->A3m,intCast_add->LQ,intCast_le_intCast->BN,intCast_mul->Dc,intCast_natCast->DU,intCast_neg->Any,intCast_sub->rV,inv_pos->A3o,le_of_lt->Ic,mul_nonneg->FH,mul_pos->I7,natCast_add->TL,natCast_mul->HE,one_mul->A3n
def lin(s:Int):LI:=[-s,2]
theorem IN{c:Int}(hc:c ≠ 0)(p:LI):(Y (As c p)).length=(Y p).length:=by
 rw[Jg hc,y]
theorem Sa{a b:Int}:((0<a/\0<b)\/(a<0/\b<0))↔0<a*b:=by
 constructor
 ·rintro (⟨h1,h2⟩ | ⟨h1,h2⟩)
  ·exact Bp h1 h2
  ·have:=Bp (show 0 < -a by omega) (show 0 < -b by omega);rwa [Int.neg_mul_neg] at this
 ·intro h;rcases G3 a 0 with g | g | g
  ·rcases G3 b 0 with k | k | k
   ·exact .inr ⟨g,k⟩
   ·subst k;simp at h
   ·have:=Bp (show 0 < -a by omega) k;rw[NM] at this;omega
  ·subst g;simp at h
  ·rcases G3 b 0 with k | k | k
   ·have:=Bp g (show 0 < -b by omega);rw[EY] at this;omega
   ·subst k;simp at h
   ·exact .inl ⟨g,k⟩
theorem qM(p:LI)(x q:Int):LO p x q↔0<Hh p x q*Hh p (x+1) q:=Sa
theorem zK{c d a b:Int}(hc:c ≠ 0)(hd:d ≠ 0)(h:c*a=d*b):a=0↔b=0:=by
 constructor
 ·intro e;rw[e,AG] at h;rcases EH.1 h.symm with g | g
  ·exact absurd g hd
  ·exact g
 ·intro e;rw[e,AG] at h;rcases EH.1 h with g | g
  ·exact absurd g hc
  ·exact g
theorem Acr{c:Int}(hc:c ≠ 0):0<c*c:=Sa.1 (by omega)
theorem Aks{c d a b a' b':Int}(hc:c ≠ 0)(hd:d ≠ 0)(h:c*a=d*b)(h':c*a'=d*b'):0<a*a'↔0<b*b':=by
 have e:(c*c)*(a*a')=(d*d)*(b*b'):=by
  have:(c*c)*(a*a')=(c*a)*(c*a'):=by grind
  rw[this,h,h'];grind
 have p1:=Acr hc;have p2:=Acr hd;constructor
 ·intro k;have:=Bp p1 k;rw[e] at this;have:=Sa.2 this;omega
 ·intro k;have:=Bp p2 k;rw[<- e] at this;have:=Sa.2 this;omega
def wq(p:LI)(x q:Int):Int:=wv 0 (DV (CJ p) x q)
def Jv(p:LI)(x q:Int):Prop:=¬ LO (S p) x q/\Hh (S p) x q ≠ 0
theorem P7(p:LI)(hp:Y p ≠ [])(R:Int)(hR:0<=R):∃ Q0:Int,0<Q0/\∀ q x:Int,Zp R q x->Q0<=q->(Jv p x q->wq p x q=wq p (x+1) q+1)/\(¬ Jv p x q->wq p x q=wq p (x+1) q):=by
 obtain⟨_,_,_,f0,_⟩:=Ci hp;have e1:CJ p=S p::Ik (S p).length (S p) (prim (At (S p))):=by unfold CJ;rw[if_neg f0]
 unfold wq Jv;by_cases hl:2<=(S p).length
 ·obtain⟨lf,hl1,hG,hcn⟩:=KW hp hl;obtain⟨Q0,hQ0,ht⟩:=VI R hR lf hl hl1 hG hcn (S p).length (by omega);refine⟨Q0,hQ0,fun q x hr hq => ?_⟩;rw[e1];obtain⟨d,htop,hd2,hd3,hd4⟩:=ht q x hr hq;have h5:=iR htop;constructor
  ·intro ⟨g1,g2⟩;rcases hd2 with z | z
   ·rcases hd4 z with g | g
    ·exact absurd g g1
    ·exact absurd g g2
   ·omega
  ·intro g;rcases hd2 with z | z
   ·omega
   ·exact absurd (hd3 z) g
 ·refine⟨1,by decide,fun q x _ _ => ?_⟩;have hpos:=Ak.2 f0;have hl1:(S p).length=1:=by omega
  have hz:prim (At (S p))=[]:=by
   rw[DY];intro i;rw[Dx,B3 (by omega),BU]
  have e:Ik (S p).length (S p) (prim (At (S p)))=[]:=by rw[hl1,hz];rfl
  have eh:∀ z,Hh (S p) z q=(S p).getD 0 0:=fun z=>by unfold Hh Go.Ai.hp;rw[hl1];rfl
  rw[e1,e];unfold DV;simp only[Cx,FW];unfold LO;rw[eh,eh];constructor
  ·intro ⟨g1,g2⟩;exfalso;omega
  ·intro _;rfl
theorem Rq{f a b:LI}{c d:Int}(hc:c ≠ 0)(hd:d ≠ 0)(lf:BH f)(la:BH a)(lb:BH b)(ha:a ≠ [])(hb:b ≠ [])(h:∀ x,c*Aa f x=d*(Aa a x*Aa b x))(x q:Int):c*Hh f x q=d*(Hh a x q*Hh b x q):=by
 have la':=Ak.2 ha;have lb':=Ak.2 hb;have hi:=Dq (p:=As c f) (q:=As d (Bs a b)) (fun x=>by rw[A0,A0,AX];exact h x);have hlen:f.length=a.length+b.length-1:=by
  have h1:=IN hc f;have h2:=IN hd (Bs a b);have h3:Y (As c f)=Y (As d (Bs a b)):=Gb hi;have h4:=KT (By la ha) (By lb hb);rw[lf] at h1;rw[h4,la,lb] at h2;rw[<- h1,h3,h2]
 have hm:=Xt (r:=b) (tr:=b.length-1) (by omega) x q a (a.length-1) (by omega);unfold Hh;rw[show f.length-1=a.length-1+(b.length-1) by omega,<- hm];unfold hp;have h1:=Nz c 0 (fun i=>f.getD i 0) (fun i=>f.getD i 0) x q (a.length-1+(b.length-1));have h2:=Nz d 0 (fun i=>(Bs a b).getD i 0) (fun i=>(Bs a b).getD i 0) x q (a.length-1+(b.length-1));have h3:hs (fun i=>c*f.getD i 0+0*f.getD i 0) x q (a.length-1+(b.length-1))=hs (fun i=>d*(Bs a b).getD i 0+0*(Bs a b).getD i 0) x q (a.length-1+(b.length-1)):=P0 fun i _=>by
  have:=hi i;rw[m,m] at this;omega
 omega
theorem WP{s t a b:Int}(h:0<a*b):0<s*a*(t*b)↔0<s*t:=by
 have e:s*a*(t*b)=s*t*(a*b):=by grind
 rw[e];constructor
 ·intro g;apply FD.1;intro z;have:=Ac z (Aw h);omega
 ·intro g;exact Bp g h
theorem zL{P A B:LI}{c d:Int}(hc:c ≠ 0)(hd:d ≠ 0)(hP:Y P ≠ [])(hA:Y A ≠ [])(hB:Y B ≠ [])(h:∀ x,c*Aa (S P) x=d*(Aa (S A) x*Aa (S B) x))(hG:F4 [1] (S A) (S B))(R:Int)(hR:0<=R) :
  ∃ Q0:Int,0<Q0/\∀ q x:Int,Zp R q x->Q0<=q->wq P x q-wq P (x+1) q=(wq A x q-wq A (x+1) q)+(wq B x q-wq B (x+1) q):=by
 obtain⟨Q1,h1,k1⟩:=P7 P hP R hR;obtain⟨Q2,h2,k2⟩:=P7 A hA R hR;obtain⟨Q3,h3,k3⟩:=P7 B hB R hR;obtain⟨L4,Q4,_,h4,k4⟩:=RZ R hR hG;obtain⟨lf,_,_,f0,_⟩:=Ci hP;obtain⟨la,_,_,a0,_⟩:=Ci hA;obtain⟨lb,_,_,b0,_⟩:=Ci hB;refine⟨Q1+Q2+Q3+Q4,by omega,fun q x hr hq => ?_⟩;have v1:=Rq hc hd lf la lb a0 b0 h x q;have v2:=Rq hc hd lf la lb a0 b0 h (x+1) q;obtain⟨p1,p2⟩:=k1 q x hr (by omega);obtain⟨a1,a2⟩:=k2 q x hr (by omega);obtain⟨b1,b2⟩:=k3 q x hr (by omega);have g4:=fun g=>(k4 q x hr (by omega) g).1;have z1:=zK hc hd v1;have s1:=Aks hc hd v1 v2;unfold Jv at *
 simp only[qM] at p1 p2 a1 a2 b1 b2 g4;generalize Hh (S P) x q=F at *
 generalize Hh (S P) (x+1) q=F' at *
 generalize Hh (S A) x q=u at *
 generalize Hh (S A) (x+1) q=u' at *
 generalize Hh (S B) x q=v at *
 generalize Hh (S B) (x+1) q=v' at *
 have key:(¬ 0<F*F'/\F ≠ 0->(¬ 0<u*u'/\u ≠ 0)\/(¬ 0<v*v'/\v ≠ 0))/\(¬ 0<u*u'/\u ≠ 0->(¬ 0<F*F'/\F ≠ 0)/\¬ (¬ 0<v*v'/\v ≠ 0))/\(¬ 0<v*v'/\v ≠ 0->(¬ 0<F*F'/\F ≠ 0)/\¬ (¬ 0<u*u'/\u ≠ 0)):=by
  have hF:F ≠ 0↔u ≠ 0/\v ≠ 0:=by
   constructor
   ·intro g;refine⟨fun z=>g (z1.2 (by rw[z,BU])),fun z=>g (z1.2 (by rw[z,AG]))⟩
   ·intro ⟨g1,g2⟩ z;exact AS g1 g2 (z1.1 z)
  by_cases su:0<u*u'
  ·have e:u*v*(u'*v')=v*u*(v'*u'):=by grind
   rw[e,WP su] at s1;have u0:u ≠ 0:=by intro z;rw[z,BU] at su;omega
   refine⟨fun g=>S8 ⟨fun z=>g.1 (s1.2 z),(hF.1 g.2).2⟩,fun g=>absurd su g.1,fun g=>⟨⟨fun z=>g.1 (s1.1 z),hF.2 ⟨u0,g.2⟩⟩,fun z=>z.1 su⟩⟩
  ·have sv:=g4 su;rw[WP sv] at s1;have v0:v ≠ 0:=by intro z;rw[z,BU] at sv;omega
   refine⟨fun g=>Adi ⟨fun z=>g.1 (s1.2 z),(hF.1 g.2).1⟩,fun g=>⟨⟨fun z=>g.1 (s1.1 z),hF.2 ⟨g.2,v0⟩⟩,fun z=>z.1 sv⟩,fun g=>absurd sv g.1⟩
 obtain⟨kA,kB,kC⟩:=key;by_cases lA:¬ 0<u*u'/\u ≠ 0
 ·obtain⟨q1,q2⟩:=kB lA;have:=p1 q1;have:=a1 lA;have:=b2 q2;omega
 ·by_cases lB:¬ 0<v*v'/\v ≠ 0
  ·obtain⟨q1,q2⟩:=kC lB;have:=p1 q1;have:=a2 q2;have:=b1 lB;omega
  ·have q1:¬ (¬ 0<F*F'/\F ≠ 0):=fun z=>by
    rcases kA z with g | g
    ·exact lA g
    ·exact lB g
   have:=p2 q1;have:=a2 lA;have:=b2 lB;omega
theorem Ov(p:LI)(x q c:Int)(hc:0<c):wq p (c*x) (c*q)=wq p x q:=by unfold wq;rw [I' _ _ _ _ hc]
theorem dZ{P A B:LI}{c d:Int}(hc:c ≠ 0)(hd:d ≠ 0)(hP:Y P ≠ [])(hA:Y A ≠ [])(hB:Y B ≠ [])(h:∀ x,c*Aa (S P) x=d*(Aa (S A) x*Aa (S B) x))(hG:F4 [1] (S A) (S B)){x y q:Int}(hq:0<q)(hxy:x<=y) :
  wq P x q-wq P y q=(wq A x q-wq A y q)+(wq B x q-wq B y q):=by
 obtain⟨Q0,hQ0,hm⟩:=zL hc hd hP hA hB h hG ((x.natAbs:Int)+(y.natAbs:Int)) (by omega);have h1:(0:Int)<Q0*q:=Bp hQ0 hq;have hQq:Q0<=Q0*q:=by
  have:=Al (show (1:Int)<=q by omega) (show 0<=Q0 by omega);omega
 have hb:∀ z:Int,(z.natAbs:Int)<=(x.natAbs:Int)+(y.natAbs:Int)->((Q0*z).natAbs:Int)<=((x.natAbs:Int)+(y.natAbs:Int))*(Q0*q):=by
  intro z hz;have h2:=Ds (a:=Q0) (A:=Q0*q) (by omega) hz;have e:Q0*q*((x.natAbs:Int)+(y.natAbs:Int))=((x.natAbs:Int)+(y.natAbs:Int))*(Q0*q):=AE ..;omega
 have bx:=hb x (by omega);have by':=hb y (by omega);have hd:0<=Q0*(y-x):=AA (by omega) (by omega);have e1:Q0*x+((Q0*(y-x)).toNat:Int)=Q0*y:=by rw[U9 hd,Fy];omega
 have key:∀ k:Nat,Q0*x+(k:Int)<=Q0*y->wq P (Q0*x) (Q0*q)-wq P (Q0*x+k) (Q0*q)=(wq A (Q0*x) (Q0*q)-wq A (Q0*x+k) (Q0*q))+(wq B (Q0*x) (Q0*q)-wq B (Q0*x+k) (Q0*q)):=by
  intro k;induction k with
  | zero=>intro _;simp
  | succ k ih =>
   intro hk;have i1:=ih (by omega);have i2:=hm (Q0*q) (Q0*x+(k:Int)) ⟨h1,by omega,by omega⟩ hQq;rw[show Q0*x+((k+1:Nat):Int)=Q0*x+(k:Int)+1 by omega];omega
 have h3:=key (Q0*(y-x)).toNat (by omega);rw[e1] at h3;simp only[Ov _ _ _ _ hQ0] at h3;exact h3
theorem eA(p:LI)(hp:Y p ≠ []){x y q:Int}(hq:0<q)(hxy:x<=y)(hV:1<=wq p x q-wq p y q) :
  ∃ c0:Int,0<c0/\∀ c:Int,c0<=c->∃ z:Int,c*x<=z/\z+1<=c*y/\Hh (S p) z (c*q)*Hh (S p) (z+1) (c*q)<=0:=by
 obtain⟨Q0,hQ0,hm⟩:=P7 p hp ((x.natAbs:Int)+(y.natAbs:Int)) (by omega);refine⟨Q0,hQ0,fun c hcc => ?_⟩;have hc0:0<c:=by omega
 have hcq:c<=c*q:=by
  have:=Al (show (1:Int)<=q by omega) (show 0<=c by omega);omega
 have hb:∀ z:Int,(z.natAbs:Int)<=(x.natAbs:Int)+(y.natAbs:Int)->((c*z).natAbs:Int)<=((x.natAbs:Int)+(y.natAbs:Int))*(c*q):=by
  intro z hz;have h2:=Ds (a:=c) (A:=c*q) (by omega) hz;have e:c*q*((x.natAbs:Int)+(y.natAbs:Int))=((x.natAbs:Int)+(y.natAbs:Int))*(c*q):=AE ..;omega
 have bx:=hb x (by omega);have by':=hb y (by omega);apply A1;intro hn;have key:∀ k:Nat,c*x+(k:Int)<=c*y->wq p (c*x) (c*q)=wq p (c*x+k) (c*q):=by
  intro k;induction k with
  | zero=>intro _;simp
  | succ k ih =>
   intro hk;have i1:=ih (by omega);have i2:=(hm (c*q) (c*x+(k:Int)) ⟨by omega,by omega,by omega⟩ (by omega)).2 (fun g=>hn ⟨c*x+(k:Int),by omega,by omega,by
    have:=g.1;rw[qM] at this;omega⟩)
   rw[show c*x+((k+1:Nat):Int)=c*x+(k:Int)+1 by omega];omega
 have hd:0<=c*(y-x):=AA (by omega) (by omega);have e1:c*x+((c*(y-x)).toNat:Int)=c*y:=by rw[U9 hd,Fy];omega
 have h3:=key (c*(y-x)).toNat (by omega);rw[e1,Ov _ _ _ _ hc0,Ov _ _ _ _ hc0] at h3;omega
def qN(s t:LI)(n i:Nat):LI:=if i<n then Dz i s else Dz (i-n) t
def Acs(m n A:Nat):Nat:=(2*((n+m)*A))^(n+m-1)
theorem A1d{s t:LI}{m n A:Nat}(hs:s.length=m+1)(ht:t.length=n+1)(hm:1<=m)(lt:BH t)(hG:F4 [1] s t)(hA:∀ i,(s.getD i 0).natAbs<=A)(hB:∀ i,(t.getD i 0).natAbs<=A)(hA0:0<A) :
  ∃ (U V:LI) (R:Int),R ≠ 0/\(∀ x,pq U x*pq s x+pq V x*pq t x=(R:Rat))/\V.length=m/\∀ c∈V,c.natAbs<=Acs m n A:=by
 obtain⟨d,R,hd,⟨i0,hi0,hne⟩,hid⟩:=WO (qN s t n) (n+m) A (fun i j=>by
  unfold qN;split
  ·rw[Cw];split
   ·exact hA _
   ·simp
  ·rw[Cw];split
   ·exact hB _
   ·simp) hA0 (by omega) (fun i hi=>by
  unfold qN;split
  ·rw[HZ];omega
  ·rw[HZ];omega)
 have hid2:∀ x,Aa ((Aq n).map d) x*Aa s x+Aa ((Aq m).map fun i=>d (n+i)) x*Aa t x=R:=by
  intro x;rw[<- hid x,VL,<- KZ,<- KZ,<- Ou,<- Ou];congr 1
  ·apply Mi;intro i hi;unfold qN;rw[if_pos hi,D9,AK]
  ·apply Mi;intro i hi;unfold qN;rw[if_neg (by omega),D9,show n+i-n=i by omega,AK]
 refine⟨(Aq n).map d,(Aq m).map fun i=>d (n+i),R,?_,fun x=>UB hid2 x,by simp,?_⟩
 ·intro hR;rw[hR] at hid2;have gU:∀ i,((Aq n).map d).getD i 0=if i<n then d i else 0:=fun i=>IM d n i;have gV:∀ i,((Aq m).map fun i=>d (n+i)).getD i 0=if i<m then d (n+i) else 0:=fun i=>IM (fun i=>d (n+i)) m i;have lU:((Aq n).map d).length=n:=by simp
  generalize (Aq n).map d=U at *
  generalize ((Aq m).map fun i=>d (n+i))=V at *
  obtain⟨_,_,c,u,v,hc,huv⟩:=hG;have hD:Dv t U:=by
   refine⟨c,Ec (Bs v U) (As (-1) (Bs u V)),hc,fun x => ?_⟩;have h1:=huv x;have h3:=hid2 x;rw[BY,AX,A0,AX];have e1:Aa [1] x=1:=by simp[Aa]
   rw[e1,Dh] at h1;rw[h1];generalize Aa u x=a at *
   generalize Aa v x=b at *
   generalize Aa U x=y at *
   generalize Aa V x=w at *
   generalize Aa s x=z at *
   generalize Aa t x=r at *
   have e2:y*z = -(w*r):=by omega
   have e3:(a*z+b*r)*y=a*(y*z)+b*r*y:=by grind
   rw[e3,e2];grind
  have hU0:Y U=[]:=by
   apply A1;intro hz;have:=(hD.length hz).1;rw[lt,ht] at this;have:=BA U;omega
  have hUz:=Dn.1 hU0;have hUe:∀ x,Aa U x=0:=fun x=>by rw[<- DR,hU0];rfl
  have hVe:=Pn (p:=t) (q:=V) (by rw[lt];intro e;rw[e] at ht;simp at ht) (fun x=>by
   have:=hid2 x;rw[hUe x] at this;rw[AE];omega)
  have hVz:∀ i,V.getD i 0=0:=fun i=>by
   have:=Dq (p:=V) (q:=[]) (fun x=>by rw[hVe x];rfl) i;rw[this];rfl
  by_cases hlt:i0<n
  ·have:=gU i0;rw[hUz i0,if_pos hlt] at this;exact hne this.symm
  ·have:=gV (i0-n);rw[hVz,if_pos (by omega),show n+(i0-n)=i0 by omega] at this;exact hne this.symm
 ·intro c hc;obtain⟨i,_,rfl⟩:=Cn.1 hc;exact hd _
def VQ(m n A X:Nat):Nat:=Acs m n A*zV X m*(A*zD X (n+1))
theorem ADv{s t U V:LI}{R:Int}{A B X:Nat}{a b e u w:Rat}(hR:R ≠ 0)(hid:∀ x,pq U x*pq s x+pq V x*pq t x=(R:Rat))(hA:∀ c∈t,c.natAbs<=A)(hB:∀ c∈V,c.natAbs<=B)
  (ha:Bd a X) (hb:Bd b X) (hsa:Bd (pq s a) e) (htb:Bd (pq t b) e) (hU:Bd (pq U a) u) (hw:Bd (b-a) w):1<=u*e+(B*zV X V.length)*(e+w*(A*zD X t.length)):=by
 have h1:=hid a;have d1:=MD a b t;have b1:=T8 ha hb t hA;have bV:=P4 ha V hB;have bta:Bd (pq t a) (e+w*(A*zD X t.length)):=by
  have:=htb.sub (hw.mul b1);have e1:pq t a=pq t b-(b-a)*dD t a b:=by grind
  rw[e1];exact this
 have hb:=(hU.mul hsa).add (bV.mul bta);rw[h1] at hb;unfold Bd at hb;have hR1:(1:Rat)<=(R:Rat)\/(R:Rat) <= -1:=by
  rcases Gd hR with g | g
  ·right;have:=BN.2 (show R <= -1 by omega);simpa using this
  ·left;have:=BN.2 (show (1:Int)<=R by omega);simpa using this
 grind
theorem zM(D:Int)(s:Int):((s+1:Int):Rat) / (D:Rat)-(s:Rat) / (D:Rat)=1 / (D:Rat):=by
 rw[LQ];simp;grind
theorem A7a(D:Int)(hD:0<D):Bd (1 / (D:Rat)) (1 / (D:Rat)):=by
 have hD0:=ME hD;have:0<1 / (D:Rat):=by
  rw[A3m,A3n];exact A3o.2 hD0
 unfold Bd;constructor <;> grind
theorem WQ{f:LI}{A X:Nat}{z D:Int}(hD:0<D)(hA:∀ c∈f,c.natAbs<=A)(h1 : -(X*D)<=z)(h2:z+1<=X*D)(h:Hh f z D*Hh f (z+1) D<=0){E:Nat}(hE:A*zD X f.length<=E):Bd (pq f ((z:Rat) / (D:Rat))) (1 / (D:Rat)*(E:Nat)):=by
 have ba:=K_ (X:=X) hD (z:=z) h1 (by omega);have ba1:=K_ (X:=X) hD (z:=z+1) (by omega) h2;have d1:=MD ((z:Rat) / (D:Rat)) (((z+1:Int):Rat) / (D:Rat)) f;have b1:=T8 ba ba1 f hA;have b1':Bd (dD f ((z:Rat) / (D:Rat)) (((z+1:Int):Rat) / (D:Rat))) (E:Nat):=b1.mono (by
  rw[<- HE];have:=BN.2 (ACi.2 hE);rw[DU,DU] at this;exact this)
 refine VN (P5 hD h) ?_;have e:pq f (((z+1:Int):Rat) / (D:Rat))-pq f ((z:Rat) / (D:Rat))=1 / (D:Rat)*dD f ((z:Rat) / (D:Rat)) (((z+1:Int):Rat) / (D:Rat)):=by rw[d1,zM D];grind
 rw[e];exact (A7a D hD).mul b1'
theorem A1e{i D q c K w M:Rat}(hi:i*D=1)(hD:D=c*q)(hq:0<q)(hc:K+1<=c)(hK:0<=K)(hw:w*M*q+1<=q)(h:1<=K*i+w*M):False:=by
 have hc0:0<c:=by grind
 have e1:(i*q)*c=1:=by rw[<- hi,hD];grind
 have hj:0<i*q:=by
  apply A1;intro hn;have:=FH (show 0 <= -(i*q) by grind) (Ic hc0);grind
 have h1:=FH (show 0<=K*i+w*M-1 by grind) (Ic hq);have h2:1<=K*(i*q):=by grind
 have h3:=FH (show 0<=K*(i*q)-1 by grind) (Ic hc0);have h4:c<=K:=by
  have e:(K*(i*q)-1)*c=K*((i*q)*c)-c:=by grind
  rw[e,e1] at h3;grind
 grind
theorem qO{p1 p2:LI}(h1:Y p1 ≠ [])(h2:Y p2 ≠ [])(hG:F4 [1] (S p1) (S p2)){m n A X:Nat}(hm:(S p1).length=m+1)(hn:(S p2).length=n+1)(m1:1<=m)(hA:∀ i,((S p1).getD i 0).natAbs<=A)(hB:∀ i,((S p2).getD i 0).natAbs<=A)(hA0:0<A)
  {x y q:Int} (hq:0<q) (hxy:x<=y) (hx : -(X*q)<=x) (hy:y<=X*q) (hV1:1<=wq p1 x q-wq p1 y q) (hV2:1<=wq p2 x q-wq p2 y q):q<=(y-x)*(VQ m n A X:Nat):=by
 obtain⟨c1,hc1,k1⟩:=eA p1 h1 hq hxy hV1;obtain⟨c2,hc2,k2⟩:=eA p2 h2 hq hxy hV2;obtain⟨lt,_⟩:=Ci h2;obtain⟨U,V,R,hR,hid,hVl,hVb⟩:=A1d hm hn m1 lt hG hA hB hA0;generalize S p1=s at *
 generalize S p2=t at *
 obtain⟨Au,hAu⟩:=zG U;have hAs:∀ c∈s,c.natAbs<=A:=fun c hc=>by obtain⟨i,rfl⟩:=R' hc;exact hA i
 have hAt:∀ c∈t,c.natAbs<=A:=fun c hc=>by obtain⟨i,rfl⟩:=R' hc;exact hB i
 generalize hE:A*zD X s.length+A*zD X t.length=E;generalize hv:Acs m n A*zV X V.length=v;generalize hu:Au*zV X U.length=u;generalize hK:(u+v)*E=K;have hk0:(0:Int)<((K+1:Nat):Int):=by omega
 have hcc:(0:Int)<c1+c2:=by omega
 have g1:(c1+c2)<=(c1+c2)*((K+1:Nat):Int):=by
  have:=Al (show (1:Int)<=((K+1:Nat):Int) by omega) (Aw hcc);omega
 have g2:((K+1:Nat):Int)<=(c1+c2)*((K+1:Nat):Int):=by
  have:=Ac (show (1:Int)<=c1+c2 by omega) (Aw hk0);omega
 generalize (c1+c2)*((K+1:Nat):Int)=c at *
 have hc0:0<c:=by omega
 obtain⟨z,z1,z2,fz⟩:=k1 c (by omega);obtain⟨w,w1,w2,fw⟩:=k2 c (by omega);have hD:0<c*q:=Bp hc0 hq;have sx:=Al hx (Aw hc0);have sy:=Al hy (Aw hc0);have ex:c * -(X*q) = -(X*(c*q)):=by grind
 have ey:c*(X*q)=X*(c*q):=by grind
 rw[ex] at sx;rw[ey] at sy;have hDq:(c*q:Int)=c*q:=rfl;have d1:w-z<=c*(y-x):=by rw[Fy];omega
 have d2 : -(c*(y-x))<=w-z:=by rw[Fy];omega
 generalize hDD:c*q=D at *
 have ba:=K_ (X:=X) hD (z:=z) (by omega) (by omega);have bb:=K_ (X:=X) hD (z:=w) (by omega) (by omega);have sa:=WQ (X:=X) hD hAs (by omega) (by omega) fz (E:=E) (by omega);have tb:=WQ (X:=X) hD hAt (by omega) (by omega) fw (E:=E) (by omega);have bU:=P4 ba U hAu;have hD0:=ME hD;have hq0:=ME hq;have hwd:Bd ((w:Rat) / (D:Rat)-(z:Rat) / (D:Rat)) (((y-x:Int):Rat) / (q:Rat)):=by
  have r1:=BN.2 d1;have r2:=BN.2 d2;have eD:(D:Rat)=(c:Rat)*(q:Rat):=by rw[<- hDD,Dc]
  rw[Any,Dc,rV w z] at r2;rw[Dc,rV w z] at r1;have e1:((w:Rat) / (D:Rat)-(z:Rat) / (D:Rat))*(D:Rat)=(w:Rat)-(z:Rat):=by grind
  have e2:((y-x:Int):Rat) / (q:Rat)*(D:Rat)=(c:Rat)*((y-x:Int):Rat):=by rw[eD];grind
  generalize (w:Rat) / (D:Rat)-(z:Rat) / (D:Rat)=g at *
  generalize ((y-x:Int):Rat) / (q:Rat)=r at *
  rw[<- e1,<- e2] at r1 r2;generalize (D:Rat)=D' at *
  unfold Bd;constructor
  ·apply A1;intro hn;have:=I7 (show 0 < -r-g by grind) hD0;grind
  ·apply A1;intro hn;have:=I7 (show 0<g-r by grind) hD0;grind
 have hh:=ADv hR hid hAt hVb ba bb sa tb bU hwd;apply KF.1;intro hlt;have hlt':=BN.2 (show (y-x)*(VQ m n A X:Nat)+1<=q by omega);rw[LQ,Dc] at hlt';have eM:((VQ m n A X:Nat):Rat)=(v:Rat)*((A:Rat)*(zD X t.length:Nat)):=by
  unfold VQ;rw[<- hv,hVl,hn];simp only[HE]
 have ev:(v:Rat)=(Acs m n A:Nat)*(zV X V.length:Nat):=by rw[<- hv,HE]
 have eu:(u:Rat)=(Au:Rat)*(zV X U.length:Nat):=by rw[<- hu,HE]
 have eK:(K:Rat)=((u:Rat)+(v:Rat))*(E:Rat):=by rw[<- hK,HE,TL]
 rw[<- ev,<- eu] at hh;have e1:((y-x:Int):Rat) / (q:Rat)*(q:Rat)=((y-x:Int):Rat):=by grind
 have hcK:=BN.2 g2;refine A1e (i:=1 / (D:Rat)) (D:=(D:Rat)) (q:=(q:Rat)) (c:=(c:Rat)) (K:=(K:Rat)) (w:=((y-x:Int):Rat) / (q:Rat)) (M:=((VQ m n A X:Nat):Rat)) (by grind) (by rw[<- hDD,Dc]) hq0 ?_ ?_ ?_ ?_
 ·rw[DU,TL] at hcK;simpa using hcK
 ·exact Rat.natCast_nonneg
 ·have e2:((y-x:Int):Rat) / (q:Rat)*((VQ m n A X:Nat):Rat)*(q:Rat)=((y-x:Int):Rat)*((VQ m n A X:Nat):Rat):=by
   generalize ((y-x:Int):Rat) / (q:Rat)=r at *
   rw[<- e1];grind
  rw[e2];have e3:((((VQ m n A X:Nat):Int)):Rat)=((VQ m n A X:Nat):Rat):=DU _;rw[e3] at hlt';simpa using hlt'
 ·rw[eK,eM];generalize ((y-x:Int):Rat) / (q:Rat)=r at *
  generalize 1 / (D:Rat)=i at *
  grind
theorem qP{s t:LI}(hs:Y s ≠ [])(h:(B5 s t).length<2):F4 [1] s t:=by
 have h0:=Gi (t:=t) hs;have h1:=Ak.2 h0;obtain⟨c,hc⟩:=On (g:=B5 s t) (by omega);have ht:=Km (t:=t) hs;have hG:=Fi s t;rw[hc] at hG ht;have hc0:c ≠ 0:=by
  intro z;rw[z] at ht;exact absurd ht (by decide)
 exact F4.gscaled (m:=c) (n:=1) hc0 (by decide) (fun x=>by simp[Aa]) hG
theorem Akt{p:LI}(hp:Y p ≠ []):F4 [1] (S p) (At (S p)):=by
 obtain⟨lf,_,_,f0,_,_,_,h⟩:=Ci hp;exact qP (By lf f0) (by omega)
theorem A1f{f g k:LI}{c:Int}(hc:c ≠ 0)(h:∀ x,c*Aa f x=Aa g x*Aa k x)(hf:F4 [1] f (At f)):F4 [1] g k/\F4 [1] g (At g)/\F4 [1] k (At k):=by
 obtain⟨_,_,c0,u,v,hc0,e⟩:=hf;have hd:∀ x,c*Aa (At f) x=Aa (At g) x*Aa k x+Aa g x*Aa (At k) x:=fun x=>by
  rw[<- HW];exact MA (fun x=>by rw[A0];exact h x) x
 have o:∀ x,Aa [1] x=1:=fun x=>by simp[Aa]
 refine⟨⟨KB _,KB _,c0*c,Ec (Bs u k) (Bs v (At k)),Bs v (At g),AS hc0 hc,fun x => ?_⟩,⟨KB _,KB _,c0*c,Ec (Bs u k) (Bs v (At k)),Bs v k,AS hc0 hc,fun x => ?_⟩,⟨KB _,KB _,c0*c,Ec (Bs u g) (Bs v (At g)),Bs v g,AS hc0 hc,fun x => ?_⟩⟩;all_goals
  have e1:=e x;have e2:=h x;have e3:=hd x;rw[o,Dh] at e1;simp only[o,Dh,BY,AX];generalize Aa u x=U at *
  generalize Aa v x=V at *
  generalize Aa f x=F at *
  generalize Aa (At f) x=F' at *
  generalize Aa g x=G at *
  generalize Aa (At g) x=G' at *
  generalize Aa k x=K at *
  generalize Aa (At k) x=K' at *
  rw[e1];have e4:(U*F+V*F')*c=U*(c*F)+V*(c*F'):=by grind
  rw[e4,e2,e3];grind
theorem qQ{k:LI}(hk:Y k ≠ [])(h:F4 [1] k (At k)):∃ m n:Int,m ≠ 0/\n ≠ 0/\∀ x,m*Aa (S k) x=n*Aa k x:=by
 obtain⟨la,a0,_,_,_,m,hm,n,hn,hpa⟩:=Rh hk;have hG:F4 [1] (j (prim k)) (At (j (prim k))):=F4.scaled (m:=m) (n:=n) (k:=m) (l:=n) hm hn hm hn (fun x=>(hpa x).symm) (fun x=>(Ps hpa x).symm) h;have hl:=(Fi (j (prim k)) (At (j (prim k)))).length hG (by rw[show Y (B5 (j (prim k)) (At (j (prim k))))=_ from D0 _ _];exact Gi (By la a0));rw[show Y (B5 (j (prim k)) (At (j (prim k))))=_ from D0 _ _] at hl;have hl1:(Y [1]).length=1:=rfl;have e:S k=j (prim k):=by
  unfold S;rw[if_pos (S8 (by omega))]
 exact⟨m,n,hm,hn,fun x=>by rw[e];exact (hpa x).symm⟩
theorem Zz{f g k:LI}{c:Int}(hc:c ≠ 0)(h:∀ x,c*Aa f x=Aa g x*Aa k x)(hf:Y f ≠ []):Y k ≠ []:=by
 intro h1;apply hf;have e:Y (As c f)=Y []:=Ft fun x=>by rw[A0,h x,Ee h1,AG];rfl
 have h2:=IN hc f;rw[e] at h2;exact A5 h2.symm
structure Cof (p q k:List Int):Prop where
 nz:Y k ≠ []
 gz:Y (B5 (S p) q) ≠ []
 mul:∃ c d:Int,c ≠ 0/\d ≠ 0/\∀ x,c*Aa (S p) x=d*(Aa (S (B5 (S p) q)) x*Aa (S k) x)
 one:F4 [1] (S (B5 (S p) q)) (S k)
 two:F4 [1] (S k) (S q)
 dv:Dv (S k) (S p)
theorem eB{p q:LI}(hp:Y p ≠ [])(hq:Y q ≠ []):∃ k,Cof p q k:=by
 obtain⟨lf,_,_,f0,_⟩:=Ci hp;have hf0:=By lf f0;have hF:=Akt hp;have hG:=Fi (S p) q;have hg0:Y (B5 (S p) q) ≠ []:=by rw[show Y (B5 (S p) q)=_ from D0 _ _];exact Gi hf0
 generalize hgg:B5 (S p) q=G at *
 obtain⟨⟨c,k,hc,hk⟩,_,c2,u,v,hc2,e2⟩:=hG;obtain⟨g1,g2,g3⟩:=A1f hc hk hF;have hk0:=Zz hc hk hf0;obtain⟨m1,n1,hm1,hn1,f1⟩:=qQ hg0 g2;obtain⟨m2,n2,hm2,hn2,f2⟩:=qQ hk0 g3;obtain⟨_,_,_,_,⟨c5,j,hc5,e5⟩,_⟩:=Ci hq;refine⟨k,⟨hk0,by rw[hgg];exact hg0,⟨n1*n2*c,m1*m2,AS (AS hn1 hn2) hc,AS hm1 hm2,fun x => ?_⟩,?_,?_,?_⟩⟩
 ·rw[hgg];have a1:=f1 x;have a2:=f2 x;have a3:=hk x;generalize Aa (S p) x=F at *
  generalize Aa (S G) x=A at *
  generalize Aa (S k) x=B at *
  generalize Aa G x=A' at *
  generalize Aa k x=B' at *
  have b1:m1*m2*(A*B)=(m1*A)*(m2*B):=by grind
  have b2:n1*n2*c*F=n1*n2*(c*F):=by grind
  rw[b1,a1,a2,b2,a3];grind
 ·rw[hgg];exact F4.scaled hm1 hn1 hm2 hn2 f1 f2 g1
 ·obtain⟨_,_,c3,u',v',hc3,e3⟩:=g1;have hkq:F4 [1] k (S q):=by
   refine⟨KB _,KB _,c5*(c*c2*c3),As c5 (Ec (Bs (Bs u' u) G) (As (c*c2) v')),As c (Bs (Bs u' v) j),AS hc5 (AS (AS hc hc2) hc3),fun x => ?_⟩;have a1:=hk x;have a2:=e2 x;have a3:=e3 x;have a5:=e5 x;simp only[A0,BY,AX];have o:Aa [1] x=1:=by simp[Aa]
   rw[o,Dh] at a3 |-;generalize Aa (S p) x=F at *
   generalize Aa (S q) x=Q at *
   generalize Aa G x=A at *
   generalize Aa k x=B at *
   generalize Aa q x=Z at *
   generalize Aa u x=U at *
   generalize Aa v x=V at *
   generalize Aa u' x=U' at *
   generalize Aa v' x=V' at *
   generalize Aa j x=J at *
   have b1:c5*(c*c2*c3)=c5*(U'*(c*(c2*A))+c*c2*(V'*B)):=by rw[a3];grind
   have b2:c*(U*F+V*Z)=U*(c*F)+c*(V*Z):=by grind
   have b3:c5*(U'*(U*(A*B)+c*(V*Z))+c*c2*(V'*B))=c5*(U'*U*A+c*c2*V')*B+c*(U'*V)*(c5*Z):=by grind
   rw[b1,a2,b2,a1,b3,a5];grind
  exact F4.scaled hm2 hn2 (by decide:(1:Int) ≠ 0) (by decide:(1:Int) ≠ 0) f2 (fun _=>rfl) hkq
 ·refine⟨n2*c,As m2 G,AS hn2 hc,fun x => ?_⟩;have a2:=f2 x;have a3:=hk x;rw[A0];generalize Aa (S p) x=F at *
  generalize Aa (S k) x=B at *
  generalize Aa G x=A' at *
  generalize Aa k x=B' at *
  have b1:B*(m2*A')=(m2*B)*A':=by grind
  have b2:n2*c*F=n2*(c*F):=by grind
  rw[b1,a2,b2,a3];grind
def gapA:Nat:=2^100*8^9*17^6
theorem qR{r:LI}{x y Q:Int}(h:1<=wq r x Q-wq r y Q):2<=(S r).length:=by
 apply A1;intro g;have e:∀ z,wq r z Q<=0:=by
  intro z;unfold wq CJ;by_cases h0:S r=[]
  ·rw[if_pos h0];exact Dg _
  ·rw[if_neg h0];have hz:prim (At (S r))=[]:=by
    rw[DY];intro i;rw[Dx,B3 (by omega),BU]
   have hl1:(S r).length=1:=by have:=Ak.2 h0;omega
   have e:Ik (S r).length (S r) (prim (At (S r)))=[]:=by rw[hl1,hz];rfl
   rw[e];exact Zw (Ce (Hh (S r) z Q)) []
 have e2:0<=wq r y Q:=MF _ _;have:=e x;omega
theorem iX{p q:LI}(hp:Y p ≠ [])(hq:Y q ≠ []){x y Q:Int}(hQ:0<Q)(hxy:x<=y):wq (B5 (S p) q) x Q-wq (B5 (S p) q) y Q<=wq p x Q-wq p y Q:=by
 obtain⟨s,hs⟩:=eB hp hq;obtain⟨c,d,hc,hd,hcd⟩:=hs.mul;have hm:=dZ hc hd hp hs.gz hs.nz hcd hs.one hQ hxy;have:wq s y Q<=wq s x Q:=KX s hQ hxy;omega
end Go.Ai
namespace Go.Proofs.YtajompaehjkgkaaGreat
open Go.Ai
set_option maxRecDepth 100000
open Bool renaming or_eq_false_iff->ACk
open Go.Ai.AV renaming bool->B,int->F,sl->H
open Go.IntKind renaming i64->O
open Int renaming add_mul->Gw,eq_of_mul_eq_mul_left->FM,le_of_lt->Aw,le_of_mul_le_mul_right->Cj,le_refl->Dg,le_trans->FJ,lt_or_gt_of_ne->Gd,lt_trichotomy->G3,mul_comm->AE,mul_eq_zero->EH,mul_le_mul_of_nonneg_right->Ac,mul_ne_zero->AS,mul_neg_of_neg_of_pos->HH,mul_neg_of_pos_of_neg->Hp,mul_nonneg->AA,mul_pos->Bp,mul_pos_of_neg_of_neg->A8d,mul_right_comm->r,mul_sub->Fy,mul_zero->AG,not_le->FD,one_mul->Dt,pow_add->BB,toNat_of_nonneg->U9,zero_mul->BU
open List renaming length_map->Q,length_pos_iff->Ak
open Nat renaming add_comm->Gt,mul_one->FR
theorem zN(p:LI)(y:Iv):y.d p=wq p (L y.r*2^y.b) (2^(y.a+y.b))-wq p (L y.t*2^y.a) (2^(y.a+y.b)):=by
 have e1:=Hz p (L y.r) y.a y.b;have e2:=Hz p (L y.t) y.b y.a;rw[Gt y.b y.a] at e2;show Vd p _ _-Vd p _ _=_;rw[<- e1,<- e2,I3,I3];rfl
theorem eE(p:LI){y:Iv}(h:L y.r*2^y.b<L y.t*2^y.a):0<=y.d p:=by
 have:=Lz (p:=p) (Aw h);unfold Iv.d;omega
theorem One.d{p:LI}{y:Iv}(h:One p y):y.d p=1:=h.v
theorem ADw(s:LI){p:LI}{y:Iv}(h:L y.r*2^y.b<L y.t*2^y.a):(JJ p y).d s<=y.d s:=by
 obtain⟨b1,b2⟩:=Hj h;have v1:=Lz (p:=s) (Aw b1);have v2:=Lz (p:=s) (Aw b2);have hne:BI (L y.r) y.a (L y.t) y.b ≠ 0:=by rw[EE.2 h];decide
 unfold JJ;rw[if_neg hne];unfold Iv.d;split
 ·show Vd s (L y.r) y.a-Vd s (L (cn y.mn)) y.me<=_;rw[A6];have:Vd s (L y.t) y.b<=Vd s y.mn y.me:=v2;omega
 ·show Vd s (L (cn y.mn)) y.me-Vd s (L y.t) y.b<=_;rw[A6];have:Vd s y.mn y.me<=Vd s (L y.r) y.a:=v1;omega
theorem A7b{p q:LI}(hp:Y p ≠ [])(hq:Y q ≠ []){y:Iv}(h:One p y):0<=y.d (B5 (S p) q)/\y.d (B5 (S p) q)<=1:=by
 have h1:=iX hp hq (Bt (y.a+y.b)) (Aw (show L y.r*2^y.b<L y.t*2^y.a from h.lt));rw[<- zN,<- zN,h.d] at h1;exact⟨eE _ h.lt,h1⟩
theorem zO{rs:List Rn}(hg:∀ r∈rs,AU 5 r)(hn:rs.length<=9){r t:Rn}(hr:AU 300 r)(ht:AU 300 t){a b:Nat}(ha:a<=8192)(hb:b<=8192) :
  RQ 63 [sL pc rs,A2 r (a:Nat),A2 t (b:Nat)] (F O (ABz (N rs) (L r) a (L t) b)):=by
 have hch:=pC hg hn;have hnice:=Pw hg hn;have hlen:=Nx hg hn;have x1:=dN hnice hr a (by omega) (by omega);have x2:=dN hnice ht b (by omega) (by omega);have k:=A6l rs _ r t (a:Nat) (b:Nat) _ _ hch x1 x2;rw[WI (by omega)] at k;exact k
theorem Aku{p:LI}(hk:Kb 5 p)(hl:p.length<=9){y:Iv}{C m:Nat}(hx:IvOk C m y)(hm:m<=8192):RQ 136 [H (p.map cn).length (pc (p.map cn)),A2 y.r (y.a:Nat),A2 y.t (y.b:Nat)] (F O (y.d p)) /\
  RQ 63 [H (p.map cn).length (pc (p.map cn)),A2 y.r (y.a:Nat),A2 y.t (y.b:Nat)] (F O (y.d p)):=by
 have h1:=Zr (AR hk) (by rw[Q];exact hl) hx.gr hx.gt (a:=y.a) (b:=y.b) (by have:=hx.a;omega) (by have:=hx.b;omega);have h2:=zO (AR hk) (by rw[Q];exact hl) hx.gr hx.gt (a:=y.a) (b:=y.b) (by have:=hx.a;omega) (by have:=hx.b;omega);rw[s] at h1 h2;exact⟨h1,h2⟩
theorem qS{f g:LI}(hk:Kb 5 g)(hl:g.length<=9){y:Iv}{C m:Nat}(hx:IvOk C m y)(hm:m<=8192)(hlt:BI (L y.r) y.a (L y.t) y.b = -1):RQ 69 [Bw (f.map cn) y.r (y.a:Nat) y.t (y.b:Nat),H (g.map cn).length (pc (g.map cn))] (B (!decide (g.length<2)&&(y.d g==1))):=by
 by_cases c:g.length<2
 ·rw[decide_eq_true c];exact Ajy _ y.r y.t _ _ _ (by rw[decide_eq_true_eq,Q];omega)
 ·rw[decide_eq_false c];have h1:=Hx (hx.gr.mono (show 300<=600 by omega)) (hx.gt.mono (show 300<=600 by omega)) (a:=y.a) (b:=y.b) (by have:=hx.a;omega) (by have:=hx.b;omega);rw[hlt] at h1;exact Ajz _ y.r y.t _ _ _ (-1) _ (by rw[decide_eq_false_iff_not,Q];omega) rfl h1 (Aku hk hl hx hm).2
abbrev Dy:=Int × Nat
def dl(u v:Dy):Prop:=u.1*2^v.2<=v.1*2^u.2
def VD(p:LI)(u:Dy):Int:=Vd p u.1 u.2
theorem Dw{u v w:Dy}(h1:dl u v)(h2:dl v w):dl u w:=by
 unfold dl at *
 apply Cj (a:=2^v.2) _ (Bt v.2);have e1:=Ac h1 (Aw (Bt w.2));have e2:=Ac h2 (Aw (Bt u.2));have a1:u.1*2^w.2*2^v.2=u.1*2^v.2*2^w.2:=r ..;have a2:w.1*2^u.2*2^v.2=w.1*2^v.2*2^u.2:=r ..;have a3:v.1*2^u.2*2^w.2=v.1*2^w.2*2^u.2:=r ..;omega
theorem D_(u v:Dy):dl u v\/dl v u:=by unfold dl;omega
theorem H'(u:Dy):dl u u:=Dg _
theorem Fw(p:LI){u v:Dy}(h:dl u v):VD p v<=VD p u:=Lz h
def Iv.lo'(y:Iv):Dy:=(L y.r,y.a)
def Iv.hi'(y:Iv):Dy:=(L y.t,y.b)
theorem One.dlt{p:LI}{y:Iv}(h:One p y):dl y.lo' y.hi'/\¬ dl y.hi' y.lo':=⟨Aw h.lt,FD.2 h.lt⟩
theorem UD{p:LI}{y:Iv}(h:One p y)(m:Int)(c:Nat):sd p y m c<=0↔¬ dl (m,c) y.lo'/\VD p (m,c)<=VD p y.hi':=by
 unfold dl VD Iv.lo' Iv.hi';by_cases h1:m*2^y.a<=L y.r*2^c
 ·rw[P6 h1];exact⟨fun g=>absurd g (by decide),fun g=>absurd h1 g.1⟩
 ·by_cases h2:m*2^y.b<=L y.t*2^c
  ·rw[(NO h (by omega) h2).1];have:=Lz (p:=p) h2;simp only;constructor
   ·intro g;exact⟨h1,by omega⟩
   ·intro g;omega
  ·have:=Lz (p:=p) (x:=L y.t) (a:=y.b) (y:=m) (b:=c) (by omega);rw[VP h.lt (by omega)];exact⟨fun _=>⟨h1,this⟩,fun _=>by decide⟩
def iY(g p:LI):Prop:=∀ u v:Dy,dl u v->VD g u-VD g v<=VD p u-VD p v
theorem TB(p:LI)(u:Dy)(c:Nat):VD p u=wq p (u.1*2^c) (2^(u.2+c)):=by
 have:=Hz p u.1 u.2 c;unfold VD;rw[<- this,I3];rfl
theorem UE{p q:LI}(hp:Y p ≠ [])(hq:Y q ≠ []):iY (B5 (S p) q) p:=by
 intro u v h;have k:=iX hp hq (Bt (u.2+v.2)) (show u.1*2^v.2<=v.1*2^u.2 from h);rw[TB _ u v.2,TB _ u v.2,TB _ v u.2,TB _ v u.2,Gt v.2 u.2];exact k
theorem Z0{g:LI}(lg:BH g)(cg:w g=1)(tg:0<top g){s:LI}(ls:BH s)(cs:w s=1)(ts:0<top s)(h1:Dv g s)(h2:Dv s g)(hs:Y s ≠ [])(hg:Y g ≠ []):g=s:=by
 obtain⟨c,k,hc,hk⟩:=h1;have n1:=(Dv.length ⟨c,k,hc,hk⟩ hs).1;have n2:=(h2.length hg).1;rw[lg,ls] at n1 n2;have hk0:=Zz hc hk hs;have e:Y (As c s)=Y (Bs g k):=Ft fun x=>by rw[A0,hk x,AX]
 have e1:=IN hc s;have e2:=KT hg hk0;rw[<- e,e1,ls,lg] at e2;have g0:=Ak.2 hg;rw[lg] at g0;obtain⟨d,hd⟩:=On (g:=Y k) (by omega);have hd':∀ i,c*s.getD i 0=d*g.getD i 0:=by
  intro i;have k1:=Dq (p:=As c s) (q:=As d g) (fun x=>by
   rw[A0,A0,hk x,<- DR k,hd,AE];simp[Aa]) i
  rw[m,m] at k1;exact k1
 have hd0:d ≠ 0:=by
  intro z;have:=En (show BH (Y k) from Fs k) hk0;rw[hd,z] at this;exact this rfl
 have t1:=hd' (g.length-1);have hcd:0<c*d:=by
  have tg':0<g.getD (g.length-1) 0:=tg;have ts':0<s.getD (g.length-1) 0:=by rw[show g.length=s.length by omega];exact ts
  rcases Gd hc with gc | gc
  ·have:=HH gc ts';rw[t1] at this;rcases Gd hd0 with gd | gd
   ·exact A8d gc gd
   ·have:=Bp gd tg';omega
  ·have:=Bp gc ts';rw[t1] at this;rcases Gd hd0 with gd | gd
   ·have:=HH gd tg';omega
   ·exact Bp gc gd
 have hcc:=RP (xs:=As c s) (ys:=As d g) (fun i=>by rw[m,m];exact hd' i);rw[Jf,Jf,cs,cg,FR,FR] at hcc;have hcd2:c=d:=by
  rcases Gd hc with gc | gc
  ·rcases Gd hd0 with gd | gd
   ·omega
   ·have:=HH gc gd;omega
  ·rcases Gd hd0 with gd | gd
   ·have:=Hp gc gd;omega
   ·omega
 have hsame:∀ i,g.getD i 0=s.getD i 0:=fun i=>by
  have:=hd' i;rw[hcd2] at this;exact (FM hd0 this).symm
 have:=Gb hsame;rw[lg,ls] at this;exact this
theorem Z1{s t:LI}(hs:Y s ≠ [])(ht:Y t ≠ []):B5 s t=B5 t s:=by
 have g1:=Fi s t;have g2:=Fi t s;refine Z0 (D0 _ _) (Kl hs) (Km hs) (D0 _ _) (Kl ht) (Km ht) (g2.dv g1.2.1 g1.1) (g1.dv g2.2.1 g2.1) ?_ ?_
 ·rw[show Y (B5 t s)=_ from D0 _ _];exact Gi ht
 ·rw[show Y (B5 s t)=_ from D0 _ _];exact Gi hs
theorem Acu{p g:LI}{y:Iv}(h:One p y)(hd:iY g p){l u:Dy}(h1:dl y.lo' l)(h2:dl u y.hi')(h3:1<=VD g l-VD g u)(m:Int)(c:Nat):sd p y m c<=0↔¬ dl (m,c) l/\VD g (m,c)<=VD g u:=by
 rw[UD h];have hv:VD p y.lo'-VD p y.hi'=1:=h.v;have hlu:dl l u:=by
  rcases D_ l u with g1 | g1
  ·exact g1
  ·have:=Fw g g1;omega
 have v1:=Fw p h1;have v2:=Fw p h2;have v3:=hd l u hlu;generalize (m,c)=w;constructor
 ·intro ⟨a1,a2⟩;have a3:¬ dl w l:=fun z=>by have:=Fw p z;omega
  refine⟨a3,?_⟩;have a4:dl l w:=(D_ l w).resolve_right a3;rcases D_ u w with z | z
  ·exact Fw g z
  ·have:=hd w u z;have:=hd l w a4;omega
 ·intro ⟨a1,a2⟩;refine⟨fun z=>a1 (Dw z h1),?_⟩;have a4:dl l w:=(D_ l w).resolve_right a1;rcases D_ u w with z | z
  ·have:=Fw p z;omega
  ·have:=hd l w a4;omega
def MG(p:LI)(y:Iv)(q:LI)(x:Iv)(z:Int):Prop :=
 (z = -1/\∃ m c,sd p y m c<=0/\0<sd q x m c)\/(z=1/\∃ m c,sd q x m c<=0/\0<sd p y m c)\/(z=0/\∀ m c,sd p y m c<=0↔sd q x m c<=0)
theorem Z2{p q:LI}{y x:Iv}{z:Int}(h:MG p y q x z):MG q x p y (-z):=by
 rcases h with ⟨rfl,h⟩ | ⟨rfl,h⟩ | ⟨rfl,h⟩
 ·exact .inr (.inl ⟨rfl,h⟩)
 ·exact .inl ⟨rfl,h⟩
 ·exact .inr (.inr ⟨rfl,fun m c=>(h m c).symm⟩)
theorem Z3{p:LI}{y:Iv}(h:One p y){m m':Int}{c c':Nat}(h1:sd p y m c<=0)(h2:0<sd p y m' c'):¬ dl (m,c) (m',c'):=by
 intro g;rw[UD h] at h1;have h2:¬ sd p y m' c'<=0:=by omega
 rw[UD h] at h2;refine h2 ⟨fun z=>h1.1 (Dw g z),?_⟩;have:=Fw p g;omega
theorem MG.unique{p q:LI}{y x:Iv}(hp:One p y)(hq:One q x){z w:Int}(h1:MG p y q x z)(h2:MG p y q x w):z=w:=by
 have key:∀ m c m' c',sd p y m c<=0->0<sd q x m c->sd q x m' c'<=0->0<sd p y m' c'->False:=by
  intro m c m' c' a1 a2 a3 a4;rcases D_ (m,c) (m',c') with g | g
  ·exact Z3 hp a1 a4 g
  ·exact Z3 hq a3 a2 g
 rcases h1 with ⟨rfl,m,c,a1,a2⟩ | ⟨rfl,m,c,a1,a2⟩ | ⟨rfl,h1⟩ <;> rcases h2 with ⟨rfl,m',c',b1,b2⟩ | ⟨rfl,m',c',b1,b2⟩ | ⟨rfl,h2⟩
 ·rfl
 ·exact (key _ _ _ _ a1 a2 b1 b2).elim
 ·have:=(h2 m c).1 a1;omega
 ·exact (key _ _ _ _ b1 b2 a1 a2).elim
 ·rfl
 ·have:=(h2 m c).2 a1;omega
 ·have:=(h1 m' c').1 b1;omega
 ·have:=(h1 m' c').2 b1;omega
 ·rfl
theorem Xw{p:LI}{y:Iv}(h:One p y):sd p y (L y.t) y.b<=0:=by
 rw[UD h];exact⟨h.dlt.2,Dg _⟩
theorem iZ{p q:LI}{y x:Iv}(hp:One p y)(h:dl y.hi' x.lo'):MG p y q x (-1) := .inl ⟨rfl,L y.t,y.b,Xw hp,by have:=P6 (p:=q) h;show 0<sd q x y.hi'.1 y.hi'.2;rw [this];decide⟩
theorem Xx{p q:LI}{y x:Iv}(hq:One q x)(h:dl x.hi' y.lo'):MG p y q x 1 := .inr (.inl ⟨rfl,L x.t,x.b,Xw hq,by have:=P6 (p:=p) h;show 0<sd p y x.hi'.1 x.hi'.2;rw [this];decide⟩)
theorem A7c{p q g:LI}{y x:Iv}(hp:One p y)(hq:One q x)(d1:iY g p)(d2:iY g q){l u:Dy}(a1:dl y.lo' l)(a2:dl u y.hi')(b1:dl x.lo' l)(b2:dl u x.hi')(h:1<=VD g l-VD g u):MG p y q x 0 :=
 .inr (.inr ⟨rfl,fun m c=>by rw[Acu hp d1 a1 a2 h,Acu hq d2 b1 b2 h]⟩)
def IH(u v:Dy):Dy:=if u.1*2^v.2<v.1*2^u.2 then v else u
def H_(u v:Dy):Dy:=if v.1*2^u.2<u.1*2^v.2 then v else u
theorem Ow(u v:Dy):dl u (IH u v)/\dl v (IH u v)/\(IH u v=u\/IH u v=v):=by
 unfold IH;split
 ·rename_i g;exact⟨Aw g,H' _,.inr rfl⟩
 ·rename_i g;exact⟨H' _,by unfold dl;omega,.inl rfl⟩
theorem Ox(u v:Dy):dl (H_ u v) u/\dl (H_ u v) v/\(H_ u v=u\/H_ u v=v):=by
 unfold H_;split
 ·rename_i g;exact⟨Aw g,H' _,.inr rfl⟩
 ·rename_i g;exact⟨H' _,by unfold dl;omega,.inl rfl⟩
def Z4(g:LI)(y x:Iv):Int:=VD g (IH y.lo' x.lo')-VD g (H_ y.hi' x.hi')
theorem qT{p q g:LI}{y x:Iv}(hp:One p y)(hq:One q x)(d1:iY g p)(d2:iY g q)(h:1<=Z4 g y x):MG p y q x 0:=by
 obtain⟨a1,a2,_⟩:=Ow y.lo' x.lo';obtain⟨b1,b2,_⟩:=Ox y.hi' x.hi';exact A7c hp hq d1 d2 a1 b1 a2 b2 h
theorem Oy{p q:LI}{y x:Iv}(hp:One p y)(hq:One q x)(n m:Nat){z:Int}:MG p (stpN (S p) y n) q (stpN (S q) x m) z↔MG p y q x z:=by
 unfold MG;simp only[Rp hp,Rp hq]
theorem Rr{p:LI}(hp:Y p ≠ []):∃ (g:LI) (c d:Int),c ≠ 0/\d ≠ 0/\BH g/\g ≠ []/\F4 g p (At p) /\
  (∀ x,c*Aa p x=d*(Aa g x*Aa (S p) x))/\(S p).length+g.length=(Y p).length+1:=by
 obtain⟨la,h0,ca,ta,_,m,hm,n,hn,hpe⟩:=Rh hp;obtain⟨_,_,_,_,_,c,d,hc,hd,hcd⟩:=WE la h0 ca ta (S p) rfl;obtain⟨_,_,_,_,_,fl,hG,_⟩:=Ci hp;have hta:=By la h0;refine⟨B5 (j (prim p)) (At (j (prim p))),c*n,m*d,AS hc hn,AS hm hd,D0 _ _,Gi hta,hG,fun x => ?_,fl⟩;have e1:=hpe x;have e2:=hcd x;calc c*n*Aa p x=c*(n*Aa p x):=by grind
  _=m*(c*Aa (j (prim p)) x):=by rw[e1];grind
  _=_:=by rw[e2];grind
theorem qU{p g:LI}{c d:Int}(hd:d ≠ 0)(lg:BH g)(g0:g ≠ [])(hG:F4 g p (At p))(hcd:∀ x,c*Aa p x=d*(Aa g x*Aa (S p) x)):Dv (S g) (S p):=by
 have hg:=By lg g0;obtain⟨G,c2,d2,hc2,hd2,lG,G0,⟨_,_,b,u,v,hb,hbz⟩,h2,_⟩:=Rr hg;obtain⟨_,⟨e,k,he,hk⟩,_⟩:=hG;generalize S p=f at *
 generalize S g=H at *
 have hder:∀ x,c*Aa (At p) x=d*(Aa (At g) x*Aa f x+Aa g x*Aa (At f) x):=by
  intro x;have h1:=Ps (p:=p) (q:=Bs g f) (c:=c) (d:=d) (fun x=>by rw[AX];exact hcd x) x;rw[h1,MA (r:=Bs g f) (p:=g) (q:=f) (fun x=>AX g f x) x]
 have hgG:Y (Bs g G) ≠ []:=fun z=>by
  have h:=KT hg (By lG G0);rw[z,lg,lG] at h;have:=Ak.2 g0;have:=Ak.2 G0;simp at h;omega
 refine⟨c2*b*(e*d),As d2 (Ec (Bs u (As (e*d) f)) (Bs v (My (As c k) (As (e*d) (At f))))),AS (AS hc2 hb) (AS he hd),fun x => ?_⟩;have key:=T1 (p:=Bs g G) hgG (As (c2*b*(e*d)) f) (Bs H (As d2 (Ec (Bs u (As (e*d) f)) (Bs v (My (As c k) (As (e*d) (At f))))))) (fun x=>by
  simp only[AX,A0,BY,FC];have k1:=hder x;have k2:=hk x;have k3:=hbz x;have k4:=h2 x;generalize Aa (At p) x=P' at *
  generalize Aa (At g) x=g' at *
  generalize Aa (At f) x=f' at *
  generalize Aa f x=F at *
  generalize Aa g x=gv at *
  generalize Aa G x=Gv at *
  generalize Aa H x=Hv at *
  generalize Aa u x=U at *
  generalize Aa v x=V at *
  generalize Aa k x=K at *
  have a1:e*d*(g'*F)=gv*(c*K-e*d*f'):=by
   have:e*(c*P')=c*(gv*K):=by rw[<- k2];grind
   rw[k1] at this;grind
  have a2:b*Gv*(e*d*F)=gv*(U*(e*d*F)+V*(c*K-e*d*f')):=by
   rw[k3];have:V*g'*(e*d*F)=V*(e*d*(g'*F)):=by grind
   rw[Gw,this,a1];grind
  have a3:gv*Gv*(c2*b*(e*d)*F)=c2*gv*(b*Gv*(e*d*F)):=by grind
  rw[a3,a2,k4];grind) x
 rw[A0,AX] at key;exact key
theorem zP{p g:LI}(hp:Y p ≠ [])(hg:Y g ≠ [])(h:Dv (S g) (S p)){x y q:Int}(hq:0<q)(hxy:x<=y):wq g x q-wq g y q<=wq p x q-wq p y q:=by
 obtain⟨lg,cg,tg,g0,_⟩:=Ci hg;obtain⟨lf,_,_,f0,_⟩:=Ci hp;have n1:=By lg g0;have n2:=By lf f0;have hG:=Fi (S p) (S g);have e:B5 (S p) (S g)=S g:=Z0 (D0 _ _) (Kl n2) (Km n2) lg cg tg hG.2.1 (hG.dv h (Dv.refl _)) n1 (By (D0 _ _) (Gi n2));have k:=iX hp n1 hq hxy;rw[e] at k;have r:∀ z,wq (S g) z q=wq g z q:=fun z=>by unfold wq CJ;rw[Pu hg]
 rw[r,r] at k;exact k
theorem Acv{p:LI}(h:p.length<2)(x y q:Int):Hh p x q=Hh p y q:=by
 unfold Hh;rw[show p.length-1=0 by omega];rfl
theorem qV{p:LI}(hp:Y p ≠ []){x y q:Int}(hq:0<q)(hxy:x<=y)(hw:wq p x q=wq p y q)(hx:Hh (S p) x q ≠ 0)(hy:Hh (S p) y q ≠ 0):Ce (Hh (S p) y q)=Ce (Hh (S p) x q):=by
 by_cases hl:(S p).length<2
 ·rw[Acv hl x y]
 ·obtain⟨c,hc,hg⟩:=A0s p hp (by omega) (x:=x) (y:=y) hq;have nz:∀ z,Hh (S p) z q ≠ 0->Hh (S p) (c*z) (c*q) ≠ 0:=fun z g e=>by
   have k:=Mh (S p) z q c hc;rw[e] at k;exact g (CZ.1 k.symm)
  have hn:0<=c*(y-x):=AA (Aw hc) (by omega);have e:c*x+((c*(y-x)).toNat:Int)=c*y:=by
   rw[U9 hn,Fy];omega
  have k:=T7 (nz x hx) (c*(y-x)).toNat (fun j hj=>hg (c*x+j) (by omega) (by omega));rw[e] at k;have hW:wv 0 (DV (CJ p) (c*x) (c*q))-wv 0 (DV (CJ p) (c*y) (c*q))=0:=by
   have w1:=Ov p x q c hc;have w2:=Ov p y q c hc;unfold wq at w1 w2 hw;omega
  rcases k with ⟨_,k⟩ | ⟨k,_⟩
  ·rw[Mh _ _ _ _ hc,Mh _ _ _ _ hc] at k;rw[k];simp[hW]
  ·exact absurd k (nz y hy)
theorem Z5(a b:Int):Ce (a*b)=Ce a*Ce b:=by
 rcases G3 a 0 with g | g | g <;> rcases G3 b 0 with h | h | h
 ·rw[GH.2 (A8d g h),Gk.2 g,Gk.2 h];rfl
 ·rw[h,AG];show _=Ce a*0;rw[AG];rfl
 ·rw[Gk.2 (HH g h),Gk.2 g,GH.2 h];rfl
 ·rw[g,BU];show _=0*Ce b;rw[BU];rfl
 ·rw[g,BU];show _=0*Ce b;rw[BU];rfl
 ·rw[g,BU];show _=0*Ce b;rw[BU];rfl
 ·rw[Gk.2 (Hp g h),GH.2 g,Gk.2 h];rfl
 ·rw[h,AG];show _=Ce a*0;rw[AG];rfl
 ·rw[GH.2 (Bp g h),GH.2 g,GH.2 h];rfl
theorem   A1g : ∀ (n : Nat) {p : List Int}, p.length <= n ->   BH p -> p ≠ [] -> ∀ {x y q : Int}, 0 < q -> x <= y -> wq p x q = wq p y q -> Hh p x q ≠ 0 -> Hh p y q ≠ 0 ->  Ce (Hh p y q) =  Ce (Hh p x q)
  | 0, p, hn, _, h0, _, _, _, _, _, _, _, _ => absurd (                 Ak.2 h0) (by omega)
  | n + 1, p, hn, lp, h0, x, y, q, hq, hxy, hw, hx, hy => by
    by_cases hl : p.length < 2
    · rw [   Acv hl x y]
    · have hp :=           By lp h0
      obtain ⟨g, c, d, hc, hd, lg, g0, hG, hcd, _⟩ :=         Rr hp
      have dv :=      qU hd lg g0 hG hcd
      obtain ⟨lf, _, _, f0, _⟩ :=       Ci hp
      have hg :=           By lg g0
      have pl :=          P1 lp (by omega)
      have gl := (hG.2.1.length (by intro z; have : (    Y (  At p)).length = 0 := by rw [z]; rfl
                                    rw [show     Y (  At p) =   At p from        Fs _] at this; omega)).1
      rw [lg, show     Y (  At p) =   At p from        Fs _] at gl
      have hpr := fun z =>      Rq hc hd lp lg lf g0 f0 hcd z q
      have m1 :=        zP hp hg dv hq hxy
      have m2 : wq g y q <= wq g x q :=         KX g hq hxy
      have gx : ∀ z, Hh p z q ≠ 0 -> Hh g z q ≠ 0 /\ Hh (    S p) z q ≠ 0 := fun z hz => by
        have k := hpr z
        have : d * (Hh g z q * Hh (    S p) z q) ≠ 0 := by rw [<- k]; exact              AS hc hz
        exact ⟨fun e => this (by rw [e,           BU,           AG]), fun e => this (by rw [e,           AG,           AG])⟩
      have a1 :=   A1g n (by omega) lg g0 hq hxy (by omega) (gx x hx).1 (gx y hy).1
      have a2 :=         qV hp hq hxy hw (gx x hx).2 (gx y hy).2
      have s : ∀ z,  Ce c *  Ce (Hh p z q) =  Ce d * ( Ce (Hh g z q) *  Ce (Hh (    S p) z q)) := fun z => by rw [<-      Z5, hpr z,      Z5,      Z5]
      have e :  Ce c *  Ce (Hh p y q) =  Ce c *  Ce (Hh p x q) := by rw [s, s, a1, a2]
      exact                        FM (fun z => hc (      CZ.1 z)) e
theorem        Z6 : ∀ (n : Nat) {p : List Int}, p.length <= n ->   BH p -> p ≠ [] -> ∀ {x q : Int}, Hh p x q = 0 -> Hh (    S p) x q = 0
  | 0, p, hn, _, h0, _, _, _ => absurd (                 Ak.2 h0) (by omega)
  | n + 1, p, hn, lp, h0, x, q, hz => by
    have hp :=           By lp h0
    by_cases hl : p.length < 2
    · exfalso
      have h1 :=       En lp h0
      apply h1
      rw [show p.length - 1 = 0 by have :=                  Ak.2 h0; omega]
      have e : Hh p x q = p.getD 0 0 := by unfold Hh; rw [show p.length - 1 = 0 by omega]; rfl
      omega
    · obtain ⟨g, c, d, hc, hd, lg, g0, hG, hcd, _⟩ :=         Rr hp
      obtain ⟨c', k, hc', hk⟩ :=      qU hd lg g0 hG hcd
      obtain ⟨lf, _, _, f0, _⟩ :=       Ci hp
      have hg :=           By lg g0
      have pl :=          P1 lp (by omega)
      have gl := (hG.2.1.length (by intro z; have : (    Y (  At p)).length = 0 := by rw [z]; rfl
                                    rw [show     Y (  At p) =   At p from        Fs _] at this; omega)).1
      rw [lg, show     Y (  At p) =   At p from        Fs _] at gl
      have e :=      Rq hc hd lp lg lf g0 f0 hcd x q
      rw [hz,           AG] at e
      rcases              EH.1 ((             EH.1 e.symm).resolve_left hd) with z | z
      · have ih :=        Z6 n (by omega) lg g0 z
        obtain ⟨lh, _, _, hh0, _⟩ :=       Ci hg
        have hk0 :=      Zz hc' hk (          By lf f0)
        have e2 :=      Rq (d := 1) hc' (by decide) lf lh (       Hg k) hh0 hk0 (fun x => by rw [         Dt,         DR]; exact hk x) x q
        rw [ih,           BU,           AG] at e2
        exact (             EH.1 e2).resolve_left hc'
      · exact z
theorem SI(p:LI){u:Dy}{E:Nat}(h:u.2<=E):VD p u=wq p (u.1*2^(E-u.2)) (2^E):=by
 rw[TB p u (E-u.2),show u.2+(E-u.2)=E by omega]
theorem qW{u v:Dy}{E:Nat}(hu:u.2<=E)(hv:v.2<=E):dl u v↔u.1*2^(E-u.2)<=v.1*2^(E-v.2):=by
 have e1:(2:Int)^E=2^(E-u.2)*2^u.2:=by rw[<- BB];congr 1;omega
 have e2:(2:Int)^E=2^(E-v.2)*2^v.2:=by rw[<- BB];congr 1;omega
 have h1:=Bt u.2;have h2:=Bt v.2;have h3:=Bt E;have a1:u.1*2^v.2*2^E=u.1*2^(E-u.2)*(2^u.2*2^v.2):=by rw[e1];grind
 have a2:v.1*2^u.2*2^E=v.1*2^(E-v.2)*(2^u.2*2^v.2):=by rw[e2];grind
 unfold dl;constructor
 ·intro g;have:=Ac g (Aw h3);rw[a1,a2] at this;exact Cj this (Bp h1 h2)
 ·intro g;have:=Ac g (Aw (Bp h1 h2));rw[<- a1,<- a2] at this;exact Cj this h3
theorem H0{u v:Dy}:BI u.1 u.2 v.1 v.2<=0↔dl u v:=by unfold dl BI CX; (repeat' split) <;> omega
theorem UF(s:LI){p:LI}{y:Iv}(h:One p y){m:Nat}:∀ k,(stpN (S p) y (m+k)).d s<=(stpN (S p) y m).d s
 | 0=>Dg _
 | k+1=>FJ (ADw s (h.halves (m+k)).lt) (UF s h k)
theorem A1h{p:LI}{y:Iv}(h:One p y):dl y.lo' (JJ (S p) y).lo'/\dl (JJ (S p) y).hi' y.hi':=by
 obtain⟨b1,b2⟩:=Hj h.lt;have hne:BI (L y.r) y.a (L y.t) y.b ≠ 0:=by rw[EE.2 h.lt];decide
 unfold JJ;rw[if_neg hne];split
 ·refine⟨H' _,?_⟩;show dl (L (cn y.mn),y.me) _;rw[A6];exact Aw b2
 ·refine⟨?_,H' _⟩;show dl _ (L (cn y.mn),y.me);rw[A6];exact Aw b1
theorem Oz{p:LI}{y:Iv}(h:One p y):∀ n,dl y.lo' (stpN (S p) y n).lo'/\dl (stpN (S p) y n).hi' y.hi'
 | 0=>⟨H' _,H' _⟩
 | n+1=>by
  obtain⟨a,b⟩:=Oz h n;obtain⟨c,d⟩:=A1h (h.halves n);exact⟨Dw a c,Dw d b⟩
theorem Akv(g:LI){y x y' x':Iv}(a:dl y.lo' y'.lo')(b:dl y'.hi' y.hi')(c:dl x.lo' x'.lo')(d:dl x'.hi' x.hi'):Z4 g y' x'<=Z4 g y x:=by
 obtain⟨a1,a2,_⟩:=Ow y'.lo' x'.lo';obtain⟨_,_,a3⟩:=Ow y.lo' x.lo';obtain⟨b1,b2,_⟩:=Ox y'.hi' x'.hi';obtain⟨_,_,b3⟩:=Ox y.hi' x.hi';have k1:dl (IH y.lo' x.lo') (IH y'.lo' x'.lo'):=by
  rcases a3 with e | e <;> rw[e]
  ·exact Dw a a1
  ·exact Dw c a2
 have k2:dl (H_ y'.hi' x'.hi') (H_ y.hi' x.hi'):=by
  rcases b3 with e | e <;> rw[e]
  ·exact Dw b1 b
  ·exact Dw b2 d
 have:=Fw g k1;have:=Fw g k2;unfold Z4;omega
def eF(f g:LI)(y x:Iv)(i:Nat):Bool:=decide (BI (L (stpN f y i).t) (stpN f y i).b (L (stpN g x i).r) (stpN g x i).a<=0) || decide (BI (L (stpN g x i).t) (stpN g x i).b (L (stpN f y i).r) (stpN f y i).a<=0)
theorem WR{f g:LI}{y x:Iv}{i:Nat}(h:eF f g y x i=false):¬ dl (stpN f y i).hi' (stpN g x i).lo'/\¬ dl (stpN g x i).hi' (stpN f y i).lo':=by
 unfold eF at h;generalize stpN f y i=u at *
 generalize stpN g x i=w at *
 rw[ACk,decide_eq_false_iff_not,decide_eq_false_iff_not] at h;exact⟨fun z=>h.1 (H0.2 z),fun z=>h.2 (H0.2 z)⟩
theorem MH{p:LI}(hp:Y p ≠ []):Y (S p) ≠ []:=by
 have h:=Ci hp;exact By h.1 h.2.2.2.1
theorem TC{p q:LI}(hp:Y p ≠ [])(h:(B5 (S p) q).length<2)(u v:Dy):VD (B5 (S p) q) u=VD (B5 (S p) q) v:=by
 have gn:Y (B5 (S p) q) ≠ []:=by rw[show Y (B5 (S p) q)=_ from D0 _ _];exact Gi (MH hp)
 obtain⟨lG,_,_,_,dG,_⟩:=Ci gn;have h4:=(dG.length gn).1;rw[lG,show Y (B5 (S p) q)=_ from D0 _ _] at h4;exact VJ (by omega) _ _ _ _
section
abbrev jA(p q:LI)(z:Int)(y x:Iv)(i:Nat):Aj:=U7 z (p.map cn) y.r (y.a:Nat) y.t (y.b:Nat) (q.map cn) x.r (x.a:Nat) x.t (x.b:Nat) (i:Nat)
abbrev bS(p q:LI)(z:Int)(y x:Iv)(i:Nat):Aj:=Kp z (p.map cn) y.r (y.a:Nat) y.t (y.b:Nat) (q.map cn) x.r (x.a:Nat) x.t (x.b:Nat) (i:Nat)
abbrev cS(p q:LI)(z:Int)(y x:Iv)(i:Nat):Aj:=T5 z (p.map cn) y.r (y.a:Nat) y.t (y.b:Nat) (q.map cn) x.r (x.a:Nat) x.t (x.b:Nat) (i:Nat)
end
end Go.Proofs.YtajompaehjkgkaaGreat
namespace Go.Ai
open Classical renaming byContradiction->A1
open Decidable renaming decide->A
open Int renaming le_of_lt->Aw,le_of_mul_le_mul_left->F5,le_trans->FJ,mul_le_mul->EO,mul_le_mul_of_nonneg_right->Ac,mul_lt_mul_of_pos_left->It,mul_nonneg->AA,mul_pos->Bp,mul_right_comm->r,natAbs->E,natAbs_mul->BS,natCast_mul->DI,natCast_pow->Dp,ofNat_lt->Ans,pow_pos->G2
open List renaming all_eq_true->Cf,countP_eq_length_filter->I9,length_eq_countP_add_countP->Aax,length_pos_iff->Ak,length_take->AD,mem_filter->ES,mem_of_mem_take->BT,mem_range->JK,range->Aq,take_sublist->AEm
open Nat renaming add_sub_cancel->Ie,blt->F6,eq_zero_or_pos->Fo,le_mul_of_pos_left->aR,le_mul_of_pos_right->C7,le_of_not_lt->PI,le_refl->Ao,le_trans->Bm,lt_of_lt_of_le->CG,mul_assoc->Fm,mul_comm->CY,mul_le_mul_left->z,mul_zero->jN,pow_add->De,pow_le_pow_right->BM
theorem zQ{t:LI}(ht:Y t ≠ [])(hl:t.length<=8):∃ l:LI,l.Nodup/\l.length=6/\∀ x∈l,x.natAbs<=6/\Aa t x ≠ 0:=by
 obtain⟨L,hnd,hmem,hlen⟩:∃ L:LI,L.Nodup/\(∀ x∈L,x.natAbs<=6)/\L.length=13:=⟨[-6,-5,-4,-3,-2,-1,0,1,2,3,4,5,6],by decide,by decide,rfl⟩;have hsum:=Aax (fun x=>decide (Aa t x=0)) (l:=L);rw[I9,I9] at hsum;have hA:(L.filter fun x=>decide (Aa t x=0)).length<=7:=by
  apply PI;intro h;apply ht;rw[Dn];exact YS 8 t (L.filter fun x=>decide (Aa t x=0)) hl (hnd.filter _) (fun x hx=>by simpa using (ES.1 hx).2) (by omega)
 refine⟨(L.filter fun x=>decide ¬ (A (Aa t x=0))=true).take 6,(hnd.filter _).sublist (AEm _ _),?_,?_⟩
 ·rw[AD];omega
 ·intro x hx;obtain⟨h1,h2⟩:=ES.1 (BT hx);exact⟨hmem x h1,by simpa using h2⟩
theorem A7d{t g k:LI}{P:Nat}(ht:Y t ≠ [])(hl:t.length<=8)(hg:g.length<=6)(hP:∀ i,(t.getD i 0).natAbs<=P)(h:∀ x,Aa t x=Aa g x*Aa k x):∀ i,(g.getD i 0).natAbs<=P*7^8*15^5:=by
 obtain⟨l,l1,l2,l3⟩:=zQ ht hl;exact WD (R:=6) 5 g l (P*7^8) hg l1 l2 (fun x hx=>by
  obtain⟨a,b⟩:=l3 x hx;refine⟨a,?_⟩;have h2:=V5 (R:=6) t x hP a;have h3:=congrArg E (h x);rw[BS] at h3;have h4:1<=(Aa k x).natAbs:=by
   rcases Fo (Aa k x).natAbs with g | g
   ·rw[g,jN] at h3;omega
   ·exact g
  have h5:=C7 (Aa g x).natAbs h4;have h6:P*7^t.length<=P*7^8:=z _ (BM (by decide) hl);exact Bm (Bm h5 (Nat.le_of_eq h3.symm)) (Bm h2 h6)) (fun x _ y _ hne=>by omega)
def UG(n P:Nat):Nat:=if 6<=n then 8*P else P*7^8*15^5
theorem UH(n P:Nat):UG n P<=P*7^8*15^5/\P<=UG n P:=by
 unfold UG;have h1:8*P<=P*7^8*15^5:=by
  rw[Fm,CY 8 P];exact z _ (by decide)
 split <;> omega
theorem eG{p f:LI}(hp:Y p ≠ [])(hl:p.length<=8){P:Nat}(hP:∀ i,(p.getD i 0).natAbs<=P)(lf:BH f)(cf:w f=1)(hd:Dv f p):(∀ i,(f.getD i 0).natAbs<=UG (f.length-1) P)/\f.length<=p.length:=by
 have h1:=(hd.length hp).1;have hft:=(hd.length hp).2;have h2:=BA p;rw[lf] at h1;refine⟨?_,by omega⟩;obtain⟨c,k,hc,hk⟩:=hd;obtain⟨k',hk'⟩:=Rg hc cf hk;have hk0:Y k' ≠ []:=by
  intro z;have:Y p=[]:=by
   rw[Dn];have:=Dq (p:=p) (q:=[]) (fun x=>by rw[hk' x,<- DR k',z];simp[Aa]);intro i;rw[this i];rfl
  exact hp this
 have hlen:=KT hft hk0;have e:=Ft (p:=p) (q:=Bs f k') (fun x=>by rw[hk' x,AX]);rw[<- e,lf] at hlen;have hkp:=Ak.2 hk0;have hk2:∀ x,Aa p x=Aa f x*Aa (Y k') x:=fun x=>by rw[hk' x,DR]
 obtain⟨_,c1⟩:=UH (f.length-1) P;by_cases h1:(Y k').length=1
 ·obtain⟨d,hd⟩:=On h1;have hd0:d ≠ 0:=by
   intro z;have:=En (Hg k') hk0;rw[hd,z] at this;exact this rfl
  have hc2:=Dq (p:=p) (q:=As d f) (fun x=>by rw[hk2 x,hd,A0];simp only[Aa];grind);intro i;have h3:=hP i;rw[hc2 i,m,BS] at h3;exact Bm (Bm (aR _ (by omega)) h3) c1
 ·unfold UG;split
  ·have h2:(Y k').length=2:=by omega
   obtain⟨v,u,hvu⟩:∃ v u,Y k'=[v,u]:=by
    match hm:Y k',h2 with
    | [v,u],_=>exact⟨v,u,rfl⟩
   have hu:u ≠ 0:=by
    have:=En (Hg k') hk0;rw[hvu] at this;exact this
   exact zI (f:=f) (t:=p) (N:=7) hu (by omega) hP (fun x=>by rw[hk2 x,hvu])
  ·exact A7d hp hl (by omega) hP hk'
structure Enp (p:List Int):Prop where
 ne:Y p ≠ []
 len:p.length<=8
 co:∀ i,(p.getD i 0).natAbs<=2^113
theorem ADx:∀ e,e=744->∀ n,2<=n->n<=7->Mz n (UG n (2^113)) 1<4^e:=by
 intro e he n h2 h8;have key:((Aq 6).all fun n=>F6 (Mz (n+2) (UG (n+2) (2^113)) 1) (4^e))=true:=by
  subst he;kernel_rfl
 rw[Cf] at key;have k2:=key (n-2) (JK.2 (by omega));rw[show n-2+2=n by omega] at k2;rwa [Nat.blt_eq] at k2
def jB(m n:Nat):Nat:=if 6<=m/\6<=n then 8*2^113 else 2^113*7^8*15^5
theorem A7e(m n:Nat):UG m (2^113)<=jB m n/\UG n (2^113)<=jB m n/\0<jB m n:=by
 have a1:=UH m (2^113);have a2:=UH n (2^113);have a3:0<2^113*7^8*15^5:=by decide
 unfold jB;split
 ·rename_i h;unfold UG;rw[if_pos h.1,if_pos h.2];exact⟨Ao _,Ao _,by decide⟩
 ·exact⟨a1.1,a2.1,a3⟩
theorem A7f:∀ e,e=1920->∀ m,m<=7->∀ n,n<=7->VQ m n (jB m n) 1<2^e:=by
 intro e he m hm n hn;have key:((Aq 8).all fun m=>(Aq 8).all fun n=>F6 (VQ m n (jB m n) 1) (2^e))=true:=by
  subst he;kernel_rfl
 rw[Cf] at key;have k1:=key m (JK.2 (by omega));rw[Cf] at k1;have k2:=k1 n (JK.2 (by omega));rwa [Nat.blt_eq] at k2
theorem Enp.free{p g:LI}(hp:Enp p)(hg:Y g ≠ [])(hd:Dv (S g) (S p)):(∀ i,((S g).getD i 0).natAbs<=UG ((S g).length-1) (2^113))/\(S g).length<=8:=by
 obtain⟨lg,cg,_⟩:=Ci hg;obtain⟨_,_,_,_,dp,_⟩:=Ci hp.ne;obtain⟨a,b⟩:=eG hp.ne hp.len hp.co lg cg (hd.trans dp);exact⟨a,by have:=hp.len;omega⟩
theorem Enp.one{p:LI}(hp:Enp p){x y q:Int}(hq:0<q)(hxy:x<=y)(hx:0<=x)(hy:y<=q){k:Nat}(hk:744<=k)(hw:(y-x)*2^k<=q):wq p x q-wq p y q<=1:=by
 apply A1;intro hn;unfold wq at hn;have h3:3<=(S p).length:=by
  apply A1;intro g;have a1:=Akr (p:=p) (by omega) x q;have a2:=MF (DV (CJ p) y q) 0;omega
 obtain⟨n,hn1⟩:∃ n,(S p).length=n+1:=⟨(S p).length-1,by omega⟩;obtain⟨hb,hl⟩:=hp.free hp.ne (Dv.refl _);rw[hn1,Ie] at hb;have hA0:0<UG n (2^113):=CG (by decide) (UH n (2^113)).2;have hs:=zH hp.ne hn1 (by omega) hb hA0 (X:=1) (by decide) hq hxy (by show -(1*q)<=x;omega) (by show y<=1*q;omega) (by omega);obtain⟨e,he⟩:∃ e,e=744:=⟨_,rfl⟩;have num:=ADx e he n (by omega) (by omega);rw[<- he] at hk;generalize Mz n (UG n (2^113)) 1=M at *
 have hK:(0:Int)<2^k:=G2 (by decide);have num2:(M:Int)<2^k*2^k:=by
  have h4:M<2^k*2^k:=by
   rw[<- De];have:(4:Nat)^e=2^(e+e):=by rw[show (4:Nat)=2*2 from rfl,Nat.mul_pow,<- De]
   rw[this] at num;exact CG num (BM (by decide) (by omega))
  have h5:=Ans.2 h4;rw[DI,Dp] at h5;exact h5
 have hsq:=EO hw hw (AA (by omega) (Aw hK)) (Aw hq);have h1:=Ac hs (Aw (Bp hK hK));have e1:(y-x)*(y-x)*(M:Int)*(2^k*2^k)=((y-x)*2^k)*((y-x)*2^k)*(M:Int):=by grind
 rw[e1] at h1;have h2:=FJ h1 (Ac hsq (show (0:Int)<=(M:Int) by omega));have h3:=F5 h2 (Bp hq hq);omega
theorem Enp.meet{p q:LI}(hp:Enp p)(hq:Y q ≠ [])(b2:∀ i,((S q).getD i 0).natAbs<=UG ((S q).length-1) (2^113))(l2:(S q).length<=8){x y Q:Int}(hQ:0<Q)(hxy:x<=y)(hx:0<=x)(hy:y<=Q){k:Nat}(hk:1920<=k)(hw:(y-x)*2^k<=Q)(h1:1<=wq p x Q-wq p y Q)(h2:1<=wq q x Q-wq q y Q) :
  1<=wq (B5 (S p) q) x Q-wq (B5 (S p) q) y Q:=by
 obtain⟨s,hs⟩:=eB hp.ne hq;obtain⟨c,d,hc,hd,hcd⟩:=hs.mul;have hm:=dZ hc hd hp.ne hs.gz hs.nz hcd hs.one hQ hxy;apply A1;intro hn;have hs1:1<=wq s x Q-wq s y Q:=by omega
 obtain⟨b1,l1⟩:=hp.free hs.nz hs.dv;have l3:=qR hs1;have l4:=qR h2;obtain⟨f1,f2,f3⟩:=A7e ((S s).length-1) ((S q).length-1);have ap:=qO (X:=1) hs.nz hq hs.two (m:=(S s).length-1) (n:=(S q).length-1) (A:=jB ((S s).length-1) ((S q).length-1)) (by omega) (by omega) (by omega) (fun i=>Bm (b1 i) f1) (fun i=>Bm (b2 i) f2) f3 hQ hxy (by show -(1*Q)<=x;omega) (by show y<=1*Q;omega) hs1 h2;obtain⟨e,he,num⟩:∃ e,e<=k/\VQ ((S s).length-1) ((S q).length-1) (jB ((S s).length-1) ((S q).length-1)) 1<2^e:=⟨1920,hk,A7f _ rfl _ (by omega) _ (by omega)⟩;generalize VQ ((S s).length-1) ((S q).length-1) (jB ((S s).length-1) ((S q).length-1)) 1=M at *
 have hK:(0:Int)<2^k:=G2 (by decide);have num2:(M:Int)<2^k:=by
  have h3:M<2^k:=CG num (BM (by decide) he);have h4:=Ans.2 h3;rw[Dp] at h4;exact h4
 have e1:=Ac ap (Aw hK);have e2:=Ac hw (show (0:Int)<=(M:Nat) by omega);have e3:=It num2 hQ;have e4:(y-x)*(M:Nat)*2^k=(y-x)*2^k*(M:Nat):=r ..;omega
theorem Enp.meet_free{p q:LI}(hp:Enp p)(hq:Enp q){x y Q:Int}(hQ:0<Q)(hxy:x<=y)(hx:0<=x)(hy:y<=Q){k:Nat}(hk:1920<=k)(hw:(y-x)*2^k<=Q)(h1:1<=wq p x Q-wq p y Q)(h2:1<=wq q x Q-wq q y Q) :
  1<=wq (B5 (S p) (S q)) x Q-wq (B5 (S p) (S q)) y Q:=by
 obtain⟨b2,l2⟩:=hq.free hq.ne (Dv.refl _);have hf:=Ci hq.ne;have e:S (S q)=S q:=Pu hq.ne;have r:∀ z,wq (S q) z Q=wq q z Q:=fun z=>by unfold wq CJ;rw[e]
 exact hp.meet (By hf.1 hf.2.2.2.1) (by rw[e];exact b2) (by rw[e];exact l2) hQ hxy hx hy hk hw h1 (by rw[r,r];exact h2)
theorem A1i:2^113*7^8*15^5<=2^156:=by decide
theorem Enp.div{p g:LI}(hp:Enp p)(lg:BH g)(cg:w g=1)(hd:Dv g p):(∀ i,(g.getD i 0).natAbs<=2^156)/\g.length<=8:=by
 obtain⟨a,b⟩:=eG hp.ne hp.len hp.co lg cg hd;exact⟨fun i=>Bm (a i) (Bm (UH _ _).1 A1i),by have:=hp.len;omega⟩
end Go.Ai
namespace Go.Proofs.YtajompaehjkgkaaGreat
open Go.Ai
set_option maxRecDepth 100000
open Bool renaming false_eq_true->B_,or_eq_true->UX
open Classical renaming byContradiction->A1
open Decidable renaming decide->A
open Go.Ai.AV renaming agg->o,bool->B,fresh->P,int->F,sl->H,tup->Ar
open Go.Ai.Reg renaming box->Ay,own->X,val->C
open Go.IntKind renaming i64->O,wrap->I
open Go.Proofs.Tryz renaming prog->Mv
open Int renaming add_mul->Gw,le_of_lt->Aw,le_of_mul_le_mul_right->Cj,le_refl->Dg,lt_of_mul_lt_mul_right->Dd,mul_add->CT,mul_assoc->AK,mul_comm->AE,mul_eq_zero->EH,mul_le_mul_of_nonneg_left->Al,mul_le_mul_of_nonneg_right->Ac,mul_nonneg->AA,mul_pos->Bp,mul_right_comm->r,natAbs->E,natAbs_mul->BS,natCast_add->LN,natCast_pow->Dp,neg_mul->NM,not_le->FD,ofNat_le->ACi,pow_add->BB,pow_succ->A7,sub_mul->A3l,sub_self->Sg,tdiv->Ax,tmod->AB,toNat->D,toNat_natCast->R,zero_mul->BU
open List renaming all_eq_true->Cf,append_assoc->L0,drop->g,drop_drop->Lg,drop_eq_getElem_cons->B2,drop_length->Ev,drop_zero->Da,eq_nil_of_length_eq_zero->A5,getD_eq_getElem?_getD->Z,getElem?_eq_getElem->Ad,getElem?_map->Cs,getElem_mem->AM,getElem_of_mem->Hq,length->Bl,length_append->AY,length_cons->B0,length_drop->CV,length_filter_le->ACh,length_map->Q,length_nil->HI,length_pos_iff->Ak,length_set->Ba,length_take->AD,map_append->Ez,map_cons->Cx,map_set->Qc,map_take->PZ,mem_append->Bn,mem_append_left->Ff,mem_append_right->EM,mem_cons->BD,mem_cons_of_mem->AT,mem_cons_self->AO,mem_filter->ES,mem_map->Cn,mem_of_mem_drop->Eh,mem_of_mem_take->BT,mem_singleton->C3,pairwise_append->sB,pairwise_cons->Gz,pairwise_iff_getElem->A3q,set_eq_take_append_cons_drop->Qb,take->Bx,take_append_drop->JR,take_length->DP,take_of_length_le->CS,take_subset_take_left->ZK,take_succ_cons->AEe,take_succ_eq_append_getElem->EV
open Nat renaming add_comm->Gt,le_refl->Ao,le_succ->A3j,lt_trichotomy->TM,not_lt_zero->NR,pow_add->De,pow_le_pow_right->BM,zero_add->Cb,zero_le->AN
noncomputable section
structure W1 (k:Nat) (x:Iv):Prop where
 lt:L x.r*2^x.b<L x.t*2^x.a
 w:(L x.t*2^x.a-L x.r*2^x.b)*2^k<=2^x.a*2^x.b
 lo:0<=L x.r
 hi:L x.t<=2^x.b
 a:x.a<=k
 b:x.b<=k
theorem W1.halves{k x}(h:W1 k x):W1 (k+1) x.lf/\W1 (k+1) x.rg:=by
 have hA:=Bt x.a;have hB:=Bt x.b;have hK:=Bt k;have hE:=Bt x.me;have hw:=h.w;have hlo:=h.lo;have hhi:=h.hi;have ha:=h.a;have hb:=h.b;obtain⟨m1,m2⟩:=Hj h.lt;have m1:L x.r*2^x.me<x.mn*2^x.a:=m1;have m2:x.mn*2^x.b<L x.t*2^x.me:=m2;have hv:x.mn*(2*(2^x.a*2^x.b))=(L x.r*2^x.b+L x.t*2^x.a)*2^x.me:=A0v (L x.r) x.a (L x.t) x.b;have hme:x.me<=max x.a x.b+1:=Pz;have eK:(2:Int)^(k+1)=2*2^k:=by rw[A7,AE]
 constructor
 ·refine⟨?_,?_,hlo,?_,by show x.a<=_;omega,by show x.me<=_;omega⟩
  ·show L x.r*2^x.me<L (cn x.mn)*2^x.a;rw[A6];exact m1
  ·show (L (cn x.mn)*2^x.a-L x.r*2^x.me)*2^(k+1)<=2^x.a*2^x.me;rw[A6,eK];generalize (2:Int)^k=K at *
   generalize (2:Int)^x.a=A at *
   generalize (2:Int)^x.b=B at *
   generalize (2:Int)^x.me=E at *
   apply Cj (a:=B) _ hB;have e1:(x.mn*A-L x.r*E)*(2*K)*B=(x.mn*(2*(A*B))-2*(L x.r*B*E))*K:=by grind
   have e2:((L x.r*B+L x.t*A)*E-2*(L x.r*B*E))*K=(L x.t*A-L x.r*B)*K*E:=by grind
   rw[e1,hv,e2];have:=Ac hw (Aw hE);have e3:A*B*E=A*E*B:=by grind
   omega
  ·show L (cn x.mn)<=2^x.me;rw[A6];apply Cj (a:=2^x.b) _ hB;have e1:=Ac hhi (Aw hE);have e2:(2:Int)^x.b*2^x.me=2^x.me*2^x.b:=AE _ _;omega
 ·refine⟨?_,?_,?_,hhi,by show x.me<=_;omega,by show x.b<=_;omega⟩
  ·show L (cn x.mn)*2^x.b<L x.t*2^x.me;rw[A6];exact m2
  ·show (L x.t*2^x.me-L (cn x.mn)*2^x.b)*2^(k+1)<=2^x.me*2^x.b;rw[A6,eK];generalize (2:Int)^k=K at *
   generalize (2:Int)^x.a=A at *
   generalize (2:Int)^x.b=B at *
   generalize (2:Int)^x.me=E at *
   apply Cj (a:=A) _ hA;have e1:(L x.t*E-x.mn*B)*(2*K)*A=(2*(L x.t*A*E)-x.mn*(2*(A*B)))*K:=by grind
   have e2:(2*(L x.t*A*E)-(L x.r*B+L x.t*A)*E)*K=(L x.t*A-L x.r*B)*K*E:=by grind
   rw[e1,hv,e2];have:=Ac hw (Aw hE);have e3:A*B*E=E*B*A:=by grind
   omega
  ·show 0<=L (cn x.mn);rw[A6];apply Cj (a:=2^x.a) _ hA;have e1:=AA hlo (Aw hE);omega
theorem W1.once{k x}(h:W1 k x)(p:LI):W1 (k+1) (JJ p x):=by
 obtain⟨h1,h2⟩:=h.halves;have hne:BI (L x.r) x.a (L x.t) x.b ≠ 0:=by rw[EE.2 h.lt];decide
 unfold JJ;rw[if_neg hne];split
 ·exact h1
 ·exact h2
theorem W1.stpN{k x}(h:W1 k x)(p:LI):∀ n,W1 (k+n) (stpN p x n)
 | 0=>h
 | n+1=>(W1.stpN h p n).once p
theorem A7g{p}(hp:Enp p){k x}(h:W1 k x)(hk:744<=k):x.d p=0\/x.d p=1:=by
 have hA:=Bt x.a;have hB:=Bt x.b;have h0:=eE p h.lt;have h1:x.d p<=1:=by
  rw[zN];have hq:(2:Int)^(x.a+x.b)=2^x.a*2^x.b:=BB ..;refine hp.one (Bt _) (Aw h.lt) (AA h.lo (Aw hB)) ?_ hk ?_
  ·rw[hq];have:=Ac h.hi (Aw hA);have e:(2:Int)^x.b*2^x.a=2^x.a*2^x.b:=AE _ _;omega
  ·rw[hq];exact h.w
 omega
theorem Mk{p}(hp:Enp p):∀ (n k:Nat) (x:Iv),k+n=744->W1 k x->Deep p 1073741824 n x:=by
 intro n;induction n with
 | zero=>intro k x hk h;exact A7g hp h (by omega)
 | succ n ih =>
  intro k x hk h;obtain⟨h1,h2⟩:=h.halves;have hme:x.me<=max x.a x.b+1:=Pz;have ha:=h.a;have hb:=h.b;exact .inr (.inr ⟨by omega,ih (k+1) x.lf (by omega) h1,ih (k+1) x.rg (by omega) h2⟩)
theorem A1j{p:LI}:∀ (n k:Nat) (x:Iv),W1 k x->∀ y∈Fk p n x,∃ j,j<=k+n/\W1 j y:=by
 intro n;induction n with
 | zero =>
  intro k x h y hy;simp only[Fk] at hy;split at hy
  ·cases hy
  ·rcases BD.1 hy with rfl | hy
   ·exact⟨k,by omega,h⟩
   ·cases hy
 | succ n ih =>
  intro k x h y hy;simp only[Fk] at hy;obtain⟨h1,h2⟩:=h.halves;split at hy
  ·cases hy
  ·split at hy
   ·rcases BD.1 hy with rfl | hy
    ·exact⟨k,by omega,h⟩
    ·cases hy
   ·rcases Bn.1 hy with hy | hy
    ·obtain⟨j,a,b⟩:=ih (k+1) x.lf h1 y hy;exact⟨j,by omega,b⟩
    ·obtain⟨j,a,b⟩:=ih (k+1) x.rg h2 y hy;exact⟨j,by omega,b⟩
theorem W1.scaled{k:Nat}{y:Iv}(h:W1 k y){E N:Nat}(ha:y.a<=E)(hb:y.b<=E)(hN:N<=k) :
  (L y.t*2^(E-y.b)-L y.r*2^(E-y.a))*2^N<=2^E/\0<=L y.r*2^(E-y.a)/\L y.t*2^(E-y.b)<=2^E:=by
 have e1:(2:Int)^E=2^(E-y.a)*2^y.a:=by rw[<- BB];congr 1;omega
 have e2:(2:Int)^E=2^(E-y.b)*2^y.b:=by rw[<- BB];congr 1;omega
 have pA:=Bt y.a;have pB:=Bt y.b;have pE:=Bt E;have qA:=Bt (E-y.a);have qB:=Bt (E-y.b);have hw:=h.w;have lo:=h.lo;have hi:=h.hi;have hlt:=h.lt;have pN:=Bt N;have hk:(2:Int)^N<=2^k:=by
  have:=BM (n:=2) (by decide) hN;have h:=ACi.2 this;rwa [Dp,Dp] at h
 have key:(L y.t*2^(E-y.b)-L y.r*2^(E-y.a))*(2^y.a*2^y.b)=(L y.t*2^y.a-L y.r*2^y.b)*2^E:=by
  have c1:L y.t*2^(E-y.b)*(2^y.a*2^y.b)=L y.t*2^y.a*2^E:=by rw[e2];grind
  have c2:L y.r*2^(E-y.a)*(2^y.a*2^y.b)=L y.r*2^y.b*2^E:=by rw[e1];grind
  rw[A3l,A3l,c1,c2]
 refine⟨?_,?_,?_⟩
 ·generalize (2:Int)^k=K at *
  generalize (2:Int)^N=M at *
  generalize L y.t*2^(E-y.b)-L y.r*2^(E-y.a)=W at *
  generalize hV:L y.t*2^y.a-L y.r*2^y.b=V at *
  generalize (2:Int)^E=F at *
  generalize hAB:(2:Int)^y.a*2^y.b=P at *
  have pP:0<P:=by rw[<- hAB];exact Bp pA pB
  apply Cj (a:=P) _ pP;have c1:W*M*P=V*M*F:=by
   have:W*M*P=W*P*M:=r ..;rw[this,key];exact r ..
  have c3:=Ac hw (Aw pE);have c4:=Ac (Al hk (show 0<=V by omega)) (Aw pE);have c5:F*P=P*F:=AE _ _;rw[c1];omega
 ·exact AA lo (Aw qA)
 ·have:=Ac hi (Aw qB);have c:(2:Int)^y.b*2^(E-y.b)=2^E:=by rw[e2];exact AE _ _
  omega
theorem UI{p q:LI}(hp:Enp p)(hq:Enp q){y x:Iv}(h1:One p y)(h2:One q x){k1 k2:Nat}(w1:W1 k1 y)(w2:W1 k2 x)(hk1:1921<=k1)(hk2:1921<=k2)(n1:dl x.lo' y.hi')(n2:dl y.lo' x.hi') :
  1<=Z4 (B5 (S p) (S q)) y x:=by
 obtain⟨E,hE⟩:∃ E,E=y.a+y.b+x.a+x.b:=⟨_,rfl⟩;have ey1:y.lo'.2<=E:=by show y.a<=E;omega
 have ey2:y.hi'.2<=E:=by show y.b<=E;omega
 have ex1:x.lo'.2<=E:=by show x.a<=E;omega
 have ex2:x.hi'.2<=E:=by show x.b<=E;omega
 obtain⟨s1,s2,s3⟩:=w1.scaled (E:=E) (N:=1921) ey1 ey2 hk1;obtain⟨s4,s5,s6⟩:=w2.scaled (E:=E) (N:=1921) ex1 ex2 hk2;have d1:=h1.dlt.1;have d2:=h2.dlt.1;have hvp:VD p y.lo'-VD p y.hi'=1:=h1.v;have hvq:VD q x.lo'-VD q x.hi'=1:=h2.v;obtain⟨a1,a2,a3⟩:=Ox y.lo' x.lo';obtain⟨b1,b2,b3⟩:=Ow y.hi' x.hi';obtain⟨a4,a5,a6⟩:=Ow y.lo' x.lo';obtain⟨b4,b5,b6⟩:=Ox y.hi' x.hi';have eL:(H_ y.lo' x.lo').2<=E:=by rcases a3 with e | e <;> rw[e] <;> assumption
 have eU:(IH y.hi' x.hi').2<=E:=by rcases b3 with e | e <;> rw[e] <;> assumption
 have hLU:dl (H_ y.lo' x.lo') (IH y.hi' x.hi'):=Dw a1 (Dw d1 b1);have q0:=Bt E;have hf:=Ci hq.ne;have hq0:=By hf.1 hf.2.2.2.1;have dG:=UE hp.ne hq0;have dG2:iY (B5 (S p) (S q)) q:=by
  have hfp:=Ci hp.ne;rw[Z1 (By hfp.1 hfp.2.2.2.1) hq0];exact UE hq.ne (By hfp.1 hfp.2.2.2.1)
 have hl:=hLU;rw[qW eL eU] at hl;rw[qW ex1 ey2] at n1;rw[qW ey1 ex2] at n2;have rg:0<=(H_ y.lo' x.lo').1*2^(E-(H_ y.lo' x.lo').2)/\(IH y.hi' x.hi').1*2^(E-(IH y.hi' x.hi').2)<=2^E/\((IH y.hi' x.hi').1*2^(E-(IH y.hi' x.hi').2)-(H_ y.lo' x.lo').1*2^(E-(H_ y.lo' x.lo').2))*2^1921<=2*2^E:=by
  have p16:=Bt 1921;have yl:y.lo'.1*2^(E-y.lo'.2)=L y.r*2^(E-y.a):=rfl;have yh:y.hi'.1*2^(E-y.hi'.2)=L y.t*2^(E-y.b):=rfl;have xl:x.lo'.1*2^(E-x.lo'.2)=L x.r*2^(E-x.a):=rfl;have xh:x.hi'.1*2^(E-x.hi'.2)=L x.t*2^(E-x.b):=rfl;have sum:∀ v:Int,v<=(L y.t*2^(E-y.b)-L y.r*2^(E-y.a))+(L x.t*2^(E-x.b)-L x.r*2^(E-x.a))->v*2^1921<=2*2^E:=by
   intro v hv;have:=Ac hv (Aw p16);rw[Gw] at this;omega
  have dy:=h1.dlt.1;have dx:=h2.dlt.1;rw[qW ey1 ey2] at dy;rw[qW ex1 ex2] at dx;rcases a3 with e | e <;> rcases b3 with g | g <;> rw[e,g]
  ·exact⟨by omega,by omega,sum _ (by omega)⟩
  ·exact⟨by omega,by omega,sum _ (by omega)⟩
  ·exact⟨by omega,by omega,sum _ (by omega)⟩
  ·exact⟨by omega,by omega,sum _ (by omega)⟩
 obtain⟨r1,r2,r3⟩:=rg;have r4:((IH y.hi' x.hi').1*2^(E-(IH y.hi' x.hi').2)-(H_ y.lo' x.lo').1*2^(E-(H_ y.lo' x.lo').2))*2^1920<=2^E:=by
  have e:(2:Int)^1921=2*2^1920:=by rw[AE];exact A7 2 1920
  rw[e] at r3;generalize (2:Int)^1920=M at *
  have e2:∀ v:Int,v*(2*M)=2*(v*M):=fun v=>by grind
  rw[e2] at r3;omega
 have up:=hp.one q0 hl r1 r2 (show 744<=1920 by decide) r4;have uq:=hq.one q0 hl r1 r2 (show 744<=1920 by decide) r4;rw[<- SI p eL,<- SI p eU] at up;rw[<- SI q eL,<- SI q eU] at uq;have v1:=Fw p a1;have v2:=Fw p b1;have v3:=Fw q a2;have v4:=Fw q b2;have mt:=hp.meet_free hq q0 hl r1 r2 (Ao 1920) r4 (by rw[<- SI p eL,<- SI p eU];omega) (by rw[<- SI _ eL,<- SI _ eU];omega);rw[<- SI _ eL,<- SI _ eU] at mt;unfold Z4;generalize B5 (S p) (S q)=g at *
 have k1:VD g (H_ y.lo' x.lo')-VD g (IH y.lo' x.lo')<=0:=by
  rcases a6 with e | e
  ·rw[e];have:=dG _ _ a1;omega
  ·rw[e];have:=dG2 _ _ a2;omega
 have k2:VD g (H_ y.hi' x.hi')-VD g (IH y.hi' x.hi')<=0:=by
  rcases b6 with e | e
  ·rw[e];have:=dG _ _ b1;omega
  ·rw[e];have:=dG2 _ _ b2;omega
 omega
theorem Sb{p}(hp:Enp p):Kb 5 (S p)/\(S p).length<=9:=by
 obtain⟨lf,cf,_,_,hd,_⟩:=Ci hp.ne;obtain⟨a,b⟩:=hp.div lf cf hd;exact⟨fun i=>C_ (a i) (by decide),by omega⟩
theorem Gc{p}(hp:Enp p):Rk (S p):=⟨(Sb hp).1.mono (by decide),(Sb hp).2⟩
theorem O0{p}(hp:Enp p):∀ r∈(S p).map cn,AU 5 r:=AR (Sb hp).1
theorem UJ{p}(hp:Enp p):((S p).map cn).length<=9:=by rw [Q];exact (Sb hp).2
theorem WS{p:LI}(hp:Enp p)(q:LI):Kb 5 (B5 (S p) q)/\(B5 (S p) q).length<=8:=by
 obtain⟨lf,_,_,f0,dp,_⟩:=Ci hp.ne;have hf0:=By lf f0;obtain⟨a,b⟩:=hp.div (D0 _ _) (Kl hf0) ((Fi (S p) q).1.trans dp);exact⟨fun i=>C_ (a i) (by decide),b⟩
theorem qX{p q:LI}(hp:Enp p)(hq:Enp q):Pr 135 [H ((S p).map cn).length (pc ((S p).map cn)),H ((S q).map cn).length (pc ((S q).map cn))] (B5 (S p) (S q))/\Pr 70 [H ((S p).map cn).length (pc ((S p).map cn)),H ((S q).map cn).length (pc ((S q).map cn))] (B5 (S p) (S q)):=by
 have h:=U2 (K:=5) (c:=9) (O0 hp) (O0 hq) (UJ hp) (UJ hq) (by decide) (by decide);have k:=U4 (K:=5) (c:=9) (O0 hp) (O0 hq) (UJ hp) (UJ hq) (by decide) (by decide);rw[s,s] at h k;exact⟨h,k⟩
theorem eH{p q:LI}(hp:Enp p)(hq:Enp q):iY (B5 (S p) (S q)) p/\iY (B5 (S p) (S q)) q:=by
 refine⟨UE hp.ne (MH hq.ne),?_⟩;rw[Z1 (MH hp.ne) (MH hq.ne)];exact UE hq.ne (MH hp.ne)
section
variable {p q:LI} (hp:Enp p) (hq:Enp q) {y x:Iv} (h1:One p y) (h2:One q x) {m:Nat} (hm:m<=5600) (o1:IvOk 0 m y) (o2:IvOk 0 m x)
include hp hq h1 h2 hm o1 o2
theorem qY:RQ 124 [y.av (S p),x.av (S q)] (B (A (0<Z4 (B5 (S p) (S q)) y x))):=by
 obtain⟨hg,_⟩:=qX hp hq;obtain⟨gk,gl⟩:=WS hp (S q);have gf:=TC (q:=S q) hp.ne;generalize B5 (S p) (S q)=g at *
 have lg:(g.map cn).length=g.length:=Q ..;have e1:=Ko (p:=S p) o1.gr o1.gt (a:=y.a) (b:=y.b) (by have:=o1.a;omega) (by have:=o1.b;omega);have e2:=Ko (p:=S q) o2.gr o2.gt (a:=x.a) (b:=x.b) (by have:=o2.a;omega) (by have:=o2.b;omega);rw[EE.2 h1.lt,show ((-1:Int)==0)=false by decide] at e1;rw[EE.2 h2.lt,show ((-1:Int)==0)=false by decide] at e2;have cm:∀ {r t:Rn} {a b:Nat},AU 300 r->AU 300 t->a<=m->b<=m->RQ 55 [A2 r (a:Nat),A2 t (b:Nat)] (F O (BI (L r) a (L t) b)):=fun hr ht ha hb=>Kn (hr.mono (show 300<=600 by omega)) (ht.mono (show 300<=600 by omega)) (by omega) (by omega);have tl:∀ {u w:Rn} {a b:Nat} (_:AU 300 u) (_:AU 300 w) (_:a<=m) (_:b<=m),Ap Jy (Fj false ((S p).map cn) y.r (y.a:Nat) y.t (y.b:Nat) ((S q).map cn) x.r (x.a:Nat) x.t (x.b:Nat) u (a:Nat) w (b:Nat)) .ret
   (Fj (A (0<VD g (L u,a)-VD g (L w,b))) ((S p).map cn) y.r (y.a:Nat) y.t (y.b:Nat) ((S q).map cn) x.r (x.a:Nat) x.t (x.b:Nat) u (a:Nat) w (b:Nat)):=by
  intro u w a b hu hw ha hb;have c:=cm hu hw ha hb;by_cases c0:BI (L u) a (L w) b>=0
  ·have v:VD g (L u,a)<=VD g (L w,b):=Fw g (by
    have hbd:=KU (L u*2^b) (L w*2^a);have:¬ L u*2^b<L w*2^a:=fun z=>by rw[EE.2 z] at c0;exact absurd c0 (by decide)
    show L w*2^a<=L u*2^b;omega)
   rw[decide_eq_false (show ¬ 0<VD g (L u,a)-VD g (L w,b) by omega)];exact Ake _ _ _ _ _ _ _ _ _ _ _ _ _ _ _ _ (decide_eq_true c0) c
  ·by_cases c1:g.length<2
   ·rw[gf c1 (L u,a) (L w,b),Sg];rcases hg with hg | hg
    ·exact yS _ _ _ _ _ _ _ _ _ _ _ _ _ _ _ _ _ (decide_eq_false c0) (by rw[decide_eq_false_iff_not,lg];omega) c hg
    ·exact Akg _ _ _ _ _ _ _ _ _ _ _ _ _ _ _ _ _ (decide_eq_false c0) (by rw[decide_eq_false_iff_not,lg];omega) c hg
   ·have k:=Zr (AR gk) (by rw[lg];omega) hu hw (a:=a) (b:=b) (by omega) (by omega);rw[s] at k;rcases hg with hg | hg
    ·exact yR _ _ _ _ _ _ _ _ _ _ _ _ _ _ _ _ _ _ (decide_eq_false c0) (by rw[decide_eq_true_eq,lg];omega) c hg k
    ·exact Akf _ _ _ _ _ _ _ _ _ _ _ _ _ _ _ _ _ _ (decide_eq_false c0) (by rw[decide_eq_true_eq,lg];omega) c hg k
 have c1:=cm o2.gr o1.gr o2.a o1.a;have c2:=cm o2.gt o1.gt o2.b o1.b;have n1:¬ L y.r*2^x.a<L x.r*2^y.a->decide (BI (L x.r) x.a (L y.r) y.a>0)=false:=fun g1=>by
  rw[decide_eq_false_iff_not];intro z;have hb:=KU (L x.r*2^y.a) (L y.r*2^x.a);exact g1 (KY.1 (by unfold BI at z |-;omega))
 have n2:¬ L x.t*2^y.b<L y.t*2^x.b->decide (BI (L x.t) x.b (L y.t) y.b<0)=false:=fun g2=>by
  rw[decide_eq_false_iff_not];intro z;have hb:=KU (L x.t*2^y.b) (L y.t*2^x.b);exact g2 (EE.1 (by unfold BI at z |-;omega))
 unfold Z4;by_cases g1:L y.r*2^x.a<L x.r*2^y.a
 ·rw[show IH y.lo' x.lo'=x.lo' from if_pos g1];have m1:decide (BI (L x.r) x.a (L y.r) y.a>0)=true:=by rw[KY.2 g1];rfl
  by_cases g2:L x.t*2^y.b<L y.t*2^x.b
  ·rw[show H_ y.hi' x.hi'=x.hi' from if_pos g2];exact RW _ y.r y.t _ _ _ x.r x.t _ _ _ false false _ _ _ _ rfl rfl e1 e2 (Akh _ _ _ _ _ _ _ _ _ _ _ _ _ _ _ _ _ _ m1 (by rw[EE.2 g2];rfl) c1 c2 (tl o2.gr o2.gt o2.a o2.b))
  ·rw[show H_ y.hi' x.hi'=y.hi' from if_neg g2];exact RW _ y.r y.t _ _ _ x.r x.t _ _ _ false false _ _ _ _ rfl rfl e1 e2 (Aki _ _ _ _ _ _ _ _ _ _ _ _ _ _ _ _ _ _ m1 (n2 g2) c1 c2 (tl o2.gr o1.gt o2.a o1.b))
 ·rw[show IH y.lo' x.lo'=y.lo' from if_neg g1];by_cases g2:L x.t*2^y.b<L y.t*2^x.b
  ·rw[show H_ y.hi' x.hi'=x.hi' from if_pos g2];exact RW _ y.r y.t _ _ _ x.r x.t _ _ _ false false _ _ _ _ rfl rfl e1 e2 (Akj _ _ _ _ _ _ _ _ _ _ _ _ _ _ _ _ _ _ (n1 g1) (by rw[EE.2 g2];rfl) c1 c2 (tl o1.gr o2.gt o1.a o2.b))
  ·rw[show H_ y.hi' x.hi'=y.hi' from if_neg g2];exact RW _ y.r y.t _ _ _ x.r x.t _ _ _ false false _ _ _ _ rfl rfl e1 e2 (Akk _ _ _ _ _ _ _ _ _ _ _ _ _ _ _ _ _ _ (n1 g1) (n2 g2) c1 c2 (tl o1.gr o1.gt o1.a o1.b))
theorem Akw{j1 j2:Nat}(w1:W1 j1 y)(w2:W1 j2 x):∃ z,MG p y q x z/\RQ 74 [y.av (S p),x.av (S q)] (F O z):=by
 obtain⟨c1,c2⟩:=Ot o1 o2 (by omega);obtain⟨d1,d2⟩:=eH hp hq;have hb1:=KU (L y.t*2^x.a) (L x.r*2^y.b);have hb2:=KU (L x.t*2^y.a) (L y.r*2^x.b);by_cases a1:BI (L y.t) y.b (L x.r) x.a<0
 ·exact⟨-1,iZ h1 (H0.1 (Aw a1)),dQ _ y.r y.t _ _ _ x.r x.t _ _ _ (decide_eq_true a1) c1⟩
 by_cases a2:BI (L x.t) x.b (L y.r) y.a<0
 ·exact⟨1,Xx h2 (H0.1 (Aw a2)),Ajv _ y.r y.t _ _ _ x.r x.t _ _ _ _ (decide_eq_false a1) (decide_eq_true a2) c1 c2⟩
 have he:=qY hp hq h1 h2 hm o1 o2;by_cases ce:0<Z4 (B5 (S p) (S q)) y x
 ·rw[decide_eq_true ce] at he;exact⟨0,qT h1 h2 d1 d2 ce,A0t o1 o2 (by omega) a1 a2 he⟩
 rw[decide_eq_false ce] at he;have last:∀ N,1921<=N->¬ (¬ dl (stpN (S p) y N).hi' (stpN (S q) x N).lo'/\¬ dl (stpN (S q) x N).hi' (stpN (S p) y N).lo'):=by
  intro N hN g;have:=UI hp hq (h1.halves N) (h2.halves N) (w1.stpN (S p) N) (w2.stpN (S q) N) (by omega) (by omega) ((D_ _ _).resolve_left g.1) ((D_ _ _).resolve_left g.2);obtain⟨s1,s2⟩:=Oz h1 N;obtain⟨s3,s4⟩:=Oz h2 N;have:=Akv (B5 (S p) (S q)) s1 s2 s3 s4;omega
 obtain⟨n,hn,n1,n2⟩:∃ n,n<=1921/\(∀ i,i<n->eF (S p) (S q) y x i=false)/\eF (S p) (S q) y x n=true:=by
  rcases Jc (eF (S p) (S q) y x) 1922 1922 0 rfl with g | ⟨n,_,g2,g3,g4⟩
  ·have:=g 1921 (by omega) (by omega);exfalso;generalize hN:1921=N at this last;have:=WR this;exact last N (Ao _) this
  ·exact⟨n,by omega,fun i hi=>g4 i (by omega) hi,g3⟩
 have no:∀ i,i<n->¬ BI (L (stpN (S p) y i).t) (stpN (S p) y i).b (L (stpN (S q) x i).r) (stpN (S q) x i).a<=0/\¬ BI (L (stpN (S q) x i).t) (stpN (S q) x i).b (L (stpN (S p) y i).r) (stpN (S p) y i).a<=0:=fun i hi=>by
  obtain⟨u,v⟩:=WR (n1 i hi);exact⟨fun z=>u (H0.1 z),fun z=>v (H0.1 z)⟩
 unfold eF at n2;rw[UX,decide_eq_true_eq,decide_eq_true_eq] at n2;by_cases s:BI (L (stpN (S p) y n).t) (stpN (S p) y n).b (L (stpN (S q) x n).r) (stpN (S q) x n).a<=0
 ·exact⟨-1,(Oy h1 h2 n n).1 (iZ (h1.halves n) (H0.1 s)),Zq (Gc hp) (Gc hq) o1 o2 (n:=n) (by omega) a1 a2 he ⟨no,.inl ⟨rfl,s⟩⟩⟩
 ·have s2:=n2.resolve_left s;exact⟨1,(Oy h1 h2 n n).1 (Xx (h2.halves n) (H0.1 s2)),Zq (Gc hp) (Gc hq) o1 o2 (n:=n) (by omega) a1 a2 he ⟨no,.inr ⟨rfl,s,s2⟩⟩⟩
end
theorem TD{l:List Rt}{X:Int}(h:0<=X/\X<(l.length:Int)):Bj (g 1 (g (D X*7) (CI l))) 0 3 false=some (A2 (l.getD (D X) zR).r (l.getD (D X) zR).e)/\Bj (g 4 (g (D X*7) (CI l))) 0 3 false=some (A2 (l.getD (D X) zR).t (l.getD (D X) zR).f):=by
 have hl:=EI h;rw[Oq,B2 hl];have e:l.getD (D X) zR=l[D X]:=by rw[Z,Ad hl];rfl
 rw[e];exact⟨rfl,rfl⟩
theorem Akx(p:LI)(n:Nat)(x:Iv):(N1 p n x).length<=(Fk p n x).length:=by
 unfold N1;split
 ·exact AN _
 ·exact Ao _
theorem Z7{x:Iv}(h:L x.r*2^x.b<L x.t*2^x.a):L x.lf.r*2^x.lf.b<L x.lf.t*2^x.lf.a/\L x.rg.r*2^x.rg.b<L x.rg.t*2^x.rg.a:=by
 obtain⟨m1,m2⟩:=Hj h;constructor
 ·show L x.r*2^x.me<L (cn x.mn)*2^x.a;rw[A6];exact m1
 ·show L (cn x.mn)*2^x.b<L x.t*2^x.me;rw[A6];exact m2
theorem Kr{p:LI}{E:Nat}:∀ (n:Nat) (x:Iv),L x.r*2^x.b<L x.t*2^x.a->Deep p E n x->∀ y∈Fk p n x,One p y:=by
 intro n;induction n with
 | zero =>
  intro x h hd y hy;simp only[Fk] at hy;rcases hd with hd | hd
  ·rw[if_pos hd] at hy;cases hy
  ·rw[if_neg (by omega)] at hy;rcases BD.1 hy with rfl | hy
   ·exact⟨h,hd⟩
   ·cases hy
 | succ n ih =>
  intro x h hd y hy;simp only[Fk] at hy;by_cases c0:x.d p=0
  ·rw[if_pos c0] at hy;cases hy
  ·rw[if_neg c0] at hy;by_cases c1:x.d p=1
   ·rw[if_pos c1] at hy;rcases BD.1 hy with rfl | hy
    ·exact⟨h,c1⟩
    ·cases hy
   ·rw[if_neg c1] at hy;rcases hd with hd | hd | ⟨_,d1,d2⟩
    ·exact absurd hd c0
    ·exact absurd hd c1
    ·obtain⟨h1,h2⟩:=Z7 h;rcases Bn.1 hy with hy | hy
     ·exact ih x.lf h1 d1 y hy
     ·exact ih x.rg h2 d2 y hy
theorem Aky{p:LI}{E:Nat}:∀ (n:Nat) (x:Iv),Deep p E n x->((Fk p n x).length:Int)=x.d p:=by
 intro n;induction n with
 | zero =>
  intro x hd;simp only[Fk];rcases hd with hd | hd
  ·rw[if_pos hd,hd];rfl
  ·rw[if_neg (by omega),hd];rfl
 | succ n ih =>
  intro x hd;simp only[Fk];by_cases c0:x.d p=0
  ·rw[if_pos c0,c0];rfl
  ·rw[if_neg c0];by_cases c1:x.d p=1
   ·rw[if_pos c1,c1];rfl
   ·rw[if_neg c1];rcases hd with hd | hd | ⟨_,d1,d2⟩
    ·exact absurd hd c0
    ·exact absurd hd c1
    ·have i1:=ih x.lf d1;have i2:=ih x.rg d2;rw[AY,LN,i1,i2];show (Vd p (L x.r) x.a-Vd p (L (cn x.mn)) x.me)+(Vd p (L (cn x.mn)) x.me-Vd p (L x.t) x.b)=Vd p (L x.r) x.a-Vd p (L x.t) x.b;omega
abbrev Nu:=LI × Iv
def Eu(z:Nu)(u:Dy):Prop:=sd z.1 z.2 u.1 u.2<=0
theorem UK{z:Nu}(h:One z.1 z.2)(u:Dy):Eu z u↔¬ dl u z.2.lo'/\VD z.1 u<=VD z.1 z.2.hi':=UD h u.1 u.2
theorem Il{z:Nu}(h:One z.1 z.2){u v:Dy}(hu:Eu z u)(g:dl u v):Eu z v:=by
 apply A1;intro n;exact Z3 h (m:=u.1) (c:=u.2) (m':=v.1) (c':=v.2) hu (by unfold Eu at n;omega) g
theorem ADy{p:LI}{E:Nat}:∀ (n:Nat) (x:Iv),L x.r*2^x.b<L x.t*2^x.a->Deep p E n x->∀ u t:Dy,dl x.lo' u->dl u t->dl t x.hi'->VD p t<VD p u->∃ y∈Fk p n x,¬ Eu (p,y) u/\Eu (p,y) t:=by
 have one:∀ x:Iv,L x.r*2^x.b<L x.t*2^x.a->x.d p=1->∀ u t:Dy,dl x.lo' u->dl u t->dl t x.hi'->VD p t<VD p u->¬ Eu (p,x) u/\Eu (p,x) t:=by
  intro x hlt hd u t h1 _ h3 h4;have ho:One p x:=⟨hlt,hd⟩;have hv:VD p x.lo'-VD p x.hi'=1:=hd;have v1:=Fw p h1;have v3:=Fw p h3;rw[UK (z:=(p,x)) ho,UK (z:=(p,x)) ho];refine⟨fun g => ?_,fun g => ?_,?_⟩
  ·have:=g.2;simp only at this;omega
  ·have:=Fw p g;simp only at this;omega
  ·simp only;omega
 intro n;induction n with
 | zero =>
  intro x hlt hd u t h1 h2 h3 h4;have v1:=Fw p h1;have v3:=Fw p h3;simp only[Fk];have e0:VD p x.lo'-VD p x.hi'=x.d p:=rfl;rcases hd with hd | hd
  ·omega
  ·rw[if_neg (by omega)];exact⟨x,AO ..,one x hlt hd u t h1 h2 h3 h4⟩
 | succ n ih =>
  intro x hlt hd u t h1 h2 h3 h4;have v1:=Fw p h1;have v3:=Fw p h3;have e0:VD p x.lo'-VD p x.hi'=x.d p:=rfl;simp only[Fk];by_cases c0:x.d p=0
  ·omega
  rw[if_neg c0];by_cases c1:x.d p=1
  ·rw[if_pos c1];exact⟨x,AO ..,one x hlt c1 u t h1 h2 h3 h4⟩
  rw[if_neg c1];rcases hd with hd | hd | ⟨_,d1,d2⟩
  ·exact absurd hd c0
  ·exact absurd hd c1
  obtain⟨l1,l2⟩:=Z7 hlt;have el:x.lf.hi'=x.rg.lo':=rfl;have left:∀ t:Dy,dl u t->dl t x.lf.hi'->VD p t<VD p u->∃ y∈Fk p n x.lf++Fk p n x.rg,¬ Eu (p,y) u/\Eu (p,y) t:=by
   intro t g1 g2 g3;obtain⟨y,a,b⟩:=ih x.lf l1 d1 u t h1 g1 g2 g3;exact⟨y,Ff _ a,b⟩
  have right:∀ u:Dy,dl x.rg.lo' u->dl u t->VD p t<VD p u->∃ y∈Fk p n x.lf++Fk p n x.rg,¬ Eu (p,y) u/\Eu (p,y) t:=by
   intro u g1 g2 g3;obtain⟨y,a,b⟩:=ih x.rg l2 d2 u t g1 g2 h3 g3;exact⟨y,EM _ a,b⟩
  rcases D_ t x.rg.lo' with c | c
  ·exact left t h2 c h4
  rcases D_ x.rg.lo' u with c' | c'
  ·exact right u c' h2 h4
  by_cases c2:VD p x.rg.lo'<VD p u
  ·obtain⟨y,a,b1,b2⟩:=left x.rg.lo' c' (H' _) c2;refine⟨y,a,b1,?_⟩;have ho:One p y:=by
    rcases Bn.1 a with a | a
    ·exact Kr n x.lf l1 d1 y a
    ·exact Kr n x.rg l2 d2 y a
   exact Il (z:=(p,y)) ho b2 c
  ·obtain⟨y,a,b1,b2⟩:=right x.rg.lo' (H' _) c (by omega);refine⟨y,a,fun g=>b1 ?_,b2⟩;have ho:One p y:=by
    rcases Bn.1 a with a | a
    ·exact Kr n x.lf l1 d1 y a
    ·exact Kr n x.rg l2 d2 y a
   exact Il (z:=(p,y)) ho g c'
def La:Iv:=⟨z0,0,cn 1,0⟩
theorem JC:W1 0 La:=by
 refine⟨?_,?_,?_,?_,Ao _,Ao _⟩ <;> decide
theorem jC:IvOk 0 0 La:=by
 refine⟨QM _,B4 (C_ (k:=1) (by decide) (by decide)),Ao _,Ao _,?_,?_⟩ <;> decide
def EG(p:LI):List Iv:=N1 p 744 La
theorem aN{p:LI}(hp:Enp p){u t:Dy}(h1:dl (0,0) u)(h2:dl u t)(h3:dl t (1,0))(h4:VD p t<VD p u):∃ y∈EG p,¬ Eu (p,y) u/\Eu (p,y) t:=by
 unfold EG N1;by_cases c:(BR p).length<2
 ·exfalso;have hz:∀ u:Dy,VD p u=0:=by
   intro u;show Vd p u.1 u.2=0;rw[I3];rw[P2] at c;match hl:CJ p with
   | []=>rfl
   | [a] =>
    have k1:=Zw (Ce (Hh a u.1 (2^u.2))) [];have k2:=MF [Ce (Hh a u.1 (2^u.2))] 0;simp only[HI] at k1;show wv 0 [Ce (Hh a u.1 (2^u.2))]=0;omega
   | _::_::_=>rw[hl] at c;simp at c;omega
  rw[hz,hz] at h4;omega
 ·rw[if_neg c];exact ADy 744 La JC.lt (Mk hp 744 0 La rfl JC) u t h1 h2 h3 h4
structure Nok (k:Nat) (z:Nu):Prop where
 en:Enp z.1
 one:One z.1 z.2
 w:W1 k z.2
 ok:IvOk 0 k z.2
 lt:sd z.1 z.2 1 0<0
theorem zU{p:LI}(hp:Enp p):∀ y∈EG p,sd p y 1 0<0->∃ k,k<=744/\Nok k (p,y):=by
 intro y hy hlt;unfold EG N1 at hy;split at hy
 ·cases hy
 ·have hd:=Mk hp 744 0 La rfl JC;have h1:=Kr 744 La JC.lt hd y hy;obtain⟨j,hj,hw⟩:=A1j 744 0 La JC y hy;have ho:=qC 744 La 0 jC (by decide) y hy;exact⟨j,by omega,hp,h1,hw,⟨ho.gr,ho.gt,hw.a,hw.b,ho.vr,ho.vt⟩,hlt⟩
def H8(z:Nu):Nu:=(z.1,JJ (S z.1) z.2)
theorem Nok.st{k:Nat}{z:Nu}(h:Nok k z)(hk:k+1<8000):Nok (k+1) (H8 z) :=
 ⟨h.en,h.one.half,h.w.once _,Acm h.ok (by omega),by
  have e:=Rp h.one 1 0 1;have:sd z.1 (JJ (S z.1) z.2) 1 0=sd z.1 z.2 1 0:=e;show sd z.1 (JJ (S z.1) z.2) 1 0<0;rw[this];exact h.lt⟩
def O1(z w:Nu)(s:Int):Prop:=MG z.1 z.2 w.1 w.2 s
theorem zW{j k:Nat}{z w:Nu}(hz:Nok j z)(hw:Nok k w)(hj:1921<=j)(hk:1921<=k)(ho:O1 z w (-1)):¬ dl w.2.lo' z.2.hi':=by
 intro g;have n2:dl z.2.lo' w.2.hi':=by
  rcases D_ w.2.hi' z.2.lo' with c | c
  ·have:=MG.unique hz.one hw.one ho (Xx hw.one c);omega
  ·exact c
 have h:=UI hz.en hw.en hz.one hw.one hz.w hw.w hj hk g n2;obtain⟨d1,d2⟩:=eH hz.en hw.en;have:=MG.unique hz.one hw.one ho (qT hz.one hw.one d1 d2 h);omega
theorem A1k:Enp [-1,1]:=⟨by decide,by decide,by
 intro i;match i with
 | 0=>decide
 | 1=>decide
 | _+2=>simp⟩
def Jw(N:Nat):Iv:=⟨cn (2^N-1),N,cn 1,0⟩
theorem A1l:CJ [-1,1]=[[-1,1],[1]]:=by decide +kernel
theorem Zy(N:Nat):One [-1,1] (Jw N):=by
 have hN:=Bt N;have h1:L (cn 1)=1:=A6 1;refine⟨?_,?_⟩
 ·show L (cn (2^N-1))*2^0<L (cn 1)*2^N;rw[A6,A6];omega
 ·show Vd [-1,1] (L (cn (2^N-1))) N-Vd [-1,1] (L (cn 1)) 0=1;rw[A6,A6,I3,I3,A1l];have e:∀ x q:Int,Hh [-1,1] x q=x-q:=fun x q=>by simp[Hh,hp,hs];rw[Int.pow_one];omega
  have e1:∀ x q:Int,Hh [1] x q=1:=fun x q=>by simp[Hh,hp,hs]
  have s:∀ x q:Int,DV [[-1,1],[1]] x q=[Ce (x-q),1]:=fun x q=>by simp[DV,e,e1];rfl
  rw[s,s,Gk.2 (show (2:Int)^N-1-2^N<0 by omega),show Ce ((1:Int)-2^0)=0 from rfl];decide
theorem A7h(N:Nat):W1 N (Jw N):=by
 have hN:=Bt N;refine⟨(Zy N).lt,?_,?_,?_,Ao _,AN _⟩
 ·show (L (cn 1)*2^N-L (cn (2^N-1))*2^0)*2^N<=2^N*2^0;rw[A6,A6,show (1:Int)*2^N-(2^N-1)*2^0=1 by omega];omega
 ·show 0<=L (cn (2^N-1));rw[A6];omega
 ·show L (cn 1)<=2^0;rw[A6];decide
theorem A1m{f:LI}(hf:Y f ≠ [])(h:¬ (B5 f [-1,1]).length<2):Aa f 1=0:=by
 obtain⟨⟨c,k,hc,hk⟩,⟨d,m,hd,hm⟩,_⟩:=Fi f [-1,1];have lG:=D0 f [-1,1];have cG:=Kl (t:=[-1,1]) hf;generalize B5 f [-1,1]=G at *
 obtain⟨m',hm'⟩:=Rg hd cG hm;have lG:Y G=G:=lG;have hl:G.length=2:=by
  have:=(Dv.length ⟨d,m,hd,hm⟩ (show Y [-1,1] ≠ [] by decide)).1;rw[lG,show (Y [-1,1]).length=2 by decide] at this;omega
 match G,hl with
 | [a,b],_ =>
  have ev:∀ x,Aa [a,b] x=a+b*x:=fun x=>by simp[Aa];grind
  have el:∀ x,Aa [-1,1] x=x-1:=fun x=>by simp[Aa];omega
  have b0:b ≠ 0:=by
   have:=En (show BH [a,b] from lG) (by simp);exact this
  have h0:=hm' 0;have h2:=hm' 2;rw[ev,el] at h0 h2;have unit:∀ u v w:Int,w.natAbs=1->w=u*v->u.natAbs=1:=fun u v w hw e=>by
   have:=congrArg E e;rw[BS,hw] at this;exact Nat.dvd_one.1 ⟨v.natAbs,this⟩
  have u0:=unit _ _ _ (by decide) h0;have u2:=unit _ _ _ (by decide) h2;have hab:a+b*1=0:=by omega
  have h1:=hk 1;rw[ev,hab,BU] at h1;exact (EH.1 h1).resolve_left hc
theorem zX{k:Nat}{z:Nu}(hz:Nok k z)(hk:1921<=k):¬ dl (1,0) z.2.hi':=by
 intro g;have b:(1:Int)*2^z.2.b<=L z.2.t*2^0:=g;have eb:L z.2.t=2^z.2.b:=by have:=hz.w.hi;omega
 have hB:=Bt z.2.b;have hlo:L z.2.r<2^z.2.a:=by
  have c:=hz.w.lt;rw[eb,AE (2^z.2.b)] at c;exact Dd c (Aw hB)
 have hs:¬ DG (S z.1) 1 0=0:=by
  intro e;have h3:=NO hz.one (m:=1) (c:=0) (by omega) b;have:=h3.2.2 e;have:=hz.lt;omega
 obtain⟨N,hN⟩:∃ N,N=1921:=⟨_,rfl⟩;have hNp:=Bt N;have h:=UI hz.en A1k hz.one (Zy N) hz.w (A7h N) hk (by omega) (Dw (v:=(1,0)) (by
  show L (cn (2^N-1))*2^0<=1*2^N;rw[A6];omega) g) (by
  show L z.2.r*2^0<=L (cn 1)*2^z.2.a;rw[A6];omega)
 have e1:S [-1,1]=[-1,1]:=by decide +kernel
 rw[e1] at h;have hf:=MH hz.en.ne;have h2:=A1m hf (fun c=>by
  have:=TC (q:=[-1,1]) hz.en.ne c (IH z.2.lo' (Jw N).lo') (H_ z.2.hi' (Jw N).hi');unfold Z4 at h;omega)
 apply hs;unfold DG;rw[show (2:Int)^0=1 from rfl,A4z,h2];rfl
abbrev L3:=List (List (List Rn))
def Yt:ICode:=c Att 93 116
def Rs(n:Int)(f:Int)(i:Int):Aj:=(C (F O n)::(W 2 (C (F O f)::(C (F O i)::(W 9 [])))))
theorem A1n(n:Int)(f:Int)(i:Int)(c1:A (i<=n)=true):Ap Yt (Rs n f i) .norm (Rs n (I O (f*i)) (I O (i+1))):=(J V [bT] [0,3,4] (Jx c1))
theorem A1o(n:Int)(f:Int)(i:Int)(c1:A (i<=n)=false):Ap Yt (Rs n f i) (.exit 0) (Rs n f i):=(J V [bF] [0,3,4] (Jx c1))
theorem A1p(n f i:Int)(hl1:Ap (.loop Yt) (Rs n 1 2) (.exit 0) (Rs n f i)):RQ 186 [F O n] (F O f):=OO Att (W 2 (C (F O f)::(W 11 []))) (CE.asc (Av (CE.seq (J V [] [0,3,4] a0) (CE.seq (CE.block hl1) (J V [] [2] a0)))))
theorem A1q(n k a b c:Int)(n1:¬ (I O (b*c))=0)(n2:RQ 186 [F O n] (F O a))(n3:RQ 186 [F O k] (F O b))(n4:RQ 186 [F O (I O (n-k))] (F O c)):RQ 185 [F O n,F O k] (F O (I O (Ax a (I O (b*c))))):=i (fn:=iF Mv Atq) V rfl 400 rfl [.r (F O a),.r (F O b),.r (F O c)] (JS n2 n3 n4 n1)
theorem A1r(n1:RQ 132 [F O 1] (Ag 1)):RQ 169 [] (A2 (cn 1) 0):=i (fn:=iF Mv Ata) V rfl 400 rfl [.r (Ag 1)] (Jx n1)
def QD:ICode:=c Asx 94 52
def JD(o:Int)(rs:List Rn)(N:Int)(i:Int):Aj:=(W 2 (C (F O o)::(W 3 (C (sL pc rs)::(C (F O N)::(C (F O i)::(W 9 [])))))))
theorem A1s(o:Int)(rs:List Rn)(N:Int)(i:Int)(s:Int)(c1:A (i<N)=true)(c2:(s != 0)=true)(n1:0<=i/\i<(rs.length:Int))(n2:RQ 101 [Az (rs.getD (D i) z0)] (F O s)):Ap QD (JD o rs N i) .ret (JD s rs N i):=(J V [bT,.v (Az (rs.getD (D i) z0)),.r (F O s),bT] Yk (JL c1 n1 (BP n1) n2 c2))
theorem A1t(o:Int)(rs:List Rn)(N:Int)(i:Int)(s:Int)(c1:A (i<N)=true)(c2:(s != 0)=false)(n1:0<=i/\i<(rs.length:Int))(n2:RQ 101 [Az (rs.getD (D i) z0)] (F O s)):Ap QD (JD o rs N i) .norm (JD o rs N (I O (i+1))):=(J V [bT,.v (Az (rs.getD (D i) z0)),.r (F O s),bF] Yk (JL c1 n1 (BP n1) n2 c2))
theorem A1u(o:Int)(rs:List Rn)(N:Int)(i:Int)(c1:A (i<N)=false):Ap QD (JD o rs N i) (.exit 0) (JD o rs N i):=(J V [bF] Yk (Jx c1))
theorem A1v(rs:List Rn)(i:Int)(hl1:Ap (.loop QD) (JD 0 rs (rs.length:Int) 0) (.exit 0) (JD 0 rs (rs.length:Int) i)):RQ 167 [sL pc rs] (F O 0):=OO Asx (W 2 (C (F O 0)::(W 15 []))) (Av (CE.seq (J V [] Yk a0) (CE.seq (CE.block hl1) (J V [] [2] a0))))
theorem Akz(rs:List Rn)(z i:Int)(hl1:Ap (.loop QD) (JD 0 rs (rs.length:Int) 0) .ret (JD z rs (rs.length:Int) i)):RQ 167 [sL pc rs] (F O z):=OO Asx (W 2 (C (F O z)::(W 3 (C (sL pc rs)::(C (F O (rs.length:Int))::(C (F O i)::(W 9 []))))))) (Av (CE.seq (J V [] Yk a0) (A4 (BO hl1))))
def M_:ICode:=c Asw 84 62612
def HD(rs:List Rn)(b1:Bool)(b2:Bool)(n:Int)(i:Int)(b:Rn)(k:Int):Aj:=(C (sL pc rs)::(W 1 (C (B b1)::(C (B b2)::(C (F O n)::(C (F O i)::(Ay [B b.1,H b.2.length (lm b.2)]::(C (F O k)::(W 44 [])))))))))
theorem Ala(rs:List Rn)(b1:Bool)(b2:Bool)(n:Int)(i:Int)(b:Rn)(k:Int)(a u c x y z:Int)(c1:A (k<=i)=true)(n1:0<=k/\k<(rs.length:Int))(n2:RQ 185 [F O i,F O k] (F O c))(n3:RQ 186 [F O k] (F O a))(n4:RQ 186 [F O (I O (n-k))] (F O u))(n5:RQ 132 [F O (I O (c*(I O (a*u))))] (Ag x))(n6:RQ 112 [Az (rs.getD (D k) z0),Ag x] (Ag y))(n7:RQ 111 [Az b,Ag y] (Ag z)):Ap M_ (HD rs b1 b2 n i b k) .norm (HD rs b1 b2 n i (cn z) (I O (k+1))):=(J V [bT,.v (Az (rs.getD (D k) z0)),.r (F O c),.r (F O a),.r (F O u),.r (Ag x),.r (Ag y),.r (Ag z)] XY (Qx c1 n1 (BP n1) n2 n3 n4 n5 n6 n7))
theorem Alb(rs:List Rn)(b1:Bool)(b2:Bool)(n:Int)(i:Int)(b:Rn)(k:Int)(c1:A (k<=i)=false):Ap M_ (HD rs b1 b2 n i b k) (.exit 2) (HD rs b1 b2 n i b k):=(J V [bF] XY (Jx c1))
def QC:ICode:=c Asw 92 244
def JE(rs:List Rn)(b1:Bool)(b2:Bool)(n:Int)(i:Int):Aj:=(C (sL pc rs)::(W 1 (C (B b1)::(C (B b2)::(C (F O n)::(C (F O i)::(W 46 [])))))))
theorem A1w(rs:List Rn)(b1:Bool)(b2:Bool)(n:Int)(i:Int)(z:Rn)(k s:Int)(c1:A (i<=n)=true)(c2:(s==1)=true)(hl1:Ap (.loop M_) (HD rs b1 b2 n i (false,[]) 0) (.exit 2) (HD rs b1 b2 n i z k))(n2:RQ 101 [Az z] (F O s)):Ap QC (JE rs b1 b2 n i) .norm (JE rs false b2 n (I O (i+1))):=(CE.seq (J (t:=(vp rs::(W 1 (C (B b1)::(C (B b2)::(u n::(u i::(W 46 [])))))))) V [bT] Ll (Jx c1)) (CE.seq (v (Av (CE.seq (J V [] XY a0) (CE.seq (CE.block hl1) (J (t:=(vp rs::(W 1 (C (B false)::(C (B b2)::(u n::(u i::(W 46 [])))))))) V [.r (F O s),bT] Ll (J0 n2 c2)))))) (J V [] Ll a0)))
theorem A1x(rs:List Rn)(b1:Bool)(b2:Bool)(n:Int)(i:Int)(z:Rn)(k s:Int)(c1:A (i<=n)=true)(c2:(s==1)=false)(c3:(s==(-1))=true)(hl1:Ap (.loop M_) (HD rs b1 b2 n i (false,[]) 0) (.exit 2) (HD rs b1 b2 n i z k))(n2:RQ 101 [Az z] (F O s)):Ap QC (JE rs b1 b2 n i) .norm (JE rs b1 false n (I O (i+1))):=(CE.seq (J (t:=(vp rs::(W 1 (C (B b1)::(C (B b2)::(u n::(u i::(W 46 [])))))))) V [bT] Ll (Jx c1)) (CE.seq (v (Av (CE.seq (J V [] XY a0) (CE.seq (CE.block hl1) (J (t:=(vp rs::(W 1 (C (B b1)::(C (B false)::(u n::(u i::(W 46 [])))))))) V [.r (F O s),bF,bT] Ll (JV n2 c2 c3)))))) (J V [] Ll a0)))
theorem A1y(rs:List Rn)(b1:Bool)(b2:Bool)(n:Int)(i:Int)(z:Rn)(k s:Int)(c1:A (i<=n)=true)(c2:(s==1)=false)(c3:(s==(-1))=false)(hl1:Ap (.loop M_) (HD rs b1 b2 n i (false,[]) 0) (.exit 2) (HD rs b1 b2 n i z k))(n2:RQ 101 [Az z] (F O s)):Ap QC (JE rs b1 b2 n i) .norm (JE rs b1 b2 n (I O (i+1))):=(CE.seq (J (t:=(vp rs::(W 1 (C (B b1)::(C (B b2)::(u n::(u i::(W 46 [])))))))) V [bT] Ll (Jx c1)) (CE.seq (v (Av (CE.seq (J V [] XY a0) (CE.seq (CE.block hl1) (J (t:=(vp rs::(W 1 (C (B b1)::(C (B b2)::(u n::(u i::(W 46 [])))))))) V [.r (F O s),bF,bF] Ll (JV n2 c2 c3)))))) (J V [] Ll a0)))
theorem A1z(rs:List Rn)(b1:Bool)(b2:Bool)(n:Int)(i:Int)(c1:A (i<=n)=false):Ap QC (JE rs b1 b2 n i) (.exit 0) (JE rs b1 b2 n i):=(A4 (J V [bF] Ll (Jx c1)))
theorem zY(rs:List Rn)(b1 b2:Bool)(i:Int)(c1:(b2)=true)(hl1:Ap (.loop QC) (JE rs true true (I O ((rs.length:Int)-1)) 0) (.exit 0) (JE rs b1 b2 (I O ((rs.length:Int)-1)) i)):RQ 166 [sL pc rs] (Ar [B b1,B (!b1)]):=OO Asw (W 2 (C (B b1)::(C (B (!b1))::(W 48 [])))) (CE.asc (CE.asc (Av (CE.seq (J V [] Ll a0) (CE.seq (CE.block hl1) (J V [bT] [2,3] (Jx c1)))))))
theorem zZ(rs:List Rn)(b1 b2:Bool)(i:Int)(c1:(b2)=false)(hl1:Ap (.loop QC) (JE rs true true (I O ((rs.length:Int)-1)) 0) (.exit 0) (JE rs b1 b2 (I O ((rs.length:Int)-1)) i)):RQ 166 [sL pc rs] (Ar [B b1,B false]):=OO Asw (W 2 (C (B b1)::(C (B false)::(W 48 [])))) (CE.asc (CE.asc (Av (CE.seq (J V [] Ll a0) (CE.seq (CE.block hl1) (J V [bF] [2,3] (Jx c1)))))))
theorem VR:∀ (l:List Rt) (i:Nat),(CI l).take (i*7)=CI (l.take i)
 | [],i=>by simp[CI]
 | x::l,0=>rfl
 | x::l,i+1=>by
  rw[AEe,CI,CI,<- VR l i,List.take_append,show x.cs.length=7 from rfl,show (i+1)*7-7=i*7 by omega,CS (show x.cs.length<=(i+1)*7 by show 7<=_;omega)]
theorem Sd{l:List Rt}{n:Nat}(hn:l.length=n){X:Int}(h:0<=X/\X<(n:Int)):Bj (CI l) (D X*7) 7 false=some (o (l.getD (D X) zR).cs):=by
 subst hn;have k:=HY h;have hl:=GR l;have ht:=EI h;unfold Bj at k |-;simp only[B_,if_false,Da,CV,Cb] at k |-;rw[if_pos (by omega)] at k;rw[if_pos (by omega)];exact k
theorem Ml{l:List Rt}{n:Nat}(hn:l.length=n){X:Int}(h:0<=X/\X<(n:Int)):Bj (CI l) (D X*7+1) 3 false=some (A2 (l.getD (D X) zR).r (l.getD (D X) zR).e)/\Bj (CI l) (D X*7+4) 3 false=some (A2 (l.getD (D X) zR).t (l.getD (D X) zR).f):=by
 subst hn;obtain⟨k1,k2⟩:=TD h;have hl:=GR l;have ht:=EI h;unfold Bj at k1 k2 |-;simp only[B_,if_false,CV,Lg,Cb] at k1 k2 |-;rw[if_pos (by omega)] at k1 k2;rw[if_pos (by omega),if_pos (by omega)];exact⟨k1,k2⟩
theorem VS{l:List Rt}{n:Nat}(hn:l.length=n){X:Int}(h:0<=X/\X<(n:Int)){x:Rt}:C5 (CI l) (D X*7) x.cs=some (CI (l.set (D X) x)):=by
 subst hn;have hl:=GR l;have ht:=EI h;have hc:x.cs.length=7:=rfl;unfold C5;rw[if_pos (by omega),hc,Qb,if_pos ht,Ny,VR,CI,<- Oq,L0,show (D X+1)*7=D X*7+7 by omega]
def OT:ICode:=c Asy 73 122480248
def IP(ls:List (List Rn))(N:Int)(i:Int)(k:Nat)(cs:List AV)(l:List Rt)(M:Int)(j:Int)(fs:List Rn)(r:Rn)(e:Int)(t:Rn)(f:Int)(p:Int)(b:Bool):Aj:=(W 3 (X 7 k cs::(W 5 (IG fs r e t f::(C (F O p)::(C (B b)::(W 2 (C (sL pp ls)::(C (F O N)::(C (F O i)::(W 10 (C (H l.length (CI l))::(C (F O M)::(C (F O j)::(W 103 [])))))))))))))))
theorem Alc(ls:List (List Rn))(N:Int)(i:Int)(k:Nat)(cs:List AV)(l:List Rt)(M:Int)(j:Int)(fs:List Rn)(r:Rn)(e:Int)(t:Rn)(f:Int)(p:Int)(b:Bool)(x:Rt)(s:Int)(c1:A (p>0)=true)(c2:(b)=false)(c3:A (s>=0)=true)(n1:0<=(I O (p-1))/\(I O (p-1))<(k:Int))(n2:Bj cs (D (I O (p-1))*7) 7 false=some (Bw x.fs x.r x.e x.t x.f))(n3:RQ 74 [Bw fs r e t f,Bw x.fs x.r x.e x.t x.f] (F O s)):Ap OT (IP ls N i k cs l M j fs r e t f p b) (.exit 4) (IP ls N i k cs l M j fs r e t f p (s==0)):=(J V [bT,bT,.v (Bw x.fs x.r x.e x.t x.f),.r (F O s),bT] Ym (JT c1 (Yx c2) n1 n2 n3 c3))
theorem Ald(ls:List (List Rn))(N:Int)(i:Int)(k:Nat)(cs:List AV)(l:List Rt)(M:Int)(j:Int)(fs:List Rn)(r:Rn)(e:Int)(t:Rn)(f:Int)(p:Int)(b:Bool)(x:Rt)(s:Int)(c1:A (p>0)=true)(c2:(b)=false)(c3:A (s>=0)=false)(n1:0<=(I O (p-1))/\(I O (p-1))<(k:Int))(n2:Bj cs (D (I O (p-1))*7) 7 false=some (Bw x.fs x.r x.e x.t x.f))(n3:RQ 74 [Bw fs r e t f,Bw x.fs x.r x.e x.t x.f] (F O s)):Ap OT (IP ls N i k cs l M j fs r e t f p b) .norm (IP ls N i k cs l M j fs r e t f (I O (p-1)) (s==0)):=(J V [bT,bT,.v (Bw x.fs x.r x.e x.t x.f),.r (F O s),bF] Ym (JT c1 (Yx c2) n1 n2 n3 c3))
theorem Ale(ls:List (List Rn))(N:Int)(i:Int)(k:Nat)(cs:List AV)(l:List Rt)(M:Int)(j:Int)(fs:List Rn)(r:Rn)(e:Int)(t:Rn)(f:Int)(p:Int)(b:Bool)(c1:A (p>0)=false):Ap OT (IP ls N i k cs l M j fs r e t f p b) (.exit 4) (IP ls N i k cs l M j fs r e t f p b):=(J V [bF,bF] Ym (J0 c1 Fc))
def LJ:ICode:=c Asy 84 59804
def G7(ls:List (List Rn))(N:Int)(i:Int)(k:Nat)(cs:List AV)(l:List Rt)(M:Int)(j:Int):Aj:=(W 3 (X 7 k cs::(W 10 (C (sL pp ls)::(C (F O N)::(C (F O i)::(W 10 (C (H l.length (CI l))::(C (F O M)::(C (F O j)::(W 103 [])))))))))))
theorem Alf(ls:List (List Rn))(N:Int)(i:Int)(k:Nat)(cs:List AV)(l:List Rt)(M:Int)(j:Int)(s:Int)(c1:A (j<M)=true)(c2:A (s>=0)=true)(n1:0<=j/\j<(l.length:Int))(n2:RQ 169 [] (A2 (cn 1) 0))(n3:RQ 76 [Bw ((l.getD (D j) zR).fs) ((l.getD (D j) zR).r) ((l.getD (D j) zR).e) ((l.getD (D j) zR).t) ((l.getD (D j) zR).f),A2 (cn 1) 0] (F O s)):Ap LJ (G7 ls N i k cs l M j) .norm (G7 ls N i k cs l M (I O (j+1))):=(CE.asc (CE.seq (J (t:=(W 3 (X 7 k cs::(W 10 (C (sL pp ls)::(u N::(u i::(W 10 (C (H l.length (CI l))::(u M::(u j::(W 103 [])))))))))))) V [bT] PK (Jx c1)) (CE.seq (CE.block (CE.asc (CE.asc (CE.asc (A4 (J (t:=(W 3 (X 7 k cs::(W 10 (C (sL pp ls)::(u N::(u i::(W 10 (C (H l.length (CI l))::(u M::(u j::(W 103 [])))))))))))) (ex:=(.exit 3)) V [.v (Bw ((l.getD (D j) zR).fs) ((l.getD (D j) zR).r) ((l.getD (D j) zR).e) ((l.getD (D j) zR).t) ((l.getD (D j) zR).f)),.r (A2 (cn 1) 0),.r (F O s),bT] PK (JL n1 (HY n1) n2 n3 c2))))))) (J V [] PK a0))))
theorem Alg(ls:List (List Rn))(N:Int)(i:Int)(k:Nat)(cs:List AV)(l:List Rt)(M:Int)(j:Int)(s p:Int)(b:Bool)(c1:A (j<M)=true)(c2:A (s>=0)=false)(c3:(b)=true)(n1:0<=j/\j<(l.length:Int))(n2:RQ 169 [] (A2 (cn 1) 0))(n3:RQ 76 [Bw ((l.getD (D j) zR).fs) ((l.getD (D j) zR).r) ((l.getD (D j) zR).e) ((l.getD (D j) zR).t) ((l.getD (D j) zR).f),A2 (cn 1) 0] (F O s))(hl4:Ap (.loop OT) (IP ls N i k cs l M j ((l.getD (D j) zR).fs) ((l.getD (D j) zR).r) ((l.getD (D j) zR).e) ((l.getD (D j) zR).t) ((l.getD (D j) zR).f) (k:Int) false) (.exit 4) (IP ls N i k cs l M j ((l.getD (D j) zR).fs) ((l.getD (D j) zR).r) ((l.getD (D j) zR).e) ((l.getD (D j) zR).t) ((l.getD (D j) zR).f) p b)):Ap LJ (G7 ls N i k cs l M j) .norm (G7 ls N i k cs l M (I O (j+1))):=(CE.asc (CE.seq (J (t:=(W 3 (X 7 k cs::(W 10 (C (sL pp ls)::(u N::(u i::(W 10 (C (H l.length (CI l))::(u M::(u j::(W 103 [])))))))))))) V [bT] PK (Jx c1)) (CE.seq (v (CE.asc (CE.asc (CE.asc (CE.seq (J V [.v (Bw ((l.getD (D j) zR).fs) ((l.getD (D j) zR).r) ((l.getD (D j) zR).e) ((l.getD (D j) zR).t) ((l.getD (D j) zR).f)),.r (A2 (cn 1) 0),.r (F O s),bF] Ym (JL n1 (HY n1) n2 n3 c2)) (CE.seq (CE.block hl4) (J (t:=(W 3 (X 7 k cs::(W 10 (C (sL pp ls)::(u N::(u i::(W 10 (C (H l.length (CI l))::(u M::(u j::(W 103 [])))))))))))) V [bF] PK (Jx (N_ c3))))))))) (J V [] PK a0))))
theorem Alh(ls:List (List Rn))(N:Int)(i:Int)(k:Nat)(cs:List AV)(l:List Rt)(M:Int)(j:Int)(s p:Int)(b:Bool)(c1:A (j<M)=true)(c2:A (s>=0)=false)(c3:(b)=false)(n1:0<=j/\j<(l.length:Int))(n2:RQ 169 [] (A2 (cn 1) 0))(n3:RQ 76 [Bw ((l.getD (D j) zR).fs) ((l.getD (D j) zR).r) ((l.getD (D j) zR).e) ((l.getD (D j) zR).t) ((l.getD (D j) zR).f),A2 (cn 1) 0] (F O s))(hl4:Ap (.loop OT) (IP ls N i k cs l M j ((l.getD (D j) zR).fs) ((l.getD (D j) zR).r) ((l.getD (D j) zR).e) ((l.getD (D j) zR).t) ((l.getD (D j) zR).f) (k:Int) false) (.exit 4) (IP ls N i k cs l M j ((l.getD (D j) zR).fs) ((l.getD (D j) zR).r) ((l.getD (D j) zR).e) ((l.getD (D j) zR).t) ((l.getD (D j) zR).f) p b))(n5:0<=p)(n6:0<=(D p)/\(D p)<=k)(n7:(D p)<=k/\k<=k)(n8:k<=k/\1+(k-(D p))<=1048576)(n9:(D p)<=k)(n10:Bl (([H (((l.getD (D j) zR).fs).length) (pc ((l.getD (D j) zR).fs)),B (((l.getD (D j) zR).r).1),H (((l.getD (D j) zR).r).2.length) (lm ((l.getD (D j) zR).r).2),F O ((l.getD (D j) zR).e),B (((l.getD (D j) zR).t).1),H (((l.getD (D j) zR).t).2.length) (lm ((l.getD (D j) zR).t).2),F O ((l.getD (D j) zR).f)]:List AV)++Bx ((k-(D p))*7) (g ((D p)*7) cs))=(1+(k-(D p)))*7/\(D p)+(1+(k-(D p)))<=1048576):Ap LJ (G7 ls N i k cs l M j) .norm (G7 ls N i ((D p)+(1+(k-(D p)))) (Bx ((D p)*7) cs++(([H (((l.getD (D j) zR).fs).length) (pc ((l.getD (D j) zR).fs)),B (((l.getD (D j) zR).r).1),H (((l.getD (D j) zR).r).2.length) (lm ((l.getD (D j) zR).r).2),F O ((l.getD (D j) zR).e),B (((l.getD (D j) zR).t).1),H (((l.getD (D j) zR).t).2.length) (lm ((l.getD (D j) zR).t).2),F O ((l.getD (D j) zR).f)]:List AV)++Bx ((k-(D p))*7) (g ((D p)*7) cs))) l M (I O (j+1))):=(CE.asc (CE.seq (J (t:=(W 3 (X 7 k cs::(W 10 (C (sL pp ls)::(u N::(u i::(W 10 (C (H l.length (CI l))::(u M::(u j::(W 103 [])))))))))))) V [bT] PK (Jx c1)) (CE.seq (v (CE.asc (CE.asc (CE.asc (CE.seq (J V [.v (Bw ((l.getD (D j) zR).fs) ((l.getD (D j) zR).r) ((l.getD (D j) zR).e) ((l.getD (D j) zR).t) ((l.getD (D j) zR).f)),.r (A2 (cn 1) 0),.r (F O s),bF] Ym (JL n1 (HY n1) n2 n3 c2)) (CE.seq (CE.block hl4) (J (t:=(W 3 (X 7 ((D p)+(1+(k-(D p)))) (Bx ((D p)*7) cs++(([H (((l.getD (D j) zR).fs).length) (pc ((l.getD (D j) zR).fs)),B (((l.getD (D j) zR).r).1),H (((l.getD (D j) zR).r).2.length) (lm ((l.getD (D j) zR).r).2),F O ((l.getD (D j) zR).e),B (((l.getD (D j) zR).t).1),H (((l.getD (D j) zR).t).2.length) (lm ((l.getD (D j) zR).t).2),F O ((l.getD (D j) zR).f)]:List AV)++Bx ((k-(D p))*7) (g ((D p)*7) cs)))::(W 10 (C (sL pp ls)::(u N::(u i::(W 10 (C (H l.length (CI l))::(u M::(u j::(W 103 [])))))))))))) V [bT] PK (ND (Yx c3) n5 n6 n5 n7 n8 n9 n10)))))))) (J V [] PK a0))))
theorem Ali(ls:List (List Rn))(N:Int)(i:Int)(k:Nat)(cs:List AV)(l:List Rt)(M:Int)(j:Int)(c1:A (j<M)=false):Ap LJ (G7 ls N i k cs l M j) (.exit 2) (G7 ls N i k cs l M j):=(CE.asc (A4 (J V [bF] PK (Jx c1))))
def OU:ICode:=c Asy 93 116
def IQ(ls:List (List Rn))(N:Int)(i:Int)(k:Nat)(cs:List AV):Aj:=(W 3 (X 7 k cs::(W 10 (C (sL pp ls)::(C (F O N)::(C (F O i)::(W 116 [])))))))
theorem Alj(ls:List (List Rn))(N:Int)(i:Int)(k:Nat)(cs:List AV)(l:List Rt)(ok:Bool)(j:Int)(k1:Nat)(cs1:List AV)(c1:A (i<N)=true)(n1:0<=i/\i<(ls.length:Int))(n2:RQ 169 [] (A2 (cn 1) 0))(n3:RQ 56 [H ((ls.getD (D i) []).length) (pc (ls.getD (D i) [])),o [B false,H 0 [],F O 0],A2 (cn 1) 0,F O 1073741824] (Ar [H l.length (CI l),B ok]))(hl4:Ap (.loop LJ) (G7 ls N i k cs l (l.length:Int) 0) (.exit 2) (G7 ls N i k1 cs1 l (l.length:Int) j)):Ap OU (IQ ls N i k cs) .norm (IQ ls N (I O (i+1)) k1 cs1):=(CE.asc (CE.seq (J (t:=(W 3 (X 7 k cs::(W 10 (C (sL pp ls)::(u N::(u i::(W 116 [])))))))) V [bT] Vm (Jx c1)) (CE.seq (v (CE.asc (CE.asc (CE.seq (J V [.v (H ((ls.getD (D i) []).length) (pc (ls.getD (D i) []))),.r (A2 (cn 1) 0),.r (Ar [H l.length (CI l),B ok])] PK (JS n1 (Cq n1) n2 n3)) (CE.block hl4))))) (J V [] Vm a0))))
theorem Alk(ls:List (List Rn))(N:Int)(i:Int)(k:Nat)(cs:List AV)(c1:A (i<N)=false):Ap OU (IQ ls N i k cs) (.exit 0) (IQ ls N i k cs):=(CE.asc (A4 (J V [bF] Vm (Jx c1))))
theorem Aaa(ls:List (List Rn))(N:Int)(i:Int)(k:Nat)(cs:List AV)(l:List Rt)(ok:Bool)(j:Int)(k1:Nat)(cs1:List AV)(c1:A (i<N)=true)(n1:0<=i/\i<(ls.length:Int))(n2:RQ 169 [] (A2 (cn 1) 0))(n3:RQ 56 [H ((ls.getD (D i) []).length) (pc (ls.getD (D i) [])),o [B false,H 0 [],F O 0],A2 (cn 1) 0,F O 1073741824] (.frs (.tp ok) 7 l.length (CI l)))(hl4:Ap (.loop LJ) (G7 ls N i k cs l (l.length:Int) 0) (.exit 2) (G7 ls N i k1 cs1 l (l.length:Int) j)):Ap OU (IQ ls N i k cs) .norm (IQ ls N (I O (i+1)) k1 cs1):=(CE.asc (CE.seq (J (t:=(W 3 (X 7 k cs::(W 10 (C (sL pp ls)::(u N::(u i::(W 116 [])))))))) V [bT] Vm (Jx c1)) (CE.seq (v (CE.asc (CE.asc (CE.seq (J V [.v (H ((ls.getD (D i) []).length) (pc (ls.getD (D i) []))),.r (A2 (cn 1) 0),.r (.frs (.tp ok) 7 l.length (CI l))] PK (JS n1 (Cq n1) n2 n3)) (CE.block hl4))))) (J V [] Vm a0))))
def Na:ICode:=c Asy 84 62664
def Im(n:Nat)(l:List Rt)(N:Int)(i:Int):Aj:=(W 3 (X 7 n (CI l)::(W 9 (C (F O i)::(W 59 (C (F O N)::(C (F O i)::(W 58 []))))))))
theorem All(n:Nat)(l:List Rt)(N:Int)(i:Int)(x y:Rt)(c:Int)(c1:A ((I O (i+1))<(n:Int))=true)(c2:A (c>=0)=true)(n1:0<=i/\i<(n:Int))(n2:l.length=n)(n3:0<=(I O (i+1))/\(I O (i+1))<(n:Int))(n4:(l.set (D i) x).length=n)(n5:RQ 55 [A2 ((l.getD (D i) zR).t) ((l.getD (D i) zR).f),A2 ((l.getD (D (I O (i+1))) zR).r) ((l.getD (D (I O (i+1))) zR).e)] (F O c))(n6:RQ 82 [Bw ((l.getD (D i) zR).fs) ((l.getD (D i) zR).r) ((l.getD (D i) zR).e) ((l.getD (D i) zR).t) ((l.getD (D i) zR).f)] (Bw x.fs x.r x.e x.t x.f))(n7:RQ 82 [Bw ((l.getD (D (I O (i+1))) zR).fs) ((l.getD (D (I O (i+1))) zR).r) ((l.getD (D (I O (i+1))) zR).e) ((l.getD (D (I O (i+1))) zR).t) ((l.getD (D (I O (i+1))) zR).f)] (Bw y.fs y.r y.e y.t y.f)):Ap Na (Im n l N i) .norm (Im n ((l.set (D i) x).set (D (I O (i+1))) y) N i):=(J V [bT,.v (A2 ((l.getD (D i) zR).t) ((l.getD (D i) zR).f)),.v (A2 ((l.getD (D (I O (i+1))) zR).r) ((l.getD (D (I O (i+1))) zR).e)),.r (F O c),bT,.v (Bw ((l.getD (D i) zR).fs) ((l.getD (D i) zR).r) ((l.getD (D i) zR).e) ((l.getD (D i) zR).t) ((l.getD (D i) zR).f)),.r (Bw x.fs x.r x.e x.t x.f),.v (Bw ((l.getD (D (I O (i+1))) zR).fs) ((l.getD (D (I O (i+1))) zR).r) ((l.getD (D (I O (i+1))) zR).e) ((l.getD (D (I O (i+1))) zR).t) ((l.getD (D (I O (i+1))) zR).f)),.r (Bw y.fs y.r y.e y.t y.f),.l (CI (l.set (D i) x)),.l (CI ((l.set (D i) x).set (D (I O (i+1))) y))] Vk (Q8 c1 n1 (Ml n2 n1).2 n3 (Ml n2 n3).1 n5 c2 n1 (Qx (Sd n2 n1) n6 n3 (Sd n2 n3) n7 n1 (show C5 (CI l) (D i*7) [H x.fs.length (pc x.fs),B x.r.1,H x.r.2.length (lm x.r.2),F O x.e,B x.t.1,H x.t.2.length (lm x.t.2),F O x.f]=some (CI (l.set (D i) x)) from (VS (x:=x) n2 n1)) n3 (show C5 (CI (l.set (D i) x)) (D (I O (i+1))*7) [H y.fs.length (pc y.fs),B y.r.1,H y.r.2.length (lm y.r.2),F O y.e,B y.t.1,H y.t.2.length (lm y.t.2),F O y.f]=some (CI ((l.set (D i) x).set (D (I O (i+1))) y)) from (VS (x:=y) n4 n3)))))
theorem Alm(n:Nat)(l:List Rt)(N:Int)(i:Int)(c:Int)(c1:A ((I O (i+1))<(n:Int))=true)(c2:A (c>=0)=false)(n1:0<=i/\i<(n:Int))(n2:l.length=n)(n3:0<=(I O (i+1))/\(I O (i+1))<(n:Int))(n4:RQ 55 [A2 ((l.getD (D i) zR).t) ((l.getD (D i) zR).f),A2 ((l.getD (D (I O (i+1))) zR).r) ((l.getD (D (I O (i+1))) zR).e)] (F O c)):Ap Na (Im n l N i) (.exit 8) (Im n l N i):=(J V [bT,.v (A2 ((l.getD (D i) zR).t) ((l.getD (D i) zR).f)),.v (A2 ((l.getD (D (I O (i+1))) zR).r) ((l.getD (D (I O (i+1))) zR).e)),.r (F O c),bF] Vk (Lm c1 n1 (Ml n2 n1).2 n3 (Ml n2 n3).1 n4 c2))
theorem Aln(n:Nat)(l:List Rt)(N:Int)(i:Int)(c1:A ((I O (i+1))<(n:Int))=false):Ap Na (Im n l N i) (.exit 8) (Im n l N i):=(J V [bF,bF] Vk (J0 c1 Fc))
def RH:ICode:=c Asy 84 62668
def LR(n:Nat)(l:List Rt)(N:Int)(i:Int):Aj:=(W 3 (X 7 n (CI l)::(W 9 (C (F O i)::(W 59 (C (F O N)::(C (F O i)::(W 58 []))))))))
theorem Alo(n:Nat)(l:List Rt)(N:Int)(i:Int)(x:Rt)(c:Int)(c1:A (c>=0)=true)(n1:0<=i/\i<(n:Int))(n2:l.length=n)(n3:RQ 169 [] (A2 (cn 1) 0))(n4:RQ 55 [A2 ((l.getD (D i) zR).t) ((l.getD (D i) zR).f),A2 (cn 1) 0] (F O c))(n5:RQ 82 [Bw ((l.getD (D i) zR).fs) ((l.getD (D i) zR).r) ((l.getD (D i) zR).e) ((l.getD (D i) zR).t) ((l.getD (D i) zR).f)] (Bw x.fs x.r x.e x.t x.f)):Ap RH (LR n l N i) .norm (LR n (l.set (D i) x) N i):=(J V [.v (A2 ((l.getD (D i) zR).t) ((l.getD (D i) zR).f)),.r (A2 (cn 1) 0),.r (F O c),bT,.v (Bw ((l.getD (D i) zR).fs) ((l.getD (D i) zR).r) ((l.getD (D i) zR).e) ((l.getD (D i) zR).t) ((l.getD (D i) zR).f)),.r (Bw x.fs x.r x.e x.t x.f),.l (CI (l.set (D i) x))] Vk (OS n1 (Ml n2 n1).2 n3 n4 c1 n1 (Sd n2 n1) n5 n1 (show C5 (CI l) (D i*7) [H x.fs.length (pc x.fs),B x.r.1,H x.r.2.length (lm x.r.2),F O x.e,B x.t.1,H x.t.2.length (lm x.t.2),F O x.f]=some (CI (l.set (D i) x)) from (VS (x:=x) n2 n1))))
theorem Alp(n:Nat)(l:List Rt)(N:Int)(i:Int)(c:Int)(c1:A (c>=0)=false)(n1:0<=i/\i<(n:Int))(n2:l.length=n)(n3:RQ 169 [] (A2 (cn 1) 0))(n4:RQ 55 [A2 ((l.getD (D i) zR).t) ((l.getD (D i) zR).f),A2 (cn 1) 0] (F O c)):Ap RH (LR n l N i) (.exit 10) (LR n l N i):=(J V [.v (A2 ((l.getD (D i) zR).t) ((l.getD (D i) zR).f)),.r (A2 (cn 1) 0),.r (F O c),bF] Vk (JL n1 (Ml n2 n1).2 n3 n4 c1))
def RI:ICode:=c Asy 92 244
def KE(n:Nat)(l:List Rt)(N:Int)(i:Int):Aj:=(W 3 (X 7 n (CI l)::(W 69 (C (F O N)::(C (F O i)::(W 58 []))))))
theorem eI(n:Nat)(l:List Rt)(N:Int)(i:Int)(l1 l2:List Rt)(c1:A (i<N)=true)(hl1:Ap (.loop Na) (Im n l N i) (.exit 8) (Im n l1 N i))(hl2:Ap (.loop RH) (LR n l1 N i) (.exit 10) (LR n l2 N i)):Ap RI (KE n l N i) .norm (KE n l2 N (I O (i+1))):=(CE.asc (CE.seq (J (t:=(W 3 (X 7 n (CI l)::(W 69 (u N::(u i::(W 58 []))))))) V [bT] [3,73,74] (Jx c1)) (CE.seq (v (CE.seq (J V [] Vk a0) (CE.seq (CE.block hl1) (CE.block hl2)))) (J V [] [3,73,74] a0))))
theorem Alq(n:Nat)(l:List Rt)(N:Int)(i:Int)(c1:A (i<N)=false):Ap RI (KE n l N i) (.exit 6) (KE n l N i):=(CE.asc (A4 (J V [bF] [3,73,74] (Jx c1))))
theorem A2a(ls:List (List Rn))(l l2:List Rt)(i i2:Int)(hl1:Ap (.loop OU) (IQ ls (ls.length:Int) 0 0 ([]:List AV)) (.exit 0) (IQ ls (ls.length:Int) i l.length (CI l)))(hl2:Ap (.loop RI) (KE l.length l (l.length:Int) 0) (.exit 6) (KE l.length l2 (l.length:Int) i2)):RQ 168 [sL pp ls] (P 7 l.length (CI l2)):=OO Asy (W 2 (X 7 l.length (CI l2)::(W 130 []))) (CE.asc (Av (CE.seq (J V [] Vm a0) (CE.seq (CE.block hl1) (CE.seq (CE.seq (J V [] [3,73,74] a0) (CE.block hl2)) (J V [] [2] a0))))))
def G5:ICode:=c Arl 91 436
def DM(o:Bool)(k:Nat)(cs:List AV)(nw:Bool)(ls:List (List Rn))(N:Int)(i:Int):Aj:=(W 2 (Ay [H 0 [],B false,H 0 [],F O 0,B false,H 0 [],F O 0]::(C (B o)::(X 1 k cs::(C (B nw)::(W 11 (C (sL pp ls)::(C (F O N)::(C (F O i)::(W 67 []))))))))))
theorem Alr(o:Bool)(k:Nat)(cs:List AV)(nw:Bool)(ls:List (List Rn))(N:Int)(i:Int)(ts:List Rn)(b1 b2:Bool)(c1:A (i<N)=true)(c2:(b1)=true)(n1:0<=i/\i<(ls.length:Int))(n2:RQ 66 [H ((ls.getD (D i) []).length) (pc (ls.getD (D i) []))] (P 2 ts.length (pc ts)))(n3:RQ 166 [sL pc ts] (Ar [B b1,B b2])):Ap G5 (DM o k cs nw ls N i) .ret (DM false k cs nw ls N i):=(J V [bT,.v (H ((ls.getD (D i) []).length) (pc (ls.getD (D i) []))),.r (P 2 ts.length (pc ts)),.r (Ar [B b1,B b2]),bT] Sv (JT c1 n1 (Cq n1) n2 n3 c2))
theorem Als(o:Bool)(k:Nat)(cs:List AV)(nw:Bool)(ls:List (List Rn))(N:Int)(i:Int)(ts:List Rn)(b1 b2:Bool)(c1:A (i<N)=true)(c2:(b1)=false)(c3:(b2)=true)(n1:0<=i/\i<(ls.length:Int))(n2:RQ 66 [H ((ls.getD (D i) []).length) (pc (ls.getD (D i) []))] (P 2 ts.length (pc ts)))(n3:RQ 166 [sL pc ts] (Ar [B b1,B b2])):Ap G5 (DM o k cs nw ls N i) .norm (DM o k cs nw ls N (I O (i+1))):=(J V [bT,.v (H ((ls.getD (D i) []).length) (pc (ls.getD (D i) []))),.r (P 2 ts.length (pc ts)),.r (Ar [B b1,B b2]),bF,bF] Sv (Lm c1 n1 (Cq n1) n2 n3 c2 (N_ c3)))
theorem Alt(o:Bool)(k:Nat)(cs:List AV)(nw:Bool)(ls:List (List Rn))(N:Int)(i:Int)(ts:List Rn)(b1 b2:Bool)(s:Int)(c1:A (i<N)=true)(c2:(b1)=false)(c3:(b2)=false)(c4:(nw)=true)(n1:0<=i/\i<(ls.length:Int))(n2:k+1<=1048576)(n3:RQ 66 [H ((ls.getD (D i) []).length) (pc (ls.getD (D i) []))] (P 2 ts.length (pc ts)))(n4:RQ 166 [sL pc ts] (Ar [B b1,B b2]))(n5:RQ 167 [sL pc ts] (F O s)):Ap G5 (DM o k cs nw ls N i) .norm (DM o (k+1) (cs++([sL pc ts]:List AV)) (A (s>0)) ls N (I O (i+1))):=(J V [bT,.v (H ((ls.getD (D i) []).length) (pc (ls.getD (D i) []))),.r (P 2 ts.length (pc ts)),.r (Ar [B b1,B b2]),bF,bT,bT,.r (F O s)] Sv (NF c1 n1 (Cq n1) n3 n4 c2 (Yx c3) (show Bl ([sL pc ts]:List AV)=1*1 from rfl) n2 c4 n5))
theorem Alu(o:Bool)(k:Nat)(cs:List AV)(nw:Bool)(ls:List (List Rn))(N:Int)(i:Int)(ts:List Rn)(b1 b2:Bool)(c1:A (i<N)=true)(c2:(b1)=false)(c3:(b2)=false)(c4:(nw)=false)(n1:0<=i/\i<(ls.length:Int))(n2:k+1<=1048576)(n3:RQ 66 [H ((ls.getD (D i) []).length) (pc (ls.getD (D i) []))] (P 2 ts.length (pc ts)))(n4:RQ 166 [sL pc ts] (Ar [B b1,B b2])):Ap G5 (DM o k cs nw ls N i) .norm (DM o (k+1) (cs++([sL pc ts]:List AV)) false ls N (I O (i+1))):=(J V [bT,.v (H ((ls.getD (D i) []).length) (pc (ls.getD (D i) []))),.r (P 2 ts.length (pc ts)),.r (Ar [B b1,B b2]),bF,bT,bF] Sv (OS c1 n1 (Cq n1) n3 n4 c2 (Yx c3) (show Bl ([sL pc ts]:List AV)=1*1 from rfl) n2 c4))
theorem Alv(o:Bool)(k:Nat)(cs:List AV)(nw:Bool)(ls:List (List Rn))(N:Int)(i:Int)(c1:A (i<N)=false):Ap G5 (DM o k cs nw ls N i) (.exit 0) (DM o k cs nw ls N i):=(J V [bF] Sv (Jx c1))
def Kz:ICode:=c Arl 75 29314292
def FV(oF:List Rn)(oR:Rn)(oE:Int)(oT:Rn)(oG:Int)(o:Bool)(ps:List (List Rn))(l:List Rt)(M:Int)(j:Int)(d:Int)(fs:List Rn)(r:Rn)(e:Int)(t:Rn)(f:Int)(m:Rn)(g:Int)(q:Int):Aj:=(W 2 (IG oF oR oE oT oG::(C (B o)::(C (sL pp ps)::(W 5 (C (H l.length (CI l))::(C (F O d)::(IG fs r e t f::(W 1 (Ay [B m.1,H m.2.length (lm m.2),F O g]::(W 35 (C (H l.length (CI l))::(C (F O M)::(C (F O j)::(W 20 (C (sL pp ps)::(C (F O (ps.length:Int))::(C (F O q)::(W 11 [])))))))))))))))))))
theorem Alw(oF:List Rn)(oR:Rn)(oE:Int)(oT:Rn)(oG:Int)(o:Bool)(ps:List (List Rn))(l:List Rt)(M:Int)(j:Int)(d:Int)(fs:List Rn)(r:Rn)(e:Int)(t:Rn)(f:Int)(m:Rn)(g:Int)(q:Int)(s:Int)(c1:A (q<(ps.length:Int))=true)(c2:A (s<=0)=true)(n1:0<=q/\q<(ps.length:Int))(n2:RQ 65 [H ((ps.getD (D q) []).length) (pc (ps.getD (D q) [])),A2 m g] (F O s)):Ap Kz (FV oF oR oE oT oG o ps l M j d fs r e t f m g q) (.exit 3) (FV oF oR oE oT oG o ps l M j d fs r e t f m g q):=(J V [bT,.v (H ((ps.getD (D q) []).length) (pc (ps.getD (D q) []))),.r (F O s),bT] Th (JL c1 n1 (Cq n1) n2 c2))
theorem Alx(oF:List Rn)(oR:Rn)(oE:Int)(oT:Rn)(oG:Int)(o:Bool)(ps:List (List Rn))(l:List Rt)(M:Int)(j:Int)(d:Int)(fs:List Rn)(r:Rn)(e:Int)(t:Rn)(f:Int)(m:Rn)(g:Int)(q:Int)(s:Int)(c1:A (q<(ps.length:Int))=true)(c2:A (s<=0)=false)(n1:0<=q/\q<(ps.length:Int))(n2:RQ 65 [H ((ps.getD (D q) []).length) (pc (ps.getD (D q) [])),A2 m g] (F O s)):Ap Kz (FV oF oR oE oT oG o ps l M j d fs r e t f m g q) .norm (FV oF oR oE oT oG o ps l M j d fs r e t f m g (I O (q+1))):=(J V [bT,.v (H ((ps.getD (D q) []).length) (pc (ps.getD (D q) []))),.r (F O s),bF] Th (JL c1 n1 (Cq n1) n2 c2))
theorem Aly(oF:List Rn)(oR:Rn)(oE:Int)(oT:Rn)(oG:Int)(o:Bool)(ps:List (List Rn))(l:List Rt)(M:Int)(j:Int)(d:Int)(fs:List Rn)(r:Rn)(e:Int)(t:Rn)(f:Int)(m:Rn)(g:Int)(q:Int)(c1:A (q<(ps.length:Int))=false):Ap Kz (FV oF oR oE oT oG o ps l M j d fs r e t f m g q) (.exit 4) (FV oF oR oE oT oG o ps l M j d fs r e t f m g q):=(J V [bF] Th (Jx c1))
def H9:ICode:=c Arl 87 7156
def E8(oF:List Rn)(oR:Rn)(oE:Int)(oT:Rn)(oG:Int)(o:Bool)(ps:List (List Rn))(l:List Rt)(M:Int)(j:Int):Aj:=(W 2 (IG oF oR oE oT oG::(C (B o)::(C (sL pp ps)::(W 5 (C (H l.length (CI l))::(W 39 (C (H l.length (CI l))::(C (F O M)::(C (F O j)::(W 34 [])))))))))))
theorem Alz(oF:List Rn)(oR:Rn)(oE:Int)(oT:Rn)(oG:Int)(o:Bool)(ps:List (List Rn))(l:List Rt)(M:Int)(j:Int)(m g q:Int)(c1:A (j<M)=true)(c2:A ((I O (j+1))<(l.length:Int))=true)(n1:0<=j/\j<(l.length:Int))(n2:RQ 169 [] (A2 (cn 1) 0))(n3:0<=(I O (j+1))/\(I O (j+1))<(l.length:Int))(n4:RQ 133 [A2 ((l.getD (D j) zR).t) ((l.getD (D j) zR).f),A2 ((l.getD (D (I O (j+1))) zR).r) ((l.getD (D (I O (j+1))) zR).e)] (A2 (cn m) g))(hl5:Ap (.loop Kz) (FV oF oR oE oT oG o ps l M j j ((l.getD (D j) zR).fs) ((l.getD (D j) zR).r) ((l.getD (D j) zR).e) ((l.getD (D j) zR).t) ((l.getD (D j) zR).f) (cn m) g 0) (.exit 3) (FV oF oR oE oT oG o ps l M j j ((l.getD (D j) zR).fs) ((l.getD (D j) zR).r) ((l.getD (D j) zR).e) ((l.getD (D j) zR).t) ((l.getD (D j) zR).f) (cn m) g q)):Ap H9 (E8 oF oR oE oT oG o ps l M j) .norm (E8 oF oR oE oT oG o ps l M (I O (j+1))):=(CE.asc (CE.seq (J (t:=(W 2 (IG oF oR oE oT oG::(C (B o)::(C (sL pp ps)::(W 5 (C (H l.length (CI l))::(W 39 (C (H l.length (CI l))::(u M::(u j::(W 34 [])))))))))))) V [bT] PM (Jx c1)) (CE.seq (CE.block (CE.asc (CE.asc (CE.asc (Av (CE.seq (J V [.v (Bw ((l.getD (D j) zR).fs) ((l.getD (D j) zR).r) ((l.getD (D j) zR).e) ((l.getD (D j) zR).t) ((l.getD (D j) zR).f)),.r (A2 (cn 1) 0),bT,.v (A2 ((l.getD (D (I O (j+1))) zR).r) ((l.getD (D (I O (j+1))) zR).e)),.r (A2 (cn m) g)] Th (Lm n1 (HY n1) n2 c2 n3 (TD n3).1 n4)) (A4 (Oe hl5 (by decide))))))))) (J V [] PM a0))))
theorem Ama(oF:List Rn)(oR:Rn)(oE:Int)(oT:Rn)(oG:Int)(o:Bool)(ps:List (List Rn))(l:List Rt)(M:Int)(j:Int)(m g q:Int)(c1:A (j<M)=true)(c2:A ((I O (j+1))<(l.length:Int))=false)(n1:0<=j/\j<(l.length:Int))(n2:RQ 169 [] (A2 (cn 1) 0))(n3:RQ 133 [A2 ((l.getD (D j) zR).t) ((l.getD (D j) zR).f),A2 (cn 1) 0] (A2 (cn m) g))(hl4:Ap (.loop Kz) (FV oF oR oE oT oG o ps l M j j ((l.getD (D j) zR).fs) ((l.getD (D j) zR).r) ((l.getD (D j) zR).e) ((l.getD (D j) zR).t) ((l.getD (D j) zR).f) (cn m) g 0) (.exit 3) (FV oF oR oE oT oG o ps l M j j ((l.getD (D j) zR).fs) ((l.getD (D j) zR).r) ((l.getD (D j) zR).e) ((l.getD (D j) zR).t) ((l.getD (D j) zR).f) (cn m) g q)):Ap H9 (E8 oF oR oE oT oG o ps l M j) .norm (E8 oF oR oE oT oG o ps l M (I O (j+1))):=(CE.asc (CE.seq (J (t:=(W 2 (IG oF oR oE oT oG::(C (B o)::(C (sL pp ps)::(W 5 (C (H l.length (CI l))::(W 39 (C (H l.length (CI l))::(u M::(u j::(W 34 [])))))))))))) V [bT] PM (Jx c1)) (CE.seq (CE.block (CE.asc (CE.asc (CE.asc (Av (CE.seq (J V [.v (Bw ((l.getD (D j) zR).fs) ((l.getD (D j) zR).r) ((l.getD (D j) zR).e) ((l.getD (D j) zR).t) ((l.getD (D j) zR).f)),.r (A2 (cn 1) 0),bF,.r (A2 (cn m) g)] Th (JL n1 (HY n1) n2 c2 n3)) (A4 (Oe hl4 (by decide))))))))) (J V [] PM a0))))
theorem Amb(oF:List Rn)(oR:Rn)(oE:Int)(oT:Rn)(oG:Int)(o:Bool)(ps:List (List Rn))(l:List Rt)(M:Int)(j:Int)(c1:A (j<M)=false):Ap H9 (E8 oF oR oE oT oG o ps l M j) (.exit 2) (E8 oF oR oE oT oG o ps l M j):=(CE.asc (A4 (J V [bF] PM (Jx c1))))
theorem Aab(oF:List Rn)(oR:Rn)(oE:Int)(oT:Rn)(oG:Int)(o:Bool)(ps:List (List Rn))(l:List Rt)(M:Int)(j:Int)(m g q:Int)(c1:A (j<M)=true)(c2:A ((I O (j+1))<(l.length:Int))=true)(n1:0<=j/\j<(l.length:Int))(n2:RQ 169 [] (A2 (cn 1) 0))(n3:0<=(I O (j+1))/\(I O (j+1))<(l.length:Int))(n4:RQ 133 [A2 ((l.getD (D j) zR).t) ((l.getD (D j) zR).f),A2 ((l.getD (D (I O (j+1))) zR).r) ((l.getD (D (I O (j+1))) zR).e)] (A2 (cn m) g))(hl5:Ap (.loop Kz) (FV oF oR oE oT oG o ps l M j j ((l.getD (D j) zR).fs) ((l.getD (D j) zR).r) ((l.getD (D j) zR).e) ((l.getD (D j) zR).t) ((l.getD (D j) zR).f) (cn m) g 0) (.exit 4) (FV oF oR oE oT oG o ps l M j j ((l.getD (D j) zR).fs) ((l.getD (D j) zR).r) ((l.getD (D j) zR).e) ((l.getD (D j) zR).t) ((l.getD (D j) zR).f) (cn m) g q)):Ap H9 (E8 oF oR oE oT oG o ps l M j) .ret (E8 ((l.getD (D j) zR).fs) ((l.getD (D j) zR).r) ((l.getD (D j) zR).e) ((l.getD (D j) zR).t) ((l.getD (D j) zR).f) true ps l M j):=(CE.asc (CE.seq (J (t:=(W 2 (IG oF oR oE oT oG::(C (B o)::(C (sL pp ps)::(W 5 (C (H l.length (CI l))::(W 39 (C (H l.length (CI l))::(u M::(u j::(W 34 [])))))))))))) V [bT] PM (Jx c1)) (A4 (BO (CE.asc (CE.asc (CE.asc (Av (CE.seq (J V [.v (Bw ((l.getD (D j) zR).fs) ((l.getD (D j) zR).r) ((l.getD (D j) zR).e) ((l.getD (D j) zR).t) ((l.getD (D j) zR).f)),.r (A2 (cn 1) 0),bT,.v (A2 ((l.getD (D (I O (j+1))) zR).r) ((l.getD (D (I O (j+1))) zR).e)),.r (A2 (cn m) g)] Th (Lm n1 (HY n1) n2 c2 n3 (TD n3).1 n4)) (CE.seq (CE.block hl5) (J V [] PM a0)))))))))))
theorem Aac(oF:List Rn)(oR:Rn)(oE:Int)(oT:Rn)(oG:Int)(o:Bool)(ps:List (List Rn))(l:List Rt)(M:Int)(j:Int)(m g q:Int)(c1:A (j<M)=true)(c2:A ((I O (j+1))<(l.length:Int))=false)(n1:0<=j/\j<(l.length:Int))(n2:RQ 169 [] (A2 (cn 1) 0))(n3:RQ 133 [A2 ((l.getD (D j) zR).t) ((l.getD (D j) zR).f),A2 (cn 1) 0] (A2 (cn m) g))(hl4:Ap (.loop Kz) (FV oF oR oE oT oG o ps l M j j ((l.getD (D j) zR).fs) ((l.getD (D j) zR).r) ((l.getD (D j) zR).e) ((l.getD (D j) zR).t) ((l.getD (D j) zR).f) (cn m) g 0) (.exit 4) (FV oF oR oE oT oG o ps l M j j ((l.getD (D j) zR).fs) ((l.getD (D j) zR).r) ((l.getD (D j) zR).e) ((l.getD (D j) zR).t) ((l.getD (D j) zR).f) (cn m) g q)):Ap H9 (E8 oF oR oE oT oG o ps l M j) .ret (E8 ((l.getD (D j) zR).fs) ((l.getD (D j) zR).r) ((l.getD (D j) zR).e) ((l.getD (D j) zR).t) ((l.getD (D j) zR).f) true ps l M j):=(CE.asc (CE.seq (J (t:=(W 2 (IG oF oR oE oT oG::(C (B o)::(C (sL pp ps)::(W 5 (C (H l.length (CI l))::(W 39 (C (H l.length (CI l))::(u M::(u j::(W 34 [])))))))))))) V [bT] PM (Jx c1)) (A4 (BO (CE.asc (CE.asc (CE.asc (Av (CE.seq (J V [.v (Bw ((l.getD (D j) zR).fs) ((l.getD (D j) zR).r) ((l.getD (D j) zR).e) ((l.getD (D j) zR).t) ((l.getD (D j) zR).f)),.r (A2 (cn 1) 0),bF,.r (A2 (cn m) g)] Th (JL n1 (HY n1) n2 c2 n3)) (CE.seq (CE.block hl4) (J V [] PM a0)))))))))))
theorem Amc(ls:List (List Rn))(i:Int)(k:Nat)(cs:List AV)(nw:Bool)(hl1:Ap (.loop G5) (DM false 0 ([]:List AV) true ls (ls.length:Int) 0) .ret (DM false k cs nw ls (ls.length:Int) i)):RQ 139 [sL pp ls] (Ar [o [H 0 [],B false,H 0 [],F O 0,B false,H 0 [],F O 0],B false]):=OO Arl (W 2 (Ay [H 0 [],B false,H 0 [],F O 0,B false,H 0 [],F O 0]::(C (B false)::(X 1 k cs::(C (B nw)::(W 11 (C (sL pp ls)::(C (F O (ls.length:Int))::(C (F O i)::(W 67 [])))))))))) (CE.seq (J (t:=(C (sL pp ls)::(W 1 (Ay [H 0 [],B false,H 0 [],F O 0,B false,H 0 [],F O 0]::(C (B false)::(W 83 [])))))) V [] Mu a0) (CE.scope (CE.asc (Av (CE.seq (J V [] Sv a0) (A4 (BO hl1)))))))
theorem Amd(ls ps:List (List Rn))(i:Int)(fs:List Rn)(r t:Rn)(e f:Int)(hl1:Ap (.loop G5) (DM false 0 ([]:List AV) true ls (ls.length:Int) 0) (.exit 0) (DM false ps.length (pp ps) true ls (ls.length:Int) i))(n2:RQ 81 [o [B false,H 0 [],F O 0]] (Bw fs r e t f)):RQ 139 [sL pp ls] (Ar [Bw fs r e t f,B true]):=OO Arl (W 2 (IG fs r e t f::(C (B true)::(W 83 [])))) (CE.seq (J (t:=(C (sL pp ls)::(W 1 (Ay [H 0 [],B false,H 0 [],F O 0,B false,H 0 [],F O 0]::(C (B false)::(W 83 [])))))) V [] Mu a0) (CE.scope (CE.asc (Av (CE.seq (J V [] Sv a0) (CE.seq (CE.block hl1) (CE.asc (CE.asc (Av (A4 (J V [bT,.r (Bw fs r e t f)] [2,3] (J0 QH n2))))))))))))
theorem Ame(ls ps:List (List Rn))(l:List Rt)(i j:Int)(hl1:Ap (.loop G5) (DM false 0 ([]:List AV) true ls (ls.length:Int) 0) (.exit 0) (DM false ps.length (pp ps) false ls (ls.length:Int) i))(n2:RQ 168 [sL pp ps] (P 7 l.length (CI l)))(hl3:Ap (.loop H9) (E8 ([]) (false,[]) 0 (false,[]) 0 false ps l (l.length:Int) 0) (.exit 2) (E8 ([]) (false,[]) 0 (false,[]) 0 false ps l (l.length:Int) j)):RQ 139 [sL pp ls] (Ar [o [H 0 [],B false,H 0 [],F O 0,B false,H 0 [],F O 0],B false]):=OO Arl (W 2 (Ay [H 0 [],B false,H 0 [],F O 0,B false,H 0 [],F O 0]::(C (B false)::(W 83 [])))) (CE.seq (J (t:=(C (sL pp ls)::(W 1 (Ay [H 0 [],B false,H 0 [],F O 0,B false,H 0 [],F O 0]::(C (B false)::(W 83 [])))))) V [] Mu a0) (CE.scope (CE.asc (Av (CE.seq (J V [] Sv a0) (CE.seq (CE.block hl1) (CE.asc (CE.asc (Av (CE.seq (J V [bF,.r (P 7 l.length (CI l))] PM (J0 Fc n2)) (CE.seq (CE.block hl3) (J V [] [2,3] a0))))))))))))
theorem Amf(ls ps:List (List Rn))(l:List Rt)(i j:Int)(fs:List Rn)(r t:Rn)(e f:Int)(hl1:Ap (.loop G5) (DM false 0 ([]:List AV) true ls (ls.length:Int) 0) (.exit 0) (DM false ps.length (pp ps) false ls (ls.length:Int) i))(n2:RQ 168 [sL pp ps] (P 7 l.length (CI l)))(hl3:Ap (.loop H9) (E8 ([]) (false,[]) 0 (false,[]) 0 false ps l (l.length:Int) 0) .ret (E8 fs r e t f true ps l (l.length:Int) j)):RQ 139 [sL pp ls] (Ar [Bw fs r e t f,B true]):=OO Arl (W 2 (IG fs r e t f::(C (B true)::(C (sL pp ps)::(W 5 (C (H l.length (CI l))::(W 39 (C (H l.length (CI l))::(C (F O (l.length:Int))::(C (F O j)::(W 34 []))))))))))) (CE.seq (J (t:=(C (sL pp ls)::(W 1 (Ay [H 0 [],B false,H 0 [],F O 0,B false,H 0 [],F O 0]::(C (B false)::(W 83 [])))))) V [] Mu a0) (CE.scope (CE.asc (Av (CE.seq (J V [] Sv a0) (CE.seq (CE.block hl1) (CE.asc (CE.asc (Av (CE.seq (J V [bF,.r (P 7 l.length (CI l))] PM (J0 Fc n2)) (A4 (BO hl3))))))))))))
def N':ICode:=c ABe 92 244
def Jk(fs:List Rn)(r:Rn)(e:Int)(t:Rn)(f:Int)(b:Bool)(ll:L3)(N:Int)(i:Int):Aj:=(W 2 (Ay [H 0 [],B false,H 0 [],F O 0,B false,H 0 [],F O 0]::(C (B false)::(IG fs r e t f::(C (B b)::(W 4 (C (H ll.length (DB ll))::(C (F O N)::(C (F O i)::(W 32 []))))))))))
theorem A7i(fs:List Rn)(r:Rn)(e:Int)(t:Rn)(f:Int)(b:Bool)(ll:L3)(N:Int)(i:Int)(gs:List Rn)(p q:Rn)(c d s:Int)(ok:Bool)(c1:A (i<N)=true)(c2:(ok)=true)(c3:(b)=true)(c4:A (s>=0)=true)(n1:0<=i/\i<(ll.length:Int))(n2:RQ 139 [H ((ll.getD (D i) []).length) (pp (ll.getD (D i) []))] (Ar [Bw gs p c q d,B ok]))(n3:RQ 74 [Bw gs p c q d,Bw fs r e t f] (F O s)):Ap N' (Jk fs r e t f b ll N i) .norm (Jk fs r e t f b ll N (I O (i+1))):=(J V [bT,.v (H ((ll.getD (D i) []).length) (pp (ll.getD (D i) []))),.r (Ar [Bw gs p c q d,B ok]),bF,bT,.r (F O s),bF,bT,bT] S_ (OS c1 n1 (Cr n1) n2 (N_ c2) c3 n3 (N_ c2) c3 c4))
theorem A7j(fs:List Rn)(r:Rn)(e:Int)(t:Rn)(f:Int)(b:Bool)(ll:L3)(N:Int)(i:Int)(gs:List Rn)(p q:Rn)(c d s z:Int)(ok x:Bool)(c1:A (i<N)=true)(c2:(ok)=true)(c3:(b)=true)(c4:A (s>=0)=false)(c5:(x)=true)(c6:(z==0)=true)(n1:0<=i/\i<(ll.length:Int))(n2:RQ 139 [H ((ll.getD (D i) []).length) (pp (ll.getD (D i) []))] (Ar [Bw gs p c q d,B ok]))(n3:RQ 74 [Bw gs p c q d,Bw fs r e t f] (F O s))(n4:RQ 125 [Bw gs p c q d] (B x))(n5:RQ 101 [Az p] (F O z)):Ap N' (Jk fs r e t f b ll N i) (.exit 0) (Jk gs p c q d true ll N i):=(J V [bT,.v (H ((ll.getD (D i) []).length) (pp (ll.getD (D i) []))),.r (Ar [Bw gs p c q d,B ok]),bF,bT,.r (F O s),bF,bT,bF,.r (B x),bT,.r (F O z),bT] S_ (Q8 c1 n1 (Cr n1) n2 (N_ c2) c3 n3 (N_ c2) (JT c3 c4 n4 c5 n5 c6)))
theorem A7k(fs:List Rn)(r:Rn)(e:Int)(t:Rn)(f:Int)(b:Bool)(ll:L3)(N:Int)(i:Int)(gs:List Rn)(p q:Rn)(c d s:Int)(ok x:Bool)(c1:A (i<N)=true)(c2:(ok)=true)(c3:(b)=true)(c4:A (s>=0)=false)(c5:(x)=false)(n1:0<=i/\i<(ll.length:Int))(n2:RQ 139 [H ((ll.getD (D i) []).length) (pp (ll.getD (D i) []))] (Ar [Bw gs p c q d,B ok]))(n3:RQ 74 [Bw gs p c q d,Bw fs r e t f] (F O s))(n4:RQ 125 [Bw gs p c q d] (B x)):Ap N' (Jk fs r e t f b ll N i) .norm (Jk gs p c q d true ll N (I O (i+1))):=(J V [bT,.v (H ((ll.getD (D i) []).length) (pp (ll.getD (D i) []))),.r (Ar [Bw gs p c q d,B ok]),bF,bT,.r (F O s),bF,bT,bF,.r (B x),bF,bF] S_ (Q8 c1 n1 (Cr n1) n2 (N_ c2) c3 n3 (N_ c2) (JL c3 c4 n4 c5 Fc)))
theorem A7l(fs:List Rn)(r:Rn)(e:Int)(t:Rn)(f:Int)(b:Bool)(ll:L3)(N:Int)(i:Int)(gs:List Rn)(p q:Rn)(c d z:Int)(ok x:Bool)(c1:A (i<N)=true)(c2:(ok)=true)(c3:(b)=false)(c4:(x)=true)(c5:(z==0)=true)(n1:0<=i/\i<(ll.length:Int))(n2:RQ 139 [H ((ll.getD (D i) []).length) (pp (ll.getD (D i) []))] (Ar [Bw gs p c q d,B ok]))(n3:RQ 125 [Bw gs p c q d] (B x))(n4:RQ 101 [Az p] (F O z)):Ap N' (Jk fs r e t f b ll N i) (.exit 0) (Jk gs p c q d true ll N i):=(J V [bT,.v (H ((ll.getD (D i) []).length) (pp (ll.getD (D i) []))),.r (Ar [Bw gs p c q d,B ok]),bF,bF,bF,bF,bF,.r (B x),bT,.r (F O z),bT] S_ (Q8 c1 n1 (Cr n1) n2 (N_ c2) c3 (N_ c2) c3 (JL Fc n3 c4 n4 c5)))
theorem A7m(fs:List Rn)(r:Rn)(e:Int)(t:Rn)(f:Int)(b:Bool)(ll:L3)(N:Int)(i:Int)(gs:List Rn)(p q:Rn)(c d:Int)(ok x:Bool)(c1:A (i<N)=true)(c2:(ok)=true)(c3:(b)=false)(c4:(x)=false)(n1:0<=i/\i<(ll.length:Int))(n2:RQ 139 [H ((ll.getD (D i) []).length) (pp (ll.getD (D i) []))] (Ar [Bw gs p c q d,B ok]))(n3:RQ 125 [Bw gs p c q d] (B x)):Ap N' (Jk fs r e t f b ll N i) .norm (Jk gs p c q d true ll N (I O (i+1))):=(J V [bT,.v (H ((ll.getD (D i) []).length) (pp (ll.getD (D i) []))),.r (Ar [Bw gs p c q d,B ok]),bF,bF,bF,bF,bF,.r (B x),bF,bF] S_ (Te c1 n1 (Cr n1) n2 (N_ c2) c3 (N_ c2) c3 Fc n3 c4 Fc))
theorem Acw(fs:List Rn)(r:Rn)(e:Int)(t:Rn)(f:Int)(b:Bool)(ll:L3)(N:Int)(i:Int)(gs:List Rn)(p q:Rn)(c d:Int)(ok:Bool)(c1:A (i<N)=true)(c2:(ok)=false)(n1:0<=i/\i<(ll.length:Int))(n2:RQ 139 [H ((ll.getD (D i) []).length) (pp (ll.getD (D i) []))] (Ar [Bw gs p c q d,B ok])):Ap N' (Jk fs r e t f b ll N i) .norm (Jk fs r e t f b ll N (I O (i+1))):=(J V [bT,.v (H ((ll.getD (D i) []).length) (pp (ll.getD (D i) []))),.r (Ar [Bw gs p c q d,B ok]),bT,bT] S_ (JT c1 n1 (Cr n1) n2 (Yx c2) QH))
theorem Acx(fs:List Rn)(r:Rn)(e:Int)(t:Rn)(f:Int)(b:Bool)(ll:L3)(N:Int)(i:Int)(c1:A (i<N)=false):Ap N' (Jk fs r e t f b ll N i) (.exit 0) (Jk fs r e t f b ll N i):=(J V [bF] S_ (Jx c1))
theorem jD(ll:L3)(fs:List Rn)(r t:Rn)(e f i:Int)(b:Bool)(hl1:Ap (.loop N') (Jk ([]) (false,[]) 0 (false,[]) 0 false ll (ll.length:Int) 0) (.exit 0) (Jk fs r e t f b ll (ll.length:Int) i)):RQ 89 [H ll.length (DB ll)] (Ar [Bw fs r e t f,B b]):=OO ABe (W 2 (IG fs r e t f::(C (B b)::(W 41 [])))) (CE.asc (CE.asc (Av (CE.seq (J V [] S_ a0) (CE.seq (CE.block hl1) (J V [] [2,3] a0))))))
def Vg:ICode:=c ABc 74 61240124
def P8(o:Bool)(ll:L3)(N:Int)(i:Int)(ls:List (List Rn))(M:Int)(j:Int)(rs:List Rn)(d:Int)(k:Int):Aj:=(W 2 (C (B o)::(W 3 (C (sL pc rs)::(C (F O d)::(C (F O k)::(W 3 (C (H ll.length (DB ll))::(C (F O N)::(C (F O i)::(W 6 (C (sL pp ls)::(C (F O M)::(C (F O j)::(W 20 [])))))))))))))))
theorem A2b(o:Bool)(ll:L3)(N:Int)(i:Int)(ls:List (List Rn))(M:Int)(j:Int)(rs:List Rn)(d:Int)(k:Int)(z:Int)(c1:A (z>200)=false)(c2:A (k<=d)=true)(n1:0<=k/\k<(rs.length:Int))(n2:RQ 102 [Az (rs.getD (D k) z0)] (F O z)):Ap Vg (P8 o ll N i ls M j rs d k) .norm (P8 o ll N i ls M j rs d (I O (k+1))):=(J V [bT,.v (Az (rs.getD (D k) z0)),.r (F O z),bF] kV (JL c2 n1 (BP n1) n2 c1))
theorem A2c(o:Bool)(ll:L3)(N:Int)(i:Int)(ls:List (List Rn))(M:Int)(j:Int)(rs:List Rn)(d:Int)(k:Int)(c2:A (k<=d)=false):Ap Vg (P8 o ll N i ls M j rs d k) (.exit 4) (P8 o ll N i ls M j rs d k):=(J V [bF] kV (Jx c2))
def Vh:ICode:=c ABc 84 59804
def P9(o:Bool)(ll:L3)(N:Int)(i:Int)(ls:List (List Rn))(M:Int)(j:Int):Aj:=(W 2 (C (B o)::(W 9 (C (H ll.length (DB ll))::(C (F O N)::(C (F O i)::(W 6 (C (sL pp ls)::(C (F O M)::(C (F O j)::(W 20 [])))))))))))
theorem A2d(o:Bool)(ll:L3)(N:Int)(i:Int)(ls:List (List Rn))(M:Int)(j:Int)(d k:Int)(c1:A (d>8)=false)(c2:A (j<M)=true)(n1:0<=j/\j<(ls.length:Int))(n2:RQ 53 [H ((ls.getD (D j) []).length) (pc (ls.getD (D j) []))] (F O d))(hl3:Ap (.loop Vg) (P8 o ll N i ls M j (ls.getD (D j) []) d 0) (.exit 4) (P8 o ll N i ls M j (ls.getD (D j) []) d k)):Ap Vh (P9 o ll N i ls M j) .norm (P9 o ll N i ls M (I O (j+1))):=(CE.asc (CE.seq (J (t:=(W 2 (C (B o)::(W 9 (C (H ll.length (DB ll))::(u N::(u i::(W 6 (C (sL pp ls)::(u M::(u j::(W 20 [])))))))))))) V [bT] fW (Jx c2)) (CE.seq (v (CE.asc (CE.asc (CE.asc (CE.seq (J V [.v (H ((ls.getD (D j) []).length) (pc (ls.getD (D j) []))),.r (F O d),bF] kV (JS n1 (Cq n1) n2 c1)) (CE.block hl3)))))) (J V [] fW a0))))
theorem A2e(o:Bool)(ll:L3)(N:Int)(i:Int)(ls:List (List Rn))(M:Int)(j:Int)(c2:A (j<M)=false):Ap Vh (P9 o ll N i ls M j) (.exit 2) (P9 o ll N i ls M j):=(CE.asc (A4 (J V [bF] fW (Jx c2))))
def XW:ICode:=c ABc 93 116
def TE(o:Bool)(ll:L3)(N:Int)(i:Int):Aj:=(W 2 (C (B o)::(W 9 (C (H ll.length (DB ll))::(C (F O N)::(C (F O i)::(W 29 [])))))))
theorem A2f(o:Bool)(ll:L3)(N:Int)(i:Int)(j:Int)(c1:(A ((((ll.getD (D i) []).length:Nat):Int)>16))=false)(c2:A (i<N)=true)(n1:0<=i/\i<(ll.length:Int))(hl2:Ap (.loop Vh) (P9 o ll N i (ll.getD (D i) []) (((ll.getD (D i) []).length:Nat):Int) 0) (.exit 2) (P9 o ll N i (ll.getD (D i) []) (((ll.getD (D i) []).length:Nat):Int) j)):Ap XW (TE o ll N i) .norm (TE o ll N (I O (i+1))):=(CE.asc (CE.seq (J (t:=(W 2 (C (B o)::(W 9 (C (H ll.length (DB ll))::(u N::(u i::(W 29 [])))))))) V [bT] fY (Jx c2)) (CE.seq (v (CE.asc (CE.asc (CE.seq (J V [.v (H ((ll.getD (D i) []).length) (pp (ll.getD (D i) []))),bF] fW (JV n1 (Cr n1) c1)) (CE.block hl2))))) (J V [] fY a0))))
theorem A2g(o:Bool)(ll:L3)(N:Int)(i:Int)(c2:A (i<N)=false):Ap XW (TE o ll N i) (.exit 0) (TE o ll N i):=(CE.asc (A4 (J V [bF] fY (Jx c2))))
theorem A7n(ll:L3)(i:Int)(c1:A ((ll.length:Int)>64)=false)(hl1:Ap (.loop XW) (TE false ll (ll.length:Int) 0) (.exit 0) (TE false ll (ll.length:Int) i)):RQ 88 [H ll.length (DB ll)] (B false):=OO ABc (W 2 (C (B false)::(W 41 []))) (CE.asc (Av (CE.seq (J V [bF] fY (Jx c1)) (CE.seq (CE.block hl1) (J V [] [2] a0)))))
theorem eJ(ll:L3)(fs gs:List Rn)(r t p q:Rn)(e f c d:Int)(b:Bool)(c1:(b)=true)(n1:RQ 88 [H ll.length (DB ll)] (B false))(n2:RQ 89 [H ll.length (DB ll)] (Ar [Bw fs r e t f,B b]))(n3:RQ 57 [Bw fs r e t f] (Bw gs p c q d)):RQ 38 [H ll.length (DB ll)] (Ar [Bw gs p c q d,B true,F O 0]):=i (fn:=iF Mv A8w) V rfl 400 rfl [.r (B false),bF,.r (Ar [Bw fs r e t f,B b]),bF,.r (Bw gs p c q d)] (JL n1 Fc n2 (N_ c1) n3)
theorem Amg(ll:L3)(fs:List Rn)(r t:Rn)(e f:Int)(b:Bool)(c1:(b)=false)(n1:RQ 88 [H ll.length (DB ll)] (B false))(n2:RQ 89 [H ll.length (DB ll)] (Ar [Bw fs r e t f,B b])):RQ 38 [H ll.length (DB ll)] (Ar [o [H 0 [],B false,H 0 [],F O 0,B false,H 0 [],F O 0],B false,F O 0]):=i (fn:=iF Mv A8w) V rfl 400 rfl [.r (B false),bF,.r (Ar [Bw fs r e t f,B b]),bT] (JS n1 Fc n2 (Yx c1))
theorem Se(ll:L3)(fs:List Rn)(r t:Rn)(e f z:Int)(b:Bool)(n1:RQ 38 [H ll.length (DB ll)] (Ar [Bw fs r e t f,B b,F O z])):RQ 42 [H ll.length (DB ll)] (Ar [B b,F O z]):=i (fn:=iF Mv A8y) V rfl 400 rfl [.r (Ar [Bw fs r e t f,B b,F O z])] (Jx n1)
def XO:ICode:=c A9b 86 15652
def Ru(rs:List Rn)(ss:List Rn)(k:Nat)(os:List Rn)(i:Int)(j:Int):Aj:=(C (sL pc rs)::(C (sL pc ss)::(W 2 (X 2 0 []::(X 2 k (pc os)::(C (F O i)::(C (F O j)::(W 50 []))))))))
theorem A2h(rs:List Rn)(ss:List Rn)(k:Nat)(os:List Rn)(i:Int)(j:Int)(c1:A (j<(ss.length:Int))=true)(n1:0<=(I O (i+j))/\(I O (i+j))<(k:Int))(n2:os.length=k)(n3:0<=i/\i<(rs.length:Int))(n4:0<=j/\j<(ss.length:Int))(n5:RQ 96 [Az (rs.getD (D i) z0),Az (ss.getD (D j) z0)] (Ag ((L (rs.getD (D i) z0))*(L (ss.getD (D j) z0)))))(n6:RQ 95 [Az (os.getD (D (I O (i+j))) z0),Ag ((L (rs.getD (D i) z0))*(L (ss.getD (D j) z0)))] (Ag ((L (os.getD (D (I O (i+j))) z0))+((L (rs.getD (D i) z0))*(L (ss.getD (D j) z0)))))):Ap XO (Ru rs ss k os i j) .norm (Ru rs ss k (os.set (D (I O (i+j))) (cn ((L (os.getD (D (I O (i+j))) z0))+((L (rs.getD (D i) z0))*(L (ss.getD (D j) z0)))))) i (I O (j+1))):=(J V [bT,.v (Az (os.getD (D (I O (i+j))) z0)),.v (Az (rs.getD (D i) z0)),.v (Az (ss.getD (D j) z0)),.r (Ag ((L (rs.getD (D i) z0))*(L (ss.getD (D j) z0)))),.r (Ag ((L (os.getD (D (I O (i+j))) z0))+((L (rs.getD (D i) z0))*(L (ss.getD (D j) z0))))),.l (pc (os.set (D (I O (i+j))) (cn ((L (os.getD (D (I O (i+j))) z0))+((L (rs.getD (D i) z0))*(L (ss.getD (D j) z0)))))))] QF (NF c1 n1 (Hn n2 n1) n3 (BP n3) n4 (BP n4) n5 n6 n1 (HR (r:=cn ((L (os.getD (D (I O (i+j))) z0))+((L (rs.getD (D i) z0))*(L (ss.getD (D j) z0))))) n2 n1)))
theorem A2i(rs:List Rn)(ss:List Rn)(k:Nat)(os:List Rn)(i:Int)(j:Int)(c1:A (j<(ss.length:Int))=false):Ap XO (Ru rs ss k os i j) (.exit 2) (Ru rs ss k os i j):=(J V [bF] QF (Jx c1))
def kW:ICode:=c A9b 92 244
def Z8(rs:List Rn)(ss:List Rn)(k:Nat)(os:List Rn)(i:Int):Aj:=(C (sL pc rs)::(C (sL pc ss)::(W 2 (X 2 0 []::(X 2 k (pc os)::(C (F O i)::(W 51 [])))))))
theorem A7o(rs:List Rn)(ss:List Rn)(k:Nat)(os:List Rn)(i:Int)(os1:List Rn)(c1:A (i<(rs.length:Int))=true)(hl1:Ap (.loop XO) (Ru rs ss k os i 0) (.exit 2) (Ru rs ss k os1 i (ss.length:Int))):Ap kW (Z8 rs ss k os i) .norm (Z8 rs ss k os1 (I O (i+1))):=(CE.seq (J (t:=(vp rs::(vp ss::(W 2 (X 2 0 []::(X 2 k (pc os)::(u i::(W 51 [])))))))) V [bT] Tf (Jx c1)) (CE.seq (v (CE.seq (J V [] QF a0) (CE.block hl1))) (J V [] Tf a0)))
theorem A7p(rs:List Rn)(ss:List Rn)(k:Nat)(os:List Rn)(i:Int)(c1:A (i<(rs.length:Int))=false):Ap kW (Z8 rs ss k os i) (.exit 0) (Z8 rs ss k os i):=(A4 (J V [bF] Tf (Jx c1)))
theorem Amh(rs ss:List Rn)(c1:((rs.length:Int)==0)=true):RQ 45 [sL pc rs,sL pc ss] (P 2 0 []):=OO A9b (W 4 (X 2 0 []::(W 53 []))) (CE.asc (CE.asc (Av (A4 (J V [bT,bT] [4] (J0 c1 QH))))))
theorem Ami(rs ss:List Rn)(c1:((rs.length:Int)==0)=false)(c2:((ss.length:Int)==0)=true):RQ 45 [sL pc rs,sL pc ss] (P 2 0 []):=OO A9b (W 4 (X 2 0 []::(W 53 []))) (CE.asc (CE.asc (Av (A4 (J V [bF,bT] [4] (J0 c1 c2))))))
theorem Amj(rs ss os ts:List Rn)(i:Int)(k:Nat)(c1:((rs.length:Int)==0)=false)(c2:((ss.length:Int)==0)=false)(n1:0<=(I O ((I O ((rs.length:Int)+(ss.length:Int)))-1))/\(I O ((I O ((rs.length:Int)+(ss.length:Int)))-1))<=1048576)(hl2:Ap (.loop kW) ((C (sL pc rs)::(C (sL pc ss)::(W 2 (X 2 0 []::(X 2 (D (I O ((I O ((rs.length:Int)+(ss.length:Int)))-1))) (CD [B false,H 0 []] (D (I O ((I O ((rs.length:Int)+(ss.length:Int)))-1))))::(C (F O 0)::(W 51 [])))))))) (.exit 0) (Z8 rs ss k os i))(n3:RQ 46 [H k (pc os)] (P 2 ts.length (pc ts))):RQ 45 [sL pc rs,sL pc ss] (P 2 ts.length (pc ts)):=OO A9b (W 4 (X 2 ts.length (pc ts)::(W 53 []))) (CE.asc (CE.asc (Av (CE.seq (J V [bF,bF] Tf (JV c1 c2 n1)) (CE.seq (CE.block hl2) (J V [.r (P 2 ts.length (pc ts))] [4] (Jx n3)))))))
def kX:ICode:=c A9e 93 116
def WT(xs:LI)(k:Nat)(cs:List AV)(i:Int):Aj:=(C (H xs.length (li xs))::(W 1 (X 2 0 []::(X 2 k cs::(C (F O i)::(W 16 []))))))
theorem A7q(xs:LI)(k:Nat)(cs:List AV)(i:Int)(c1:A (i<(xs.length:Int))=true)(n1:0<=i/\i<(xs.length:Int))(n2:k+1<=1048576)(n3:RQ 49 [F O (xs.getD (D i) 0)] (Ag (xs.getD (D i) 0))):Ap kX (WT xs k cs i) .norm (WT xs (k+1) (cs++([B (A ((xs.getD (D i) 0)<0)),H ((M (E (xs.getD (D i) 0))).length) (lm (M (E (xs.getD (D i) 0))))]:List AV)) (I O (i+1))):=(J V [bT,.v (F O (xs.getD (D i) 0)),.r (Ag (xs.getD (D i) 0))] KK (JT c1 n1 (Aes n1) n3 (show Bl ([B (A ((xs.getD (D i) 0)<0)),H ((M (E (xs.getD (D i) 0))).length) (lm (M (E (xs.getD (D i) 0))))]:List AV)=1*2 from rfl) n2))
theorem A7r(xs:LI)(k:Nat)(cs:List AV)(i:Int)(c1:A (i<(xs.length:Int))=false):Ap kX (WT xs k cs i) (.exit 0) (WT xs k cs i):=(J V [bF] KK (Jx c1))
theorem A7s(xs:LI)(os ts:List Rn)(i:Int)(k:Nat)(hl1:Ap (.loop kX) (WT xs 0 ([]:List AV) 0) (.exit 0) (WT xs k (pc os) i))(n2:RQ 46 [H k (pc os)] (P 2 ts.length (pc ts))):RQ 47 [H xs.length (li xs)] (P 2 ts.length (pc ts)):=OO A9e (W 2 (X 2 ts.length (pc ts)::(W 18 []))) (CE.asc (Av (CE.seq (J V [] KK a0) (CE.seq (CE.block hl1) (J V [.r (P 2 ts.length (pc ts))] [2] (Jx n2))))))
theorem Amk(x n:Int)(c1:A ((AB x n)<0)=true)(n1:¬ n=0):RQ 44 [F O x,F O n] (F O (I O ((AB x n)+n))):=i (fn:=iF Mv A9a) V rfl 400 rfl [bT] (J0 n1 c1)
theorem Aml(x n:Int)(c1:A ((AB x n)<0)=false)(n1:¬ n=0):RQ 44 [F O x,F O n] (F O (AB x n)):=i (fn:=iF Mv A9a) V rfl 400 rfl [bF] (J0 n1 c1)
def OK:ICode:=c A8v 79 1910348
def I4(o:Bool)(ll:L3)(i:Int)(j:Int)(k:Int):Aj:=(C (H ll.length (DB ll))::(W 1 (C (B o)::(C (F O i)::(C (F O j)::(C (F O k)::(W 72 [])))))))
theorem A2j(o:Bool)(ll:L3)(i:Int)(j:Int)(k:Int)(z:Int)(c1:(A (k<((((ll.getD (D i) []).getD (D j) []).length:Nat):Int)))=true)(c2:A (z>110)=true)(n1:0<=i/\i<(ll.length:Int))(n2:0<=j/\j<(((ll.getD (D i) []).length:Nat):Int))(n3:0<=k/\k<((((ll.getD (D i) []).getD (D j) []).length:Nat):Int))(n4:RQ 51 [Az (((ll.getD (D i) []).getD (D j) []).getD (D k) z0)] (F O z)):Ap OK (I4 o ll i j k) .ret (I4 false ll i j k):=(J V [.v (H ((ll.getD (D i) []).length) (pp (ll.getD (D i) []))),.v (H (((ll.getD (D i) []).getD (D j) []).length) (pc ((ll.getD (D i) []).getD (D j) []))),bT,.v (H ((ll.getD (D i) []).length) (pp (ll.getD (D i) []))),.v (H (((ll.getD (D i) []).getD (D j) []).length) (pc ((ll.getD (D i) []).getD (D j) []))),.v (Az (((ll.getD (D i) []).getD (D j) []).getD (D k) z0)),.r (F O z),bT,bT] Ll (Q8 n1 (Cr n1) n2 (Cq n2) c1 n1 (Cr n1) n2 (JT (Cq n2) n3 (BP n3) n4 c2 QH)))
theorem A2k(o:Bool)(ll:L3)(i:Int)(j:Int)(k:Int)(z:Int)(c1:(A (k<((((ll.getD (D i) []).getD (D j) []).length:Nat):Int)))=true)(c2:A (z>110)=false)(c3:(A ((((((ll.getD (D i) []).getD (D j) []).getD (D k) z0).2.length:Nat):Int)>5))=true)(n1:0<=i/\i<(ll.length:Int))(n2:0<=j/\j<(((ll.getD (D i) []).length:Nat):Int))(n3:0<=k/\k<((((ll.getD (D i) []).getD (D j) []).length:Nat):Int))(n4:RQ 51 [Az (((ll.getD (D i) []).getD (D j) []).getD (D k) z0)] (F O z)):Ap OK (I4 o ll i j k) .ret (I4 false ll i j k):=(J V [.v (H ((ll.getD (D i) []).length) (pp (ll.getD (D i) []))),.v (H (((ll.getD (D i) []).getD (D j) []).length) (pc ((ll.getD (D i) []).getD (D j) []))),bT,.v (H ((ll.getD (D i) []).length) (pp (ll.getD (D i) []))),.v (H (((ll.getD (D i) []).getD (D j) []).length) (pc ((ll.getD (D i) []).getD (D j) []))),.v (Az (((ll.getD (D i) []).getD (D j) []).getD (D k) z0)),.r (F O z),bF,.v (H ((ll.getD (D i) []).length) (pp (ll.getD (D i) []))),.v (H (((ll.getD (D i) []).getD (D j) []).length) (pc ((ll.getD (D i) []).getD (D j) []))),.v (H ((((ll.getD (D i) []).getD (D j) []).getD (D k) z0).2.length) (lm (((ll.getD (D i) []).getD (D j) []).getD (D k) z0).2)),bT] Ll (Q8 n1 (Cr n1) n2 (Cq n2) c1 n1 (Cr n1) n2 (Te (Cq n2) n3 (BP n3) n4 c2 n1 (Cr n1) n2 (Cq n2) n3 (cF n3) c3)))
theorem A2l(o:Bool)(ll:L3)(i:Int)(j:Int)(k:Int)(z:Int)(c1:(A (k<((((ll.getD (D i) []).getD (D j) []).length:Nat):Int)))=true)(c2:A (z>110)=false)(c3:(A ((((((ll.getD (D i) []).getD (D j) []).getD (D k) z0).2.length:Nat):Int)>5))=false)(n1:0<=i/\i<(ll.length:Int))(n2:0<=j/\j<(((ll.getD (D i) []).length:Nat):Int))(n3:0<=k/\k<((((ll.getD (D i) []).getD (D j) []).length:Nat):Int))(n4:RQ 51 [Az (((ll.getD (D i) []).getD (D j) []).getD (D k) z0)] (F O z)):Ap OK (I4 o ll i j k) .norm (I4 o ll i j (I O (k+1))):=(J V [.v (H ((ll.getD (D i) []).length) (pp (ll.getD (D i) []))),.v (H (((ll.getD (D i) []).getD (D j) []).length) (pc ((ll.getD (D i) []).getD (D j) []))),bT,.v (H ((ll.getD (D i) []).length) (pp (ll.getD (D i) []))),.v (H (((ll.getD (D i) []).getD (D j) []).length) (pc ((ll.getD (D i) []).getD (D j) []))),.v (Az (((ll.getD (D i) []).getD (D j) []).getD (D k) z0)),.r (F O z),bF,.v (H ((ll.getD (D i) []).length) (pp (ll.getD (D i) []))),.v (H (((ll.getD (D i) []).getD (D j) []).length) (pc ((ll.getD (D i) []).getD (D j) []))),.v (H ((((ll.getD (D i) []).getD (D j) []).getD (D k) z0).2.length) (lm (((ll.getD (D i) []).getD (D j) []).getD (D k) z0).2)),bF] Ll (Q8 n1 (Cr n1) n2 (Cq n2) c1 n1 (Cr n1) n2 (Te (Cq n2) n3 (BP n3) n4 c2 n1 (Cr n1) n2 (Cq n2) n3 (cF n3) c3)))
theorem A2m(o:Bool)(ll:L3)(i:Int)(j:Int)(k:Int)(c1:(A (k<((((ll.getD (D i) []).getD (D j) []).length:Nat):Int)))=false)(n1:0<=i/\i<(ll.length:Int))(n2:0<=j/\j<(((ll.getD (D i) []).length:Nat):Int)):Ap OK (I4 o ll i j k) (.exit 4) (I4 o ll i j k):=(J V [.v (H ((ll.getD (D i) []).length) (pp (ll.getD (D i) []))),.v (H (((ll.getD (D i) []).getD (D j) []).length) (pc ((ll.getD (D i) []).getD (D j) []))),bF] Ll (JL n1 (Cr n1) n2 (Cq n2) c1))
def OL:ICode:=c A8v 86 14924
def I5(o:Bool)(ll:L3)(i:Int)(j:Int):Aj:=(C (H ll.length (DB ll))::(W 1 (C (B o)::(C (F O i)::(C (F O j)::(W 73 []))))))
theorem A2n(o:Bool)(ll:L3)(i:Int)(j:Int)(c1:(A (j<(((ll.getD (D i) []).length:Nat):Int)))=true)(c2:(A (((((ll.getD (D i) []).getD (D j) []).length:Nat):Int)>8))=true)(n1:0<=i/\i<(ll.length:Int))(n2:0<=j/\j<(((ll.getD (D i) []).length:Nat):Int)):Ap OL (I5 o ll i j) .ret (I5 false ll i j):=(CE.seq (J (t:=(C (H ll.length (DB ll))::(W 1 (C (B o)::(u i::(u j::(W 73 []))))))) V [.v (H ((ll.getD (D i) []).length) (pp (ll.getD (D i) []))),bT] KK (JV n1 (Cr n1) c1)) (A4 (BO (CE.asc (A4 (J V [.v (H ((ll.getD (D i) []).length) (pp (ll.getD (D i) []))),.v (H (((ll.getD (D i) []).getD (D j) []).length) (pc ((ll.getD (D i) []).getD (D j) []))),bT] KK (JL n1 (Cr n1) n2 (Cq n2) c2)))))))
theorem A2o(o:Bool)(ll:L3)(i:Int)(j:Int)(k:Int)(c1:(A (j<(((ll.getD (D i) []).length:Nat):Int)))=true)(c2:(A (((((ll.getD (D i) []).getD (D j) []).length:Nat):Int)>8))=false)(n1:0<=i/\i<(ll.length:Int))(n2:0<=j/\j<(((ll.getD (D i) []).length:Nat):Int))(hl3:Ap (.loop OK) (I4 o ll i j 0) (.exit 4) (I4 o ll i j k)):Ap OL (I5 o ll i j) .norm (I5 o ll i (I O (j+1))):=(CE.seq (J (t:=(C (H ll.length (DB ll))::(W 1 (C (B o)::(u i::(u j::(W 73 []))))))) V [.v (H ((ll.getD (D i) []).length) (pp (ll.getD (D i) []))),bT] KK (JV n1 (Cr n1) c1)) (CE.seq (v (CE.asc (CE.seq (J V [.v (H ((ll.getD (D i) []).length) (pp (ll.getD (D i) []))),.v (H (((ll.getD (D i) []).getD (D j) []).length) (pc ((ll.getD (D i) []).getD (D j) []))),bF] Ll (JL n1 (Cr n1) n2 (Cq n2) c2)) (CE.block hl3)))) (J V [] KK a0)))
theorem A2p(o:Bool)(ll:L3)(i:Int)(j:Int)(c1:(A (j<(((ll.getD (D i) []).length:Nat):Int)))=false)(n1:0<=i/\i<(ll.length:Int)):Ap OL (I5 o ll i j) (.exit 2) (I5 o ll i j):=(A4 (J V [.v (H ((ll.getD (D i) []).length) (pp (ll.getD (D i) []))),bF] KK (JV n1 (Cr n1) c1)))
theorem Amm(o:Bool)(ll:L3)(i:Int)(j:Int)(k:Int)(c1:(A (j<(((ll.getD (D i) []).length:Nat):Int)))=true)(c2:(A (((((ll.getD (D i) []).getD (D j) []).length:Nat):Int)>8))=false)(n1:0<=i/\i<(ll.length:Int))(n2:0<=j/\j<(((ll.getD (D i) []).length:Nat):Int))(hl3:Ap (.loop OK) (I4 o ll i j 0) .ret (I4 false ll i j k)):Ap OL (I5 o ll i j) .ret (I5 false ll i j):=(CE.seq (J (t:=(C (H ll.length (DB ll))::(W 1 (C (B o)::(u i::(u j::(W 73 []))))))) V [.v (H ((ll.getD (D i) []).length) (pp (ll.getD (D i) []))),bT] KK (JV n1 (Cr n1) c1)) (A4 (BO (CE.asc (CE.seq (J V [.v (H ((ll.getD (D i) []).length) (pp (ll.getD (D i) []))),.v (H (((ll.getD (D i) []).getD (D j) []).length) (pc ((ll.getD (D i) []).getD (D j) []))),bF] Ll (JL n1 (Cr n1) n2 (Cq n2) c2)) (BO (W2 (t':=(C (H ll.length (DB ll))::(W 1 (C (B false)::(C (F O i)::(C (F O j)::(W 73 []))))))) [0,2,3,4] hl3 (by kernel_rfl))))))))
def OM:ICode:=c A8v 93 116
def I6(o:Bool)(ll:L3)(i:Int):Aj:=(C (H ll.length (DB ll))::(W 1 (C (B o)::(C (F O i)::(W 74 [])))))
theorem A2q(o:Bool)(ll:L3)(i:Int)(c1:A (i<(ll.length:Int))=true)(c2:(A ((((ll.getD (D i) []).length:Nat):Int)>5))=true)(n1:0<=i/\i<(ll.length:Int)):Ap OM (I6 o ll i) .ret (I6 false ll i):=(CE.seq (J (t:=(C (H ll.length (DB ll))::(W 1 (C (B o)::(u i::(W 74 [])))))) V [bT] Mu (Jx c1)) (A4 (BO (CE.asc (A4 (J V [.v (H ((ll.getD (D i) []).length) (pp (ll.getD (D i) []))),bT] Mu (JV n1 (Cr n1) c2)))))))
theorem A2r(o:Bool)(ll:L3)(i:Int)(j:Int)(c1:A (i<(ll.length:Int))=true)(c2:(A ((((ll.getD (D i) []).length:Nat):Int)>5))=false)(n1:0<=i/\i<(ll.length:Int))(hl2:Ap (.loop OL) (I5 o ll i 0) (.exit 2) (I5 o ll i j)):Ap OM (I6 o ll i) .norm (I6 o ll (I O (i+1))):=(CE.seq (J (t:=(C (H ll.length (DB ll))::(W 1 (C (B o)::(u i::(W 74 [])))))) V [bT] Mu (Jx c1)) (CE.seq (v (CE.asc (CE.seq (J V [.v (H ((ll.getD (D i) []).length) (pp (ll.getD (D i) []))),bF] KK (JV n1 (Cr n1) c2)) (CE.block hl2)))) (J V [] Mu a0)))
theorem A2s(o:Bool)(ll:L3)(i:Int)(c1:A (i<(ll.length:Int))=false):Ap OM (I6 o ll i) (.exit 0) (I6 o ll i):=(A4 (J V [bF] Mu (Jx c1)))
theorem Amn(o:Bool)(ll:L3)(i:Int)(j:Int)(c1:A (i<(ll.length:Int))=true)(c2:(A ((((ll.getD (D i) []).length:Nat):Int)>5))=false)(n1:0<=i/\i<(ll.length:Int))(hl2:Ap (.loop OL) (I5 o ll i 0) .ret (I5 false ll i j)):Ap OM (I6 o ll i) .ret (I6 false ll i):=(CE.seq (J (t:=(C (H ll.length (DB ll))::(W 1 (C (B o)::(u i::(W 74 [])))))) V [bT] Mu (Jx c1)) (A4 (BO (CE.asc (CE.seq (J V [.v (H ((ll.getD (D i) []).length) (pp (ll.getD (D i) []))),bF] KK (JV n1 (Cr n1) c2)) (BO (W2 (t':=(C (H ll.length (DB ll))::(W 1 (C (B false)::(C (F O i)::(W 74 [])))))) [0,2,3] hl2 (by kernel_rfl))))))))
theorem Amo(ll:L3)(c1:A ((ll.length:Int)>5)=true):RQ 37 [H ll.length (DB ll)] (B false):=OO A8v (W 2 (C (B false)::(W 75 []))) (CE.asc (Av (A4 (J V [bT] [2] (Jx c1)))))
theorem Amp(ll:L3)(i:Int)(c1:A ((ll.length:Int)>5)=false)(hl1:Ap (.loop OM) (I6 false ll 0) (.exit 0) (I6 false ll i)):RQ 37 [H ll.length (DB ll)] (B true):=OO A8v (W 2 (C (B true)::(W 75 []))) (CE.asc (Av (CE.seq (J V [bF] Mu (Jx c1)) (CE.seq (CE.block hl1) (J V [] [2] a0)))))
theorem Aad(ll:L3)(i:Int)(c1:A ((ll.length:Int)>5)=false)(hl1:Ap (.loop OM) (I6 false ll 0) .ret (I6 false ll i)):RQ 37 [H ll.length (DB ll)] (B false):=OO A8v (C (H ll.length (DB ll))::(W 1 (C (B false)::(C (F O i)::(W 74 []))))) (CE.asc (Av (CE.seq (J V [bF] Mu (Jx c1)) (A4 (BO hl1)))))
def XK:ICode:=c A8i 81 518452
def Rv(o:Bool)(ll:L3)(x:Int)(n:Int)(k:Nat)(cs:List AV)(i:Int)(ls:List (List Rn))(k2:Nat)(ds:List AV)(j:Int):Aj:=(C (H ll.length (DB ll))::(C (F O x)::(W 2 (C (B o)::(C (F O n)::(X 1 k cs::(C (F O i)::(C (sL pp ls)::(X 1 k2 ds::(C (F O j)::(W 121 [])))))))))))
theorem A2t(o:Bool)(ll:L3)(x:Int)(n:Int)(k:Nat)(cs:List AV)(i:Int)(ls:List (List Rn))(k2:Nat)(ds:List AV)(j:Int)(ts us vs:List Rn)(v:Int)(c1:A (j>=0)=true)(n1:0<=j/\j<(ls.length:Int))(n2:k2+1<=1048576)(n3:RQ 46 [H ((ls.getD (D j) []).length) (pc (ls.getD (D j) []))] (P 2 ts.length (pc ts)))(n4:RQ 44 [F O x,F O 7] (F O v))(n5:RQ 47 [H 1 [F O (I O (1+v))]] (P 2 us.length (pc us)))(n6:RQ 45 [sL pc ts,sL pc us] (P 2 vs.length (pc vs))):Ap XK (Rv o ll x n k cs i ls k2 ds j) .norm (Rv o ll x n k cs i ls (k2+1) (ds++([sL pc vs]:List AV)) (I O (j-1))):=(J V [bT,.v (H ((ls.getD (D j) []).length) (pc (ls.getD (D j) []))),.r (P 2 ts.length (pc ts)),.r (F O v),.r (P 2 us.length (pc us)),.r (P 2 vs.length (pc vs))] gG (Qx c1 n1 (Cq n1) n3 n4 n5 n6 (show Bl ([sL pc vs]:List AV)=1*1 from rfl) n2))
theorem A2u(o:Bool)(ll:L3)(x:Int)(n:Int)(k:Nat)(cs:List AV)(i:Int)(ls:List (List Rn))(k2:Nat)(ds:List AV)(j:Int)(c1:A (j>=0)=false):Ap XK (Rv o ll x n k cs i ls k2 ds j) (.exit 2) (Rv o ll x n k cs i ls k2 ds j):=(J V [bF] gG (Jx c1))
def XL:ICode:=c A8i 90 1012
def Rw(o:Bool)(ll:L3)(x:Int)(n:Int)(k:Nat)(cs:List AV)(i:Int):Aj:=(C (H ll.length (DB ll))::(C (F O x)::(W 2 (C (B o)::(C (F O n)::(X 1 k cs::(C (F O i)::(W 124 []))))))))
theorem A7t(o:Bool)(ll:L3)(x:Int)(n:Int)(k:Nat)(cs:List AV)(i:Int)(ys:List (List Rn))(j:Int)(c1:A (i<(ll.length:Int))=true)(n1:¬ (ll.length:Int)=0)(n2:0<=(AB (I O (i+n)) (ll.length:Int))/\(AB (I O (i+n)) (ll.length:Int))<(ll.length:Int))(hl3:Ap (.loop XK) (Rv o ll x n k cs i (ll.getD (D (AB (I O (i+n)) (ll.length:Int))) []) 0 ([]:List AV) (I O ((((ll.getD (D (AB (I O (i+n)) (ll.length:Int))) []).length:Nat):Int)-1))) (.exit 2) (Rv o ll x n k cs i (ll.getD (D (AB (I O (i+n)) (ll.length:Int))) []) ys.length (pp ys) j))(n4:k+1<=1048576):Ap XL (Rw o ll x n k cs i) .norm (Rw o ll x n (k+1) (cs++([sL pp ys]:List AV)) (I O (i+1))):=(CE.seq (J (t:=(C (H ll.length (DB ll))::(u x::(W 2 (C (B o)::(u n::(X 1 k cs::(u i::(W 124 []))))))))) V [bT] QF (Jx c1)) (CE.seq (v (CE.asc (Av (CE.seq (J V [.v (H ((ll.getD (D (AB (I O (i+n)) (ll.length:Int))) []).length) (pp (ll.getD (D (AB (I O (i+n)) (ll.length:Int))) [])))] gG (JV n1 n2 (Cr n2))) (CE.seq (CE.block hl3) (J (t:=(C (H ll.length (DB ll))::(u x::(W 2 (C (B o)::(u n::(X 1 (k+1) (cs++([sL pp ys]:List AV))::(u i::(W 124 []))))))))) V [] QF (J0 (show Bl ([sL pp ys]:List AV)=1*1 from rfl) n4))))))) (J V [] QF a0)))
theorem A7u(o:Bool)(ll:L3)(x:Int)(n:Int)(k:Nat)(cs:List AV)(i:Int)(c1:A (i<(ll.length:Int))=false):Ap XL (Rw o ll x n k cs i) (.exit 0) (Rw o ll x n k cs i):=(A4 (J V [bF] QF (Jx c1)))
theorem Amq(ll:L3)(x:Int)(w:Bool)(c2:(w)=true)(c3:((ll.length:Int)==0)=true)(n1:RQ 36 [] (B true))(n2:RQ 37 [H ll.length (DB ll)] (B w)):RQ 10 [H ll.length (DB ll),F O x] (B true):=OO A8i (W 4 (C (B true)::(W 127 []))) (CE.asc (CE.asc (CE.asc (CE.asc (Av (A4 (J V [.r (B true),bF,.r (B w),bF,bT,.r (B true)] [4] (JT n1 Fc n2 (N_ c2) c3 n1))))))))
theorem eO(ll mm:L3)(x n i:Int)(b w:Bool)(fs gs:List Rn)(r t p q:Rn)(e f c d:Int)(f1 f2:List Rn)(r3 t3 p3 q3:Rn)(e3 g3 c9 d3:Int)(c2:(w)=true)(c3:((ll.length:Int)==0)=false)(c4:(b==b)=true)(c5:(b)=true)(n1:RQ 36 [] (B true))(n2:RQ 37 [H ll.length (DB ll)] (B w))(n3:RQ 44 [F O x,F O (ll.length:Int)] (F O n))(hl4:Ap (.loop XL) (Rw false ll x n 0 ([]:List AV) 0) (.exit 0) (Rw false ll x n mm.length (DB mm) i))(n5:RQ 38 [H ll.length (DB ll)] (Ar [Bw fs r e t f,B b,F O 0]))(n6:RQ 38 [H mm.length (DB mm)] (Ar [Bw gs p c q d,B b,F O 0]))(n7:RQ 42 [H ll.length (DB ll)] (Ar [B b,F O 0]))(n8:RQ 42 [H mm.length (DB mm)] (Ar [B b,F O 0]))(n9:RQ 20 [Bw fs r e t f] (Bw f1 r3 e3 t3 g3))(n10:RQ 20 [Bw gs p c q d] (Bw f2 p3 c9 q3 d3))(n11:RQ 19 [Bw f1 r3 e3 t3 g3,Bw f2 p3 c9 q3 d3] (F O 0)):RQ 10 [H ll.length (DB ll),F O x] (B true):=OO A8i (W 4 (C (B true)::(W 127 []))) (CE.asc (CE.asc (CE.asc (CE.asc (Av (CE.seq (J V [.r (B true),bF,.r (B w),bF,bF,.r (F O n)] QF (JT n1 Fc n2 (N_ c2) c3 n3)) (CE.seq (CE.block hl4) (J V [.r (Ar [Bw fs r e t f,B b,F O 0]),.r (Ar [Bw gs p c q d,B b,F O 0]),.r (Ar [B b,F O 0]),.r (Ar [B b,F O 0]),bF,bF,bF,bF,bF,bF,bF,.r (Bw f1 r3 e3 t3 g3),.r (Bw f2 p3 c9 q3 d3),.r (F O 0)] [4] (Q8 n5 n6 n7 n8 Fc Fc Fc Fc (JT (show (!(b==b))=false from (by rw [c4];rfl)) (show (!(b==b))=false from (by rw [c4];rfl)) (N_ c5) n9 n10 n11))))))))))
theorem Amr(ll mm:L3)(x n i:Int)(b w:Bool)(fs gs:List Rn)(r t p q:Rn)(e f c d:Int)(c2:(w)=true)(c3:((ll.length:Int)==0)=false)(c4:(b==b)=true)(c5:(b)=false)(n1:RQ 36 [] (B true))(n2:RQ 37 [H ll.length (DB ll)] (B w))(n3:RQ 44 [F O x,F O (ll.length:Int)] (F O n))(hl4:Ap (.loop XL) (Rw false ll x n 0 ([]:List AV) 0) (.exit 0) (Rw false ll x n mm.length (DB mm) i))(n5:RQ 38 [H ll.length (DB ll)] (Ar [Bw fs r e t f,B b,F O 0]))(n6:RQ 38 [H mm.length (DB mm)] (Ar [Bw gs p c q d,B b,F O 0]))(n7:RQ 42 [H ll.length (DB ll)] (Ar [B b,F O 0]))(n8:RQ 42 [H mm.length (DB mm)] (Ar [B b,F O 0])):RQ 10 [H ll.length (DB ll),F O x] (B true):=OO A8i (W 4 (C (B true)::(W 127 []))) (CE.asc (CE.asc (CE.asc (CE.asc (Av (CE.seq (J V [.r (B true),bF,.r (B w),bF,bF,.r (F O n)] QF (JT n1 Fc n2 (N_ c2) c3 n3)) (CE.seq (CE.block hl4) (J V [.r (Ar [Bw fs r e t f,B b,F O 0]),.r (Ar [Bw gs p c q d,B b,F O 0]),.r (Ar [B b,F O 0]),.r (Ar [B b,F O 0]),bF,bF,bF,bF,bF,bF,bT] [4] (NF n5 n6 n7 n8 Fc Fc Fc Fc (show (!(b==b))=false from (by rw [c4];rfl)) (show (!(b==b))=false from (by rw [c4];rfl)) (Yx c5))))))))))
theorem Ams(ll:L3)(x:Int)(w:Bool)(c2:(w)=false)(n1:RQ 36 [] (B true))(n2:RQ 37 [H ll.length (DB ll)] (B w)):RQ 10 [H ll.length (DB ll),F O x] (B true):=OO A8i (W 4 (C (B true)::(W 127 []))) (CE.asc (CE.asc (CE.asc (CE.asc (Av (A4 (J V [.r (B true),bF,.r (B w),bT,bT,.r (B true)] [4] (JT n1 Fc n2 (Yx c2) QH n1))))))))
theorem Ia:RQ 169 [] (A2 (cn 1) 0):=A1r (YC (n:=1) (by decide))
def CL:Nat->Int
 | 0=>1
 | n+1=>CL n*((n+1:Nat):Int)
theorem jE:∀ n,n<=8->1<=CL n/\CL n<=40320:=by decide
theorem O2{n:Nat}(hn:n<=8):RQ 186 [F O (n:Nat)] (F O (CL n)):=by
 have hN:CL (n-1+1)=CL n:=by
  cases n with
  | zero=>rfl
  | succ n=>rfl
 have l:=CE.up (prog:=DK) (c:=Yt) (ex := .exit 0) (fin:=Rs (n:Nat) (CL n) ((n-1+2:Nat):Int)) (fun j=>Rs (n:Nat) (CL (j+1)) ((j+2:Nat):Int)) (n-1) (by nofun)
  (fun j hj=>by
   have b2:=jE (j+2) (by omega);have e2:CL (j+1)*((j+2:Nat):Int)=CL (j+2):=rfl;have k:=A1n (n:Nat) (CL (j+1)) ((j+2:Nat):Int) (by rw[decide_eq_true_eq];omega);rw[e2,Bg (n:=CL (j+2)) (by omega) (by omega),Bg (n:=((j+2:Nat):Int)+1) (by omega) (by omega)] at k;exact k)
  (by
   rw[<- hN];exact A1o (n:Nat) (CL (n-1+1)) ((n-1+2:Nat):Int) (by rw[decide_eq_false_iff_not];omega)) 0 (AN _)
 exact A1p (n:Nat) (CL n) _ l
def aO(n k:Nat):Int:=Ax (CL n) (CL k*CL (n-k))
def Xh(n i k:Nat):Int:=aO i k*(CL k*CL (n-k))
theorem jF:∀ n,n<=8->∀ k,k<=n->1<=CL k*CL (n-k)/\CL k*CL (n-k)<=40320/\0<=aO n k/\aO n k<=70:=by decide +kernel
theorem Acy:∀ n,n<=8->∀ i,i<=n->∀ k,k<=i->0<=Xh n i k/\Xh n i k<=2822400:=by decide +kernel
theorem qZ{n k:Nat}(hn:n<=8)(hk:k<=n):RQ 185 [F O (n:Nat),F O (k:Nat)] (F O (aO n k)):=by
 obtain⟨b1,b2,b3,b4⟩:=jF n hn k hk;have ew:I O (CL k*CL (n-k))=CL k*CL (n-k):=Bg (by omega) (by omega);have e1:I O ((n:Int)-(k:Int))=((n-k:Nat):Int):=by rw[Bg (by omega) (by omega)];omega
 have h:=A1q (n:Nat) (k:Nat) (CL n) (CL k) (CL (n-k)) (by rw[ew];omega) (O2 hn) (O2 (by omega)) (by rw[e1];exact O2 (by omega));rw[ew,Bg (n:=Ax (CL n) (CL k*CL (n-k))) (by have:aO n k=Ax (CL n) (CL k*CL (n-k)):=rfl;omega) (by have:aO n k=Ax (CL n) (CL k*CL (n-k)):=rfl;omega)] at h;exact h
def Jl(p:LI)(n i:Nat):Nat->Int
 | 0=>0
 | k+1=>Jl p n i k+p.getD k 0*Xh n i k
def Sl(p:LI)(n:Nat):Nat->Bool × Bool
 | 0=>(true,true)
 | i+1=>if BQ (Jl p n i (i+1))=1 then (false,(Sl p n i).2) else if BQ (Jl p n i (i+1)) = -1 then ((Sl p n i).1,false) else Sl p n i
def JF(p:LI):Bool:=(Sl p (p.length-1) p.length).1
def PT(p:LI):Bool:=(Sl p (p.length-1) p.length).2 && !JF p
section
variable {p:LI} (hk:Kb 5 p) (hl:p.length<=8)
include hk hl
omit hl in
theorem TF{n i:Nat}(hn:n<=8)(hi:i<=n):∀ k,k<=i+1->Bv (7+k) (Jl p n i k)
 | 0,_=>by unfold Jl Bv;decide
 | k+1,h=>by
  have ih:=TF hn hi k (by omega)
  have hw:=Acy n hn i hi k (by omega)
  have f1:Bv 1 (Xh n i k):=by unfold Bv;omega
  have f2:=((hk k).mul f1).mono (show 5+1<=7+k by omega)
  exact ih.add f2
theorem jG{b1 b2:Bool}{n i:Nat}(hn:n+1=p.length)(hi:i<=n) :
  Ap (.loop M_) (HD (p.map cn) b1 b2 (n:Nat) (i:Nat) (false,[]) 0) (.exit 2) (HD (p.map cn) b1 b2 (n:Nat) (i:Nat) (cn (Jl p n i (i+1))) ((i+1:Nat):Int)):=by
 have z:cn (Jl p n i 0)=((false,[]):Rn):=by unfold Jl;decide
 have l:=CE.up (prog:=DK) (c:=M_) (ex := .exit 2) (fin:=HD (p.map cn) b1 b2 (n:Nat) (i:Nat) (cn (Jl p n i (i+1))) ((i+1:Nat):Int)) (fun k=>HD (p.map cn) b1 b2 (n:Nat) (i:Nat) (cn (Jl p n i k)) (k:Nat)) (i+1) (by nofun)
  (fun k hk'=>by
   obtain⟨c1,c2,c3,c4⟩:=jF i (by omega) k (by omega);have hw:=Acy n (by omega) i hi k (by omega);have a1:=jE k (by omega);have a2:=jE (n-k) (by omega);have a3:=(jF n (by omega) k (by omega));have e1:I O ((n:Int)-(k:Int))=((n-k:Nat):Int):=by rw[Bg (by omega) (by omega)];omega
   have e2:I O (CL k*CL (n-k))=CL k*CL (n-k):=Bg (by omega) (by omega);have e3:I O (aO i k*(CL k*CL (n-k)))=Xh n i k:=Bg (by have:Xh n i k=aO i k*(CL k*CL (n-k)):=rfl;omega) (by have:Xh n i k=aO i k*(CL k*CL (n-k)):=rfl;omega);have e4:I O ((k:Int)+1)=((k+1:Nat):Int):=by rw[Bg (by omega) (by omega)];omega
   have hg:AU 5 ((p.map cn).getD k z0):=Bo (AR hk) k;have f1:Bv 1 (Xh n i k):=by unfold Bv;omega
   have m:=M9 hg (B4 f1) (by decide);rw[FQ,A6] at m;have fs:=(TF hk (n:=n) (by omega) hi k (by omega)).len;have ft:=((hk k).mul f1).len;have ad:=cM (a:=Jl p n i k) (b:=p.getD k 0*Xh n i k) (by omega) (by omega);have h:=Ala (p.map cn) b1 b2 (n:Nat) (i:Nat) (cn (Jl p n i k)) (k:Nat) (CL k) (CL (n-k)) (aO i k) (Xh n i k) (p.getD k 0*Xh n i k) (Jl p n i k+p.getD k 0*Xh n i k)
    (by rw[decide_eq_true_eq];omega) (by rw[Q];omega) (qZ (by omega) (by omega)) (O2 (by omega)) (by rw[e1];exact O2 (by omega)) (by rw[e2,e3];exact YC (by omega)) (by rw[R];exact m) ad
   rw[e4] at h;exact h)
  (Alb (p.map cn) b1 b2 (n:Nat) (i:Nat) _ _ (by rw[decide_eq_false_iff_not];omega)) 0 (AN _)
 rw[z] at l;exact l
theorem Aae:RQ 166 [H (p.map cn).length (pc (p.map cn))] (Ar [B (JF p),B (PT p)]):=by
 have en:I O ((((p.map cn).length:Nat):Int)-1)=(p.length:Int)-1:=by rw[Q];exact Bg (by omega) (by omega)
 have l:=CE.up (prog:=DK) (c:=QC) (ex := .exit 0) (fin:=JE (p.map cn) (Sl p (p.length-1) p.length).1 (Sl p (p.length-1) p.length).2 ((p.length:Int)-1) (p.length:Int)) (fun i=>JE (p.map cn) (Sl p (p.length-1) i).1 (Sl p (p.length-1) i).2 ((p.length:Int)-1) (i:Nat)) p.length (by nofun)
  (fun i hi=>by
   have e4:I O ((i:Int)+1)=((i+1:Nat):Int):=by rw[Bg (by omega) (by omega)];omega
   have ei:((p.length:Int)-1)=((p.length-1:Nat):Int):=by omega
   have hin:=jG hk hl (b1:=(Sl p (p.length-1) i).1) (b2:=(Sl p (p.length-1) i).2) (n:=p.length-1) (i:=i) (by omega) (by omega);have fs:=(TF hk (n:=p.length-1) (i:=i) (by omega) (by omega) (i+1) (Ao _)).len;have sg:=YD (n:=Jl p (p.length-1) i (i+1)) (by omega);rw[ei];simp only[Sl];by_cases s1:BQ (Jl p (p.length-1) i (i+1))=1
   ·rw[if_pos s1];have h:=A1w (p.map cn) _ _ ((p.length-1:Nat):Int) (i:Nat) _ _ _ (by rw[decide_eq_true_eq];omega) (by rw[beq_iff_eq];exact s1) hin sg;rw[e4] at h;exact h
   ·rw[if_neg s1];by_cases s2:BQ (Jl p (p.length-1) i (i+1)) = -1
    ·rw[if_pos s2];have h:=A1x (p.map cn) _ _ ((p.length-1:Nat):Int) (i:Nat) _ _ _ (by rw[decide_eq_true_eq];omega) (by rw[beq_eq_false_iff_ne];exact s1) (by rw[beq_iff_eq];exact s2) hin sg;rw[e4] at h;exact h
    ·rw[if_neg s2];have h:=A1y (p.map cn) _ _ ((p.length-1:Nat):Int) (i:Nat) _ _ _ (by rw[decide_eq_true_eq];omega) (by rw[beq_eq_false_iff_ne];exact s1) (by rw[beq_eq_false_iff_ne];exact s2) hin sg;rw[e4] at h;exact h)
  (A1z (p.map cn) _ _ _ _ (by rw[decide_eq_false_iff_not];omega)) 0 (AN _)
 rw[<- en] at l;cases hb:(Sl p (p.length-1) p.length).2 with
 | true =>
  have h:=zY (p.map cn) _ true _ rfl (by rw[hb] at l;exact l);unfold PT;rw[hb];exact h
 | false =>
  have h:=zZ (p.map cn) _ false _ rfl (by rw[hb] at l;exact l);unfold PT;rw[hb];exact h
end
theorem WU(p:LI)(c:Int)(n i:Nat):∀ k,Jl (As c p) n i k=c*Jl p n i k
 | 0=>by simp[Jl]
 | k+1=>by
  simp only[Jl];rw[WU p c n i k,m,CT,AK]
theorem Z9(p:LI){c:Int}(hc:0<c)(n:Nat):∀ i,Sl (As c p) n i=Sl p n i
 | 0=>rfl
 | i+1=>by
  simp only[Sl];rw[Z9 p hc n i,WU,KV hc]
theorem PA(p:LI){c:Int}(hc:0<c):JF (As c p)=JF p/\PT (As c p)=PT p:=by
 unfold PT JF;rw[y,Z9 p hc];exact⟨rfl,rfl⟩
def aP:LI->Int
 | []=>0
 | x::p=>if BQ x=0 then aP p else BQ x
theorem TG{c:Int}(hc:0<c):∀ p,aP (As c p)=aP p
 | []=>rfl
 | x::p=>by
  have ih:=TG hc p;have e:As c (x::p)=(c*x)::As c p:=rfl;rw[e];simp only[aP];rw[KV hc,ih]
theorem PB{z w:Nu}:O1 z w (-1)↔∃ u:Dy,Eu z u/\¬ Eu w u:=by
 constructor
 ·rintro (⟨_,m,c,h1,h2⟩ | ⟨h,_⟩ | ⟨h,_⟩)
  ·exact⟨(m,c),h1,fun g=>by unfold Eu at g;simp only at g;omega⟩
  ·exact absurd h (by decide)
  ·exact absurd h (by decide)
 ·rintro⟨u,h1,h2⟩;exact .inl ⟨rfl,u.1,u.2,h1,by unfold Eu at h2;omega⟩
theorem Acz{z w:Nu}:O1 z w 1↔O1 w z (-1):=by
 constructor
 ·intro h;exact Z2 h
 ·intro h;exact Z2 h
theorem Xy{z w:Nu}:O1 z w 0↔∀ u:Dy,Eu z u↔Eu w u:=by
 constructor
 ·rintro (⟨h,_⟩ | ⟨h,_⟩ | ⟨_,h⟩)
  ·exact absurd h (by decide)
  ·exact absurd h (by decide)
  ·exact fun u=>h u.1 u.2
 ·intro h;exact .inr (.inr ⟨rfl,fun m c=>h (m,c)⟩)
theorem Aaf{x y z:Nu}(hy:One y.1 y.2)(hz:One z.1 z.2)(h1:O1 x y (-1))(h2:O1 y z (-1)):O1 x z (-1):=by
 obtain⟨u,a1,a2⟩:=PB.1 h1;obtain⟨v,b1,b2⟩:=PB.1 h2;refine PB.2 ⟨u,a1,fun g=>b2 (Il hz g ?_)⟩;exact (D_ u v).resolve_right fun c=>a2 (Il hy b1 c)
theorem UL{z:Nu}(h:One z.1 z.2):Eu z z.2.hi':=Xw h
theorem jH{z:Nu}(h:One z.1 z.2){u:Dy}(g:Eu z u):¬ dl u z.2.lo':=((UK h u).1 g).1
theorem Aag{z:Nu}(h:One z.1 z.2){t:Dy}(g:Eu z t)(ht:¬ dl (1,0) t):sd z.1 z.2 1 0<0:=by
 have h1:Eu z (1,0):=Il h g ((D_ t (1,0)).resolve_right ht);have h1':sd z.1 z.2 1 0<=0:=h1;apply A1;intro n;have h0:sd z.1 z.2 1 0=0:=by omega
 have hs:DG (S z.1) 1 0=0:=by
  unfold sd Fv at h0;split at h0
  ·cases h0
  ·split at h0
   ·cases h0
   ·split at h0
    ·assumption
    ·split at h0 <;> cases h0
 have k:=Zx h.ne h.len (x:=t.1) (a:=t.2) (y:=1) (b:=0) (by
  have:¬ (1:Int)*2^t.2<=t.1*2^0:=ht;omega) hs
 have k1:=((UK h t).1 g).2;have hhi:dl (1,0) z.2.hi':=by
  apply A1;intro c;have:¬ (1:Int)*2^z.2.b<=L z.2.t*2^0:=c;have:=VP (p:=z.1) h.lt (m:=1) (c:=0) (by omega);omega
 have k2:=Fw z.1 hhi;have e1:VD z.1 (1,0)=Vd z.1 1 0:=rfl;have e2:VD z.1 t=Vd z.1 t.1 t.2:=rfl;omega
theorem eQ{p:LI}(hp:BH p)(h0:p ≠ []){u t:Dy}(h:dl u t)(hv:VD p u=VD p t)(hu:DG p u.1 u.2 ≠ 0)(ht:DG p t.1 t.2 ≠ 0):DG p u.1 u.2=DG p t.1 t.2:=by
 have e1:=MC p u.1 u.2 t.2;have e2:=MC p t.1 t.2 u.2;rw[Gt t.2 u.2] at e2;rw[TB _ u t.2,TB _ t u.2,Gt t.2 u.2] at hv;rw[<- e1] at hu |-;rw[<- e2] at ht |-;rw[P3] at hu ht |-;rw[P3];exact (A1g p.length (Ao _) hp h0 (Bt _) h hv (fun z=>hu (CZ.2 z)) (fun z=>ht (CZ.2 z))).symm
theorem rA{p:LI}(hp:BH p)(h0:p ≠ []){t:Dy}(h:DG p t.1 t.2=0):DG (S p) t.1 t.2=0:=by
 rw[P3] at h |-;exact CZ.2 (Z6 p.length (Ao _) hp h0 (CZ.1 h))
theorem A2v{p:LI}(hp:BH p)(h0:p ≠ []){u t:Dy}(hut:¬ dl t u)(h:DG p t.1 t.2=0)(hl:2<=(S p).length):VD p t<VD p u:=by
 have k:=Zx (By hp h0) hl (x:=u.1) (a:=u.2) (y:=t.1) (b:=t.2) (by
  have:¬ t.1*2^u.2<=u.1*2^t.2:=hut;omega) (rA hp h0 h)
 have e1:VD p t=Vd p t.1 t.2:=rfl;have e2:VD p u=Vd p u.1 u.2:=rfl;omega
theorem Amt{p:LI}(hp:BH p)(h0:p ≠ [])(hl:¬ 2<=(S p).length){t:Dy}(h:DG p t.1 t.2=0):False:=by
 obtain⟨lf,_,_,f0,_⟩:=Ci (By hp h0);have h1:=En lf f0;have h2:=rA hp h0 h;have hpos:=Ak.2 f0;rw[P3] at h2;apply h1;rw[show (S p).length-1=0 by omega];have e:Hh (S p) t.1 (2^t.2)=(S p).getD 0 0:=by unfold Hh;rw[show (S p).length-1=0 by omega];rfl
 rw[<- e];exact CZ.1 h2
structure Beg (ps:List (List Int)) (C:Dy->Prop):Prop where
 root:∃ p∈ps,∃ y∈EG p,sd p y 1 0<0/\∀ u,C u↔Eu (p,y) u
 wit:∃ t:Dy,C t/\¬ dl (1,0) t/\∀ p∈ps,(∀ u,C u->dl u t->VD p u=VD p t)/\0<DG p t.1 t.2
def HN:Nu:=([],La)
def Rx(M:List Nu)(j:Nat):Dy:=if j+1<M.length then (M.getD (j+1) HN).2.lo' else (1,0)
def A2w(u v:Dy):Dy:=(PR u.1 u.2 v.1 v.2,L7 u.1 u.2 v.1 v.2)
def GJ(M:List Nu)(j:Nat):Dy:=A2w (M.getD j HN).2.hi' (Rx M j)
theorem Ada{u v:Dy}(h:¬ dl v u):¬ dl (A2w u v) u/\¬ dl v (A2w u v):=by
 obtain⟨a,b⟩:=Hj (x:=u.1) (a:=u.2) (y:=v.1) (b:=v.2) (FD.1 h);exact⟨FD.2 a,FD.2 b⟩
structure Srt (ps:List (List Int)) (M:List Nu):Prop where
 ok:∀ z∈M,∃ k,k<=4600/\Nok k z
 src:∀ z∈M,∃ p∈ps,∃ y∈EG p,sd p y 1 0<0/\∀ u,Eu z u↔Eu (p,y) u
 cov:∀ p∈ps,∀ y∈EG p,sd p y 1 0<0->∃ z∈M,∀ u,Eu (p,y) u↔Eu z u
 sep:M.Pairwise fun z w=>¬ dl w.2.lo' z.2.hi'
 top:∀ z∈M,¬ dl (1,0) z.2.hi'
theorem Lb{M:List Nu}{j:Nat}(h:j<M.length):M.getD j HN=M[j]:=by
 rw[Z,Ad h];rfl
theorem Aah{u v w:Dy}(h1:¬ dl v u)(h2:dl v w):¬ dl w u:=fun g=>h1 (Dw h2 g)
theorem le_of_lt{u v:Dy}(h:¬ dl v u):dl u v:=(D_ u v).resolve_right h
section
variable {ps:List (LI)} (hps:∀ p∈ps,Enp p/\BH p) {M:List Nu} (h:Srt ps M)
include h
theorem Srt.one{j:Nat}(hj:j<M.length):One M[j].1 M[j].2:=by
 obtain⟨k,_,o⟩:=h.ok _ (AM hj);exact o.one
theorem Srt.lt{i j:Nat}(hij:i<j)(hj:j<M.length):¬ dl M[j].2.lo' (M[i]'(by omega)).2.hi':=(A3q.1 h.sep) i j (by omega) hj hij
theorem Srt.ends{j:Nat}(hj:j<M.length):¬ dl (Rx M j) (M.getD j HN).2.hi'/\dl (Rx M j) (1,0):=by
 rw[Lb hj];unfold Rx;by_cases c:j+1<M.length
 ·rw[if_pos c,Lb c];refine⟨h.lt (Nat.lt_succ_self j) c,?_⟩;obtain⟨k,_,o⟩:=h.ok _ (AM c);have:=le_of_lt (h.top _ (AM c));exact Dw o.one.dlt.1 this
 ·rw[if_neg c];exact⟨h.top _ (AM hj),H' _⟩
include hps
theorem Srt.none{j:Nat}(hj:j<M.length){p:LI}(hp:p∈ps){u t:Dy}(hu:Eu M[j] u)(hut:dl u t)(ht:¬ dl (Rx M j) t):VD p u=VD p t:=by
 apply A1;intro hne;have h1:=Fw p hut;obtain⟨hend,hend1⟩:=h.ends hj;have ht1:¬ dl (1,0) t:=fun g=>ht (Dw hend1 g);obtain⟨k,_,o⟩:=h.ok _ (AM hj);have hlo:=jH o.one hu;have h0:dl (0,0) u:=by
  have a:dl (0,0) M[j].2.lo':=by
   show (0:Int)*2^M[j].2.a<=L M[j].2.r*2^0;have:=o.w.lo;omega
  exact Dw a (le_of_lt hlo)
 obtain⟨y,hy,y1,y2⟩:=aN (hps p hp).1 h0 hut (le_of_lt ht1) (by omega);obtain⟨z,hz,hzc⟩:=h.cov p hp y hy (Aag (z:=(p,y)) (by
  unfold EG N1 at hy;split at hy
  ·cases hy
  ·exact Kr 744 La JC.lt (Mk (hps p hp).1 744 0 La rfl JC) y hy) y2 ht1)
 obtain⟨i,hi,rfl⟩:=Hq hz;rw[hzc] at y1 y2;rcases TM i j with c | c | c
 ·have:=h.lt c hj;exact y1 (Il (h.one hi) (UL (h.one hi)) (Dw (le_of_lt this) (le_of_lt hlo)))
 ·subst c;exact y1 hu
 ·have hj1:j+1<M.length:=by omega
  have e:Rx M j=M[j+1].2.lo':=by unfold Rx;rw[if_pos hj1,Lb hj1]
  rw[e] at ht;have:=jH (h.one hi) y2;by_cases c2:i=j+1
  ·subst c2;exact ht (le_of_lt this)
  ·have k3:=h.lt (show j+1<i by omega) hi;exact ht (Dw (Dw (h.one hj1).dlt.1 (le_of_lt k3)) (le_of_lt this))
theorem Srt.beg{j:Nat}(hj:j<M.length)(hpos:∀ p∈ps,0<DG p (GJ M j).1 (GJ M j).2):Beg ps (Eu M[j]):=by
 obtain⟨hend,hend1⟩:=h.ends hj;obtain⟨m1,m2⟩:=Ada hend;have hn:Eu M[j] (GJ M j):=Il (h.one hj) (UL (h.one hj)) (by rw[Lb hj] at m1;unfold GJ;rw[Lb hj];exact le_of_lt m1);exact⟨h.src _ (AM hj),GJ M j,hn,fun g=>m2 (Dw hend1 g),fun p hp=>⟨fun u hu hut=>h.none hps hj hp hu hut m2,hpos p hp⟩⟩
theorem Srt.pos{C:Dy->Prop}(hC:Beg ps C):∃ j,∃ hj:j<M.length,(∀ u,C u↔Eu M[j] u)/\∀ p∈ps,0<DG p (GJ M j).1 (GJ M j).2:=by
 obtain⟨p0,hp0,y,hy,hlt,hc⟩:=hC.root;obtain⟨z,hz,hzc⟩:=h.cov p0 hp0 y hy hlt;obtain⟨j,hj,rfl⟩:=Hq hz;have hCu:∀ u,C u↔Eu M[j] u:=fun u=>(hc u).trans (hzc u);refine⟨j,hj,hCu,fun p hp => ?_⟩;obtain⟨t,t1,t2,t3⟩:=hC.wit;obtain⟨w1,w2⟩:=t3 p hp;obtain⟨hend,hend1⟩:=h.ends hj;obtain⟨m1,m2⟩:=Ada hend;have m1:¬ dl (GJ M j) (M.getD j HN).2.hi':=m1;have m2:¬ dl (Rx M j) (GJ M j):=m2;generalize GJ M j=m at *
 rw[Lb hj] at m1;have hm:Eu M[j] m:=Il (h.one hj) (UL (h.one hj)) (le_of_lt m1);obtain⟨ep,lp⟩:=hps p hp;have p0:p ≠ []:=fun e=>ep.ne (by rw[e];rfl);have hm0:DG p m.1 m.2 ≠ 0:=by
  intro e;by_cases hl:2<=(S p).length
  ·have k1:=A2v lp p0 m1 e hl;have k2:=h.none hps hj hp (UL (h.one hj)) (le_of_lt m1) m2;omega
  ·exact Amt lp p0 hl e
 have e:DG p m.1 m.2=DG p t.1 t.2:=by
  rcases D_ m t with c | c
  ·exact eQ lp p0 c (w1 m ((hCu m).2 hm) c) hm0 (by omega)
  ·exact (eQ lp p0 c (h.none hps hj hp ((hCu t).1 t1) c m2) (by omega) hm0).symm
 omega
theorem Srt.least{j:Nat}(hj:j<M.length)(hno:∀ i,i<j->¬ ∀ p∈ps,0<DG p (GJ M i).1 (GJ M i).2){C:Dy->Prop}(hC:Beg ps C){u:Dy}(hu:C u):Eu M[j] u:=by
 obtain⟨i,hi,hc,hp⟩:=h.pos hps hC;rw[hc] at hu;rcases TM i j with c | c | c
 ·exact absurd hp (hno i c)
 ·subst c;exact hu
 ·have k:=h.lt c hi;exact Il (h.one hj) (UL (h.one hj)) (Dw (le_of_lt k) (le_of_lt (jH (h.one hi) hu)))
theorem Srt.no(hno:∀ i,i<M.length->¬ ∀ p∈ps,0<DG p (GJ M i).1 (GJ M i).2){C:Dy->Prop}(hC:Beg ps C):False:=by
 obtain⟨i,hi,_,hp⟩:=h.pos hps hC;exact hno i hi hp
end
def AP(z:Nu):Rt:=z.2.rt (S z.1)
abbrev PY(z:Nu):AV:=Bw (AP z).fs (AP z).r (AP z).e (AP z).t (AP z).f
theorem Mm{M:List Nu}{i:Nat}(h:i<M.length):(M.map AP).getD i zR=AP M[i]:=by
 rw[Z,Cs,Ad h];rfl
theorem ZA{k:Nat}{z:Nu}(h:Nok k z)(hk:k+1<8000):RQ 82 [PY z] (PY (H8 z)):=VF (Gc h.en) h.ok (by omega)
theorem Ry{C j m:Nat}{x:Iv}(h:IvOk C j x)(hm:j<=m):IvOk C m x:=⟨h.gr,h.gt,by have:=h.a;omega,by have:=h.b;omega,h.vr,h.vt⟩
theorem rB{j k:Nat}{z w:Nu}(hz:Nok j z)(hw:Nok k w)(hj:j<=5600)(hk:k<=5600):∃ s,O1 z w s/\(s = -1\/s=0\/s=1)/\RQ 74 [PY z,PY w] (F O s):=by
 obtain⟨s,h1,h2⟩:=Akw hz.en hw.en hz.one hw.one (Ao 5600) (Ry hz.ok hj) (Ry hw.ok hk) hz.w hw.w;refine⟨s,h1,?_,h2⟩;rcases h1 with ⟨e,_⟩ | ⟨e,_⟩ | ⟨e,_⟩ <;> omega
theorem A2x{M:List Nu}{i:Nat}(h:i<M.length):Bj (CI (M.map AP)) (i*7) 7 false=some (PY M[i]):=by
 have k:=Sd (l:=M.map AP) (n:=M.length) (Q ..) (X:=(i:Int)) (by omega);rw[R,Mm h] at k;exact k
section
variable {L:List Nu} {a:Nu} (hL:∀ z∈L,∃ k,k<=744/\Nok k z) (ha:∃ k,k<=744/\Nok k a) (asc:L.Pairwise fun z w=>O1 z w (-1)) (hlen:L.length<=1000)
include hL ha asc hlen
theorem Amu(ls:List (List Rn))(N i:Int)(l:List Rt)(M j:Int):∀ p:Nat,p<=L.length->(∀ z∈L.drop p,O1 a z (-1))->∃ (q:Nat) (b:Bool),q<=L.length /\
  Ap (.loop OT) (IP ls N i L.length (CI (L.map AP)) l M j (AP a).fs (AP a).r (AP a).e (AP a).t (AP a).f (p:Nat) false) (.exit 4) (IP ls N i L.length (CI (L.map AP)) l M j (AP a).fs (AP a).r (AP a).e (AP a).t (AP a).f (q:Nat) b) /\
  (b=true->∃ z∈L,O1 a z 0)/\(b=false->(∀ z∈L.take q,O1 z a (-1))/\∀ z∈L.drop q,O1 a z (-1)):=by
 intro p;induction p with
 | zero =>
  intro _ hd;exact⟨0,false,AN _,Ah (Ale _ _ _ _ _ _ _ _ _ _ _ _ _ ((0:Nat):Int) false rfl),fun h=>(by cases h),fun _=>⟨fun z hz=>(by simp at hz),hd⟩⟩
 | succ p ih =>
  intro hp hd;have hpl:p<L.length:=by omega
  obtain⟨k,hk,oz⟩:=hL _ (AM hpl);obtain⟨j',hj',oa⟩:=ha;obtain⟨s,hs,h3,hr⟩:=rB oa oz (by omega) (by omega);have ep:I O (((p+1:Nat):Int)-1)=(p:Int):=by rw[Bg (by omega) (by omega)];omega
  have hx:0<=I O (((p+1:Nat):Int)-1)/\I O (((p+1:Nat):Int)-1)<(L.length:Int):=by rw[ep];omega
  have ht:Bj (CI (L.map AP)) (D (I O (((p+1:Nat):Int)-1))*7) 7 false=some (PY L[p]):=by rw[ep,R];exact A2x hpl
  have c1:decide (((p+1:Nat):Int)>0)=true:=by rw[decide_eq_true_eq];omega
  by_cases c:s>=0
  ·refine⟨p+1,s==0,hp,Ah (Alc ls N i _ _ l M j _ _ _ _ _ ((p+1:Nat):Int) false (AP L[p]) s c1 rfl (decide_eq_true c) hx ht hr),?_,?_⟩
   ·intro e;rw[beq_iff_eq] at e;rw[e] at hs;exact⟨L[p],AM hpl,hs⟩
   ·intro e;rw[beq_eq_false_iff_ne] at e;have e1:s=1:=by omega
    rw[e1] at hs;have hs:=Acz.1 hs;refine⟨fun z hz => ?_,hd⟩;obtain⟨q,hq,rfl⟩:=Hq hz;rw[AD] at hq;rw[List.getElem_take];by_cases hqp:q=p
    ·subst hqp;exact hs
    ·exact Aaf oz.one oa.one ((A3q.1 asc) q p (by omega) hpl (by omega)) hs
  ·have e1:s = -1:=by omega
   have k3:=Ald ls N i _ _ l M j _ _ _ _ _ ((p+1:Nat):Int) false (AP L[p]) s c1 rfl (decide_eq_false c) hx ht hr;rw[ep,show (s==0)=false by rw[beq_eq_false_iff_ne];omega] at k3;rw[e1] at hs;obtain⟨q,b,hq,hl,r⟩:=ih (by omega) (fun z hz=>by
    rw[B2 hpl] at hz;rcases BD.1 hz with rfl | hz
    ·exact hs
    ·exact hd z hz)
   exact⟨q,b,hq,CE.loop k3 hl,r⟩
end
structure Inv (ps:List (List Int)) (done:Nu->Prop) (L:List Nu):Prop where
 ok:∀ z∈L,∃ k,k<=744/\Nok k z
 asc:L.Pairwise fun z w=>O1 z w (-1)
 src:∀ z∈L,z.1∈ps/\z.2∈EG z.1
 cov:∀ a,done a->sd a.1 a.2 1 0<0->∃ z∈L,O1 a z 0
theorem Amv{a:Nu}{k:Nat}(hp:Enp a.1)(ho:IvOk 0 k a.2)(hk:k<=8000)(h1:One a.1 a.2):RQ 76 [PY a,A2 (cn 1) 0] (F O (sd a.1 a.2 1 0)):=by
 have k:=VC (Gc hp) ho.gr ho.gt (q:=cn 1) (B4 (C_ (k:=1) (by decide) (by decide))) (a:=a.2.a) (b:=a.2.b) (c:=0) (by have:=ho.a;omega) (by have:=ho.b;omega) (by decide) (by rw[EE.2 h1.lt];decide);rw[A6] at k;exact k
theorem Amw{ps:List (LI)}{done:Nu->Prop}{L:List Nu}(h:Inv ps done L)(hlen:L.length+1<=1000){p:LI}(hp:p∈ps)(hE:Enp p){l:List Iv}(hl:l=EG p)(ls:List (List Rn))(N i:Int)(M:Int){j:Nat}(hj:j<l.length)(hM:(j:Int)<M)(hj2:j<1000000) :
  ∃ L',Inv ps (fun a=>done a\/a=(p,l[j])) L'/\L'.length<=L.length+1 /\
   Ap LJ (G7 ls N i L.length (CI (L.map AP)) (l.map (Iv.rt (S p))) M (j:Nat)) .norm (G7 ls N i L'.length (CI (L'.map AP)) (l.map (Iv.rt (S p))) M ((j+1:Nat):Int)):=by
 have hy:l[j]∈EG p:=by rw[<- hl];exact AM hj
 have h1:One p l[j]/\IvOk 0 744 l[j]:=by
  unfold EG N1 at hy;split at hy
  ·cases hy
  ·refine⟨Kr 744 La JC.lt (Mk hE 744 0 La rfl JC) _ hy,?_⟩;have:=qC 744 La 0 jC (by decide) _ hy;exact this
 have eg:(l.map (Iv.rt (S p))).getD (D (j:Int)) zR=AP (p,l[j]):=by
  rw[R,Z,Cs,Ad hj];rfl
 have ej:I O ((j:Int)+1)=((j+1:Nat):Int):=by rw[Bg (by omega) (by omega)];omega
 have c1:decide ((j:Int)<M)=true:=decide_eq_true hM;have n1:0<=(j:Int)/\(j:Int)<(((l.map (Iv.rt (S p))).length:Nat):Int):=by rw[Q];omega
 have sr:=Amv (a:=(p,l[j])) hE h1.2 (by decide) h1.1;have sr2:RQ 76 [Bw ((l.map (Iv.rt (S p))).getD (D (j:Int)) zR).fs ((l.map (Iv.rt (S p))).getD (D (j:Int)) zR).r ((l.map (Iv.rt (S p))).getD (D (j:Int)) zR).e ((l.map (Iv.rt (S p))).getD (D (j:Int)) zR).t ((l.map (Iv.rt (S p))).getD (D (j:Int)) zR).f,A2 (cn 1) 0] (F O (sd p l[j] 1 0)):=by
  rw[eg];exact sr
 by_cases c2:sd p l[j] 1 0>=0
 ·refine⟨L,⟨h.ok,h.asc,h.src,?_⟩,by omega,?_⟩
  ·rintro a (d | rfl) hlt
   ·exact h.cov a d hlt
   ·exact absurd hlt (by simp only;omega)
  ·have k:=Alf ls N i L.length (CI (L.map AP)) (l.map (Iv.rt (S p))) M (j:Nat) _ c1 (decide_eq_true c2) n1 Ia sr2;rw[ej] at k;exact k
 ·have ha:∃ k,k<=744/\Nok k (p,l[j]):=zU hE _ hy (by omega);obtain⟨q,b,hq,hloop,hb1,hb2⟩:=Amu h.ok ha h.asc (by omega) ls N i (l.map (Iv.rt (S p))) M (j:Nat) L.length (Ao _) (fun z hz=>by simp at hz);have hloop2:=hloop;rw[<- eg] at hloop2;cases b with
  | true =>
   obtain⟨z,hz,hzn⟩:=hb1 rfl;refine⟨L,⟨h.ok,h.asc,h.src,?_⟩,by omega,?_⟩
   ·rintro a (d | rfl) hlt
    ·exact h.cov a d hlt
    ·exact⟨z,hz,hzn⟩
   ·have k:=Alg ls N i L.length (CI (L.map AP)) (l.map (Iv.rt (S p))) M (j:Nat) _ (q:Nat) true c1 (decide_eq_false c2) rfl n1 Ia sr2 hloop2;rw[ej] at k;exact k
  | false =>
   obtain⟨a1,a2⟩:=hb2 rfl;obtain⟨ka,hka,oa⟩:=ha;refine⟨L.take q++(p,l[j])::L.drop q,⟨?_,?_,?_,?_⟩,by simp;omega,?_⟩
   ·intro z hz;rcases Bn.1 hz with hz | hz
    ·exact h.ok z (BT hz)
    ·rcases BD.1 hz with rfl | hz
     ·exact⟨ka,hka,oa⟩
     ·exact h.ok z (Eh hz)
   ·have hasc:=h.asc;rw[<- JR q L,sB] at hasc;rw[sB,Gz];refine⟨hasc.1,⟨a2,hasc.2.1⟩,fun z hz w hw => ?_⟩;rcases BD.1 hw with rfl | hw
    ·exact a1 z hz
    ·exact hasc.2.2 z hz w hw
   ·intro z hz;rcases Bn.1 hz with hz | hz
    ·exact h.src z (BT hz)
    ·rcases BD.1 hz with rfl | hz
     ·exact⟨hp,hy⟩
     ·exact h.src z (Eh hz)
   ·rintro a (d | rfl) hlt
    ·obtain⟨z,hz,hzn⟩:=h.cov a d hlt;refine⟨z,?_,hzn⟩;rw[<- JR q L] at hz;rcases Bn.1 hz with hz | hz
     ·exact Ff _ hz
     ·exact EM _ (AT _ hz)
    ·exact⟨_,EM _ (AO ..),Xy.2 fun u=>Iff.rfl⟩
   ·have hrl:(CI (L.map AP)).length=L.length*7:=by rw[GR,Q]
    have et:Bx ((L.length-q)*7) (g (q*7) (CI (L.map AP)))=CI ((L.drop q).map AP):=by
     rw[Oq,List.map_drop,CS];rw[GR,CV,Q];omega
    have k:=Alh ls N i L.length (CI (L.map AP)) (l.map (Iv.rt (S p))) M (j:Nat) _ (q:Nat) false c1 (decide_eq_false c2) rfl n1 Ia sr2 hloop2 (by omega) (by rw[R];omega) (by rw[R];omega) (by rw[R];omega) (by rw[R];exact hq) (by
     simp only[R];rw[et];simp only[AY,B0,HI,GR,Q,CV];omega)
    simp only[R] at k;rw[ej,et,VR,<- PZ] at k;have el:q+(1+(L.length-q))=(L.take q++(p,l[j])::L.drop q).length:=by simp;omega
    rw[el] at k;rw[Ez,Cx,Ny,CI];rw[R] at eg;rw[eg] at k;exact k
theorem Inv.less{ps:List (LI)}{d d':Nu->Prop}{L:List Nu}(h:Inv ps d L)(hd:∀ a,d' a->d a):Inv ps d' L:=⟨h.ok,h.asc,h.src,fun a ha=>h.cov a (hd a ha)⟩
theorem rC{p:LI}(hE:Enp p)(hl:(BR p).length<=10):(Fk p 744 La).length<=10:=by
 have h:=Aky 744 La (Mk hE 744 0 La rfl JC);have b1:=VK hl (L La.r) La.a;have b2:=VK hl (L La.t) La.b;unfold Iv.d at h;omega
section
variable {ps:List (LI)} {p:LI} (hp:p∈ps) (hE:Enp p) (ls:List (List Rn)) (N i:Int)
include hp hE
theorem Amx{l:List Iv}(hl:l=EG p)(hn:l.length<=10):∀ (r j:Nat) (done:Nu->Prop) (L:List Nu),j+r=l.length->Inv ps done L->L.length+r<=900 ->
  ∃ L',Inv ps (fun a=>done a\/(a.1=p/\a.2∈l.drop j)) L'/\L'.length<=L.length+r /\
   Ap (.loop LJ) (G7 ls N i L.length (CI (L.map AP)) (l.map (Iv.rt (S p))) (((l.map (Iv.rt (S p))).length:Nat):Int) (j:Nat)) (.exit 2) (G7 ls N i L'.length (CI (L'.map AP)) (l.map (Iv.rt (S p))) (((l.map (Iv.rt (S p))).length:Nat):Int) (l.length:Int)):=by
 intro r;induction r with
 | zero =>
  intro j done L hj h hL;refine⟨L,h.less ?_,by omega,?_⟩
  ·rintro a (d | ⟨_,d⟩)
   ·exact d
   ·rw[show j=l.length by omega,Ev] at d;cases d
  ·rw[show j=l.length by omega];exact Ah (Ali _ _ _ _ _ _ _ _ (by rw[Q,decide_eq_false_iff_not];omega))
 | succ r ih =>
  intro j done L hj h hL;have hjl:j<l.length:=by omega
  obtain⟨L1,h1,n1,k1⟩:=Amw h (by omega) hp hE hl ls N i (((l.map (Iv.rt (S p))).length:Nat):Int) hjl (by rw[Q];omega) (by omega);obtain⟨L2,h2,n2,k2⟩:=ih (j+1) _ L1 (by omega) h1 (by omega);refine⟨L2,h2.less ?_,by omega,CE.loop k1 k2⟩;rintro a (d | ⟨e,d⟩)
  ·exact .inl (.inl d)
  ·rw[B2 hjl] at d;rcases BD.1 d with c | c
   ·exact .inl (.inr (by rw[<- e,<- c]))
   ·exact .inr ⟨e,c⟩
theorem Amy{i:Nat}(hi:(i:Int)<N)(hi2:i<1000000)(hls:(ls.getD i [])=p.map cn)(hil:i<ls.length){done:Nu->Prop}{L:List Nu}(h:Inv ps done L)(hL:L.length<=800) :
  ∃ L',Inv ps (fun a=>done a\/(a.1=p/\a.2∈EG p)) L'/\L'.length<=L.length+10 /\
   Ap OU (IQ ls N (i:Nat) L.length (CI (L.map AP))) .norm (IQ ls N ((i+1:Nat):Int) L'.length (CI (L'.map AP))):=by
 have hk:Kb 5 p:=fun j=>C_ (hE.co j) (by decide);have hg:=AR hk;have hn9:(p.map cn).length<=9:=by rw[Q];have:=hE.len;omega
 have hcl:=Nx hg hn9;rw[s] at hcl;have hsl:=rC hE hcl;have hrl:(EG p).length<=10:=by
  have:=Akx p 744 La;show (N1 p 744 La).length<=10;omega
 obtain⟨L',h',n',k'⟩:=Amx hp hE ls N (i:Nat) rfl hrl (EG p).length 0 done L (by omega) h (by omega);refine⟨L',h',by omega,?_⟩;have iso:=Akq hg hn9 (n:=744) (x:=La) (C:=0) (m:=0) jC (by decide) (E:=1073741824) (by decide) (by rw[s];exact Mk hE 744 0 La rfl JC) (by rw[s];omega);rw[s] at iso;have ei:I O ((i:Int)+1)=((i+1:Nat):Int):=by rw[Bg (by omega) (by omega)];omega
 have hx:ls.getD (D (i:Int)) []=p.map cn:=by rw[R];exact hls
 rcases iso with iso | iso
 ·have k:=Aaa ls N (i:Nat) L.length (CI (L.map AP)) ((EG p).map (Iv.rt (S p))) true _ _ _ (decide_eq_true hi) (by omega) Ia (by rw[hx];exact iso) k';rw[ei] at k;exact k
 ·have k:=Alj ls N (i:Nat) L.length (CI (L.map AP)) ((EG p).map (Iv.rt (S p))) true _ _ _ (decide_eq_true hi) (by omega) Ia (by rw[hx];exact iso) k';rw[ei] at k;exact k
end
theorem Adb{ps:List (LI)}{i:Nat}(h:i<ps.length):(Cd ps).getD i []=(ps[i]).map cn:=by
 rw[Oo h,Z,Ad h];rfl
theorem Amz{ps:List (LI)}(hps:∀ p∈ps,Enp p)(hn:ps.length<=60):∀ (r i:Nat) (L:List Nu),i+r=ps.length->Inv ps (fun a=>a.1∈ps.take i/\a.2∈EG a.1) L->L.length<=10*i ->
  ∃ L',Inv ps (fun a=>a.1∈ps/\a.2∈EG a.1) L'/\L'.length<=10*ps.length /\
   Ap (.loop OU) (IQ (Cd ps) (((Cd ps).length:Nat):Int) (i:Nat) L.length (CI (L.map AP))) (.exit 0) (IQ (Cd ps) (((Cd ps).length:Nat):Int) (ps.length:Int) L'.length (CI (L'.map AP))):=by
 intro r;induction r with
 | zero =>
  intro i L hi h hL;have e:i=ps.length:=by omega
  subst e;rw[DP] at h;exact⟨L,h,hL,Ah (Alk _ _ _ _ _ (by rw[GG,decide_eq_false_iff_not];omega))⟩
 | succ r ih =>
  intro i L hi h hL;have hil:i<ps.length:=by omega
  obtain⟨L1,h1,n1,k1⟩:=Amy (AM hil) (hps _ (AM hil)) (Cd ps) (((Cd ps).length:Nat):Int) (i:=i) (by rw[GG];omega) (by omega) (Adb hil) (by rw[GG];exact hil) h (by omega);obtain⟨L2,h2,n2,k2⟩:=ih (i+1) L1 (by omega) (h1.less (by
   rintro a ⟨c1,c2⟩;rw[EV hil] at c1;rcases Bn.1 c1 with c | c
   ·exact .inl ⟨c,c2⟩
   ·have c:=C3.1 c;exact .inr ⟨c,by rw[<- c];exact c2⟩)) (by omega)
  exact⟨L2,h2,n2,CE.loop k1 k2⟩
def D2(z:Nu)(m:Nat):Nu:=(z.1,stpN (S z.1) z.2 m)
theorem In{k:Nat}{z:Nu}(h:Nok k z):∀ m,k+m<8000->Nok (k+m) (D2 z m)
 | 0,_=>h
 | m+1,hm=>(In h m (by omega)).st (by omega)
theorem jI{z:Nu}(h:One z.1 z.2)(m:Nat)(u:Dy):Eu (D2 z m) u↔Eu z u:=by
 show sd z.1 (stpN (S z.1) z.2 m) u.1 u.2<=0↔_;rw[Rp h];exact Iff.rfl
theorem A7v{z w:Nu}(hz:One z.1 z.2)(hw:One w.1 w.2)(m n:Nat)(s:Int):O1 (D2 z m) (D2 w n) s↔O1 z w s:=Oy hz hw m n
theorem UM(A:List Nu)(z:Nu)(B:List Nu):((A++z::B).map AP).getD A.length zR=AP z:=by
 rw[Mm (by simp)];simp
theorem eR(A:List Nu)(z w:Nu)(B:List Nu):((A++z::w::B).map AP).getD (A.length+1) zR=AP w:=by
 rw[Mm (by simp)];simp
theorem rD(A:List Nu)(z x:Nu)(B:List Nu):((A++z::B).map AP).set A.length (AP x)=(A++x::B).map AP:=by
 rw[<- Qc];congr 1;simp
theorem Ana(A:List Nu)(z w x:Nu)(B:List Nu):((A++z::w::B).map AP).set (A.length+1) (AP x)=(A++z::x::B).map AP:=by
 rw[<- Qc];congr 1;simp
theorem Adc{r t:Rn}{a b:Nat}(hr:AU 300 r)(ht:AU 300 t)(ha:a<=8192)(hb:b<=8192):RQ 55 [A2 r (a:Nat),A2 t (b:Nat)] (F O (BI (L r) a (L t) b)):=Kn (hr.mono (by decide)) (ht.mono (by decide)) ha hb
theorem O3{u v:Dy}:¬ BI u.1 u.2 v.1 v.2<0↔dl v u:=by unfold dl BI CX; (repeat' split) <;> omega
theorem Aai(A B:List Nu){z w:Nu}{j k:Nat}(hz:Nok j z)(hw:Nok k w)(hj:j<=2700)(hk:k<=2700)(ho:O1 z w (-1)){n:Nat}(hn:n=(A++z::w::B).length)(hn2:n<=1000) :
  ∃ m,m<=1921/\Ap (.loop Na) (Im n ((A++z::w::B).map AP) (n:Int) (A.length:Int)) (.exit 8) (Im n ((A++D2 z m::D2 w m::B).map AP) (n:Int) (A.length:Int))/\¬ dl (D2 w m).2.lo' (D2 z m).2.hi':=by
 have hl:n=A.length+(B.length+2):=by rw[hn];simp
 obtain⟨m,hm,m1,m2⟩:∃ m,m<=1921/\(∀ i,i<m->decide (BI (D2 z i).2.hi'.1 (D2 z i).2.hi'.2 (D2 w i).2.lo'.1 (D2 w i).2.lo'.2<0)=false)/\decide (BI (D2 z m).2.hi'.1 (D2 z m).2.hi'.2 (D2 w m).2.lo'.1 (D2 w m).2.lo'.2<0)=true:=by
  rcases Jc (fun i=>decide (BI (D2 z i).2.hi'.1 (D2 z i).2.hi'.2 (D2 w i).2.lo'.1 (D2 w i).2.lo'.2<0)) 1922 1922 0 rfl with g | ⟨m,_,g2,g3,g4⟩
  ·exfalso;have:=g 1921 (by omega) (by omega);generalize hN:1921=N at this;have h1:=zW (In hz N (by omega)) (In hw N (by omega)) (by omega) (by omega) ((A7v hz.one hw.one N N (-1)).2 ho);rw[decide_eq_false_iff_not] at this;exact h1 (O3.1 this)
  ·exact⟨m,by omega,fun i hi=>g4 i (by omega) hi,g3⟩
 have ei:I O ((A.length:Int)+1)=((A.length+1:Nat):Int):=by rw[Bg (by omega) (by omega)];omega
 have c1:decide (I O ((A.length:Int)+1)<(n:Int))=true:=by rw[ei,decide_eq_true_eq];omega
 have n1:0<=(A.length:Int)/\(A.length:Int)<(n:Int):=by omega
 have n3:0<=I O ((A.length:Int)+1)/\I O ((A.length:Int)+1)<(n:Int):=by rw[ei];omega
 have cm:∀ i,i<=1921->RQ 55 [A2 (((A++D2 z i::D2 w i::B).map AP).getD (D (A.length:Int)) zR).t (((A++D2 z i::D2 w i::B).map AP).getD (D (A.length:Int)) zR).f,A2 (((A++D2 z i::D2 w i::B).map AP).getD (D (I O ((A.length:Int)+1))) zR).r (((A++D2 z i::D2 w i::B).map AP).getD (D (I O ((A.length:Int)+1))) zR).e] (F O (BI (D2 z i).2.hi'.1 (D2 z i).2.hi'.2 (D2 w i).2.lo'.1 (D2 w i).2.lo'.2)):=by
  intro i hi;rw[ei,R,R,UM,eR];have a1:=(In hz i (by omega)).ok;have a2:=(In hw i (by omega)).ok;exact Adc a1.gt a2.gr (by have:=a1.b;omega) (by have:=a2.a;omega)
 refine⟨m,hm,?_,?_⟩
 ·refine GQ (prog:=DK) (c:=Na) (ex := .exit 8) (fun i=>Im n ((A++D2 z i::D2 w i::B).map AP) (n:Int) (A.length:Int)) m (by nofun) ?_ 0 (AN _) ?_
  ·exact Alm n _ _ _ _ c1 (by rw[decide_eq_false_iff_not];have:=of_decide_eq_true m2;omega) n1 (by rw[hn,Q];simp) n3 (cm m hm)
  ·intro i _ hi;have st1:=ZA (In hz i (by omega)) (by omega);have st2:=ZA (In hw i (by omega)) (by omega);have k:=All n ((A++D2 z i::D2 w i::B).map AP) (n:Int) (A.length:Int) (AP (H8 (D2 z i))) (AP (H8 (D2 w i))) _ c1 (by rw[decide_eq_true_eq];have:=of_decide_eq_false (m1 i hi);omega) n1 (by rw[hn,Q];simp) n3 (by rw[hn,Ba,Q];simp) (cm i (by omega))
    (by rw[R,UM];exact st1) (by rw[ei,R,eR];exact st2)
   rw[ei,R,R,rD,Ana] at k;exact k
 ·intro g;exact O3.2 g (of_decide_eq_true m2)
theorem eV(A B:List Nu){z:Nu}{j:Nat}(hz:Nok j z)(hj:j<=4700){n:Nat}(hn:n=(A++z::B).length) :
  ∃ m,m<=1921/\(¬ dl (1,0) z.2.hi'->m=0)/\Ap (.loop RH) (LR n ((A++z::B).map AP) (n:Int) (A.length:Int)) (.exit 10) (LR n ((A++D2 z m::B).map AP) (n:Int) (A.length:Int))/\¬ dl (1,0) (D2 z m).2.hi':=by
 have hl:n=A.length+(B.length+1):=by rw[hn];simp
 obtain⟨m,hm,m1,m2⟩:∃ m,m<=1921/\(∀ i,i<m->decide (BI (D2 z i).2.hi'.1 (D2 z i).2.hi'.2 1 0<0)=false)/\decide (BI (D2 z m).2.hi'.1 (D2 z m).2.hi'.2 1 0<0)=true:=by
  rcases Jc (fun i=>decide (BI (D2 z i).2.hi'.1 (D2 z i).2.hi'.2 1 0<0)) 1922 1922 0 rfl with g | ⟨m,_,g2,g3,g4⟩
  ·exfalso;have:=g 1921 (by omega) (by omega);generalize hN:1921=N at this;have h1:=zX (In hz N (by omega)) (by omega);rw[decide_eq_false_iff_not] at this;exact h1 (O3 (u:=(D2 z N).2.hi') (v:=(1,0)).1 this)
  ·exact⟨m,by omega,fun i hi=>g4 i (by omega) hi,g3⟩
 have n1:0<=(A.length:Int)/\(A.length:Int)<(n:Int):=by omega
 have cm:∀ i,i<=1921->RQ 55 [A2 (((A++D2 z i::B).map AP).getD (D (A.length:Int)) zR).t (((A++D2 z i::B).map AP).getD (D (A.length:Int)) zR).f,A2 (cn 1) 0] (F O (BI (D2 z i).2.hi'.1 (D2 z i).2.hi'.2 1 0)):=by
  intro i hi;rw[R,UM];have a1:=(In hz i (by omega)).ok;have k:=Adc a1.gt (t:=cn 1) (a:=(D2 z i).2.b) (b:=0) (B4 (C_ (k:=1) (by decide) (by decide))) (by have:=a1.b;omega) (by decide);rw[A6] at k;exact k
 refine⟨m,hm,?_,?_,?_⟩
 ·intro g;apply A1;intro c;have:=of_decide_eq_false (m1 0 (by omega));exact g (O3 (u:=(D2 z 0).2.hi') (v:=(1,0)).1 this)
 ·refine GQ (prog:=DK) (c:=RH) (ex := .exit 10) (fun i=>LR n ((A++D2 z i::B).map AP) (n:Int) (A.length:Int)) m (by nofun) ?_ 0 (AN _) ?_
  ·exact Alp n _ _ _ _ (by rw[decide_eq_false_iff_not];have:=of_decide_eq_true m2;omega) n1 (by rw[hn,Q];simp) Ia (cm m hm)
  ·intro i _ hi;have st1:=ZA (In hz i (by omega)) (by omega);have k:=Alo n ((A++D2 z i::B).map AP) (n:Int) (A.length:Int) (AP (H8 (D2 z i))) _ (by rw[decide_eq_true_eq];have:=of_decide_eq_false (m1 i hi);omega) n1 (by rw[hn,Q];simp) Ia (cm i (by omega)) (by rw[R,UM];exact st1);rw[R,rD] at k;exact k
 ·intro g;exact (O3 (u:=(D2 z m).2.hi') (v:=(1,0))).2 g (of_decide_eq_true m2)
def Is:List Nu->List Nu->Prop
 | [],[]=>True
 | z::l,w::m=>(∀ u,Eu w u↔Eu z u)/\Is l m
 | _,_=>False
theorem Is.right:∀ {L M:List Nu},Is L M->∀ w∈M,∃ z∈L,∀ u,Eu w u↔Eu z u
 | [],[],_,_,hw=>by cases hw
 | [],_::_,h,_,_=>h.elim
 | _::_,[],h,_,_=>h.elim
 | z::l,x::m,h,w,hw=>by
  rcases BD.1 hw with rfl | hw
  ·exact⟨z,AO ..,h.1⟩
  ·obtain⟨y,hy,e⟩:=Is.right h.2 w hw;exact⟨y,AT _ hy,e⟩
theorem Is.left:∀ {L M:List Nu},Is L M->∀ z∈L,∃ w∈M,∀ u,Eu w u↔Eu z u
 | [],[],_,_,hw=>by cases hw
 | [],_::_,h,_,_=>h.elim
 | _::_,[],h,_,_=>h.elim
 | z::l,x::m,h,w,hw=>by
  rcases BD.1 hw with rfl | hw
  ·exact⟨x,AO ..,h.1⟩
  ·obtain⟨y,hy,e⟩:=Is.left h.2 w hw;exact⟨y,AT _ hy,e⟩
theorem Is.len:∀ {L M:List Nu},Is L M->M.length=L.length
 | [],[],_=>rfl
 | [],_::_,h=>h.elim
 | _::_,[],h=>h.elim
 | _::l,_::m,h=>by simp[Is.len h.2]
structure Apr (M:List Nu):Prop where
 ok:∀ z∈M,∃ k,k<=4600/\Nok k z
 sep:M.Pairwise fun z w=>¬ dl w.2.lo' z.2.hi'
 top:∀ z∈M,¬ dl (1,0) z.2.hi'
theorem ACc(n:Nat)(l:List Rt):Ap (.loop RI) (KE n l (n:Int) (n:Int)) (.exit 6) (KE n l (n:Int) (n:Int)) :=
 Ah (Alq _ _ _ _ (by rw[decide_eq_false_iff_not];omega))
theorem Anb{n:Nat}(hn2:n<=1000):∀ (c:Nat) (rest A:List Nu),rest.length=c->n=(A++rest).length->(∀ z∈rest,∃ k,k<=2665/\Nok k z)->(∀ z∈rest.tail,∃ k,k<=744/\Nok k z)->rest.Pairwise (fun z w=>O1 z w (-1)) ->
  ∃ M,Is rest M/\Apr M/\(∀ z w,rest.head? = some z->M.head? = some w->dl z.2.lo' w.2.lo') /\
   Ap (.loop RI) (KE n ((A++rest).map AP) (n:Int) (A.length:Int)) (.exit 6) (KE n ((A++M).map AP) (n:Int) (n:Int)):=by
 intro c;induction c with
 | zero =>
  intro rest A hc hn _ _ _;have e:=A5 hc;subst e;have hA:n=A.length:=by rw[hn];simp
  refine⟨[],trivial,⟨fun z hz=>(by cases hz),.nil,fun z hz=>(by cases hz)⟩,fun z w h=>(by simp at h),?_⟩;rw[<- hA];exact ACc n _
 | succ c ih =>
  intro rest A hc hn hk hk2 ho;match rest,hc with
  | [z],_ =>
   obtain⟨kz,hkk,oz⟩:=hk z (AO ..);have hA:n=A.length+1:=by rw[hn];simp
   obtain⟨m,hm,_,l1,l2⟩:=eV A [] oz (by omega) hn;have ei:I O ((A.length:Int)+1)=(n:Int):=by rw[Bg (by omega) (by omega)];omega
   have s1:Ap (.loop Na) (Im n ((A++[z]).map AP) (n:Int) (A.length:Int)) (.exit 8) (Im n ((A++[z]).map AP) (n:Int) (A.length:Int)) :=
    Ah (Aln _ _ _ _ (by rw[ei,decide_eq_false_iff_not];omega))
   have k:=eI n _ (n:Int) (A.length:Int) _ _ (by rw[decide_eq_true_eq];omega) s1 l1;rw[ei] at k;refine⟨[D2 z m],⟨fun u=>jI oz.one m u,trivial⟩,⟨?_,List.pairwise_singleton _ _,?_⟩,?_,CE.loop k (ACc n _)⟩
   ·intro w hw;rw[C3.1 hw];exact⟨kz+m,by omega,In oz m (by omega)⟩
   ·intro w hw;rw[C3.1 hw];exact l2
   ·intro a b ha hb;simp at ha hb;subst ha hb;exact (Oz oz.one m).1
  | z::w::r,hc =>
   obtain⟨k,hkk,oz⟩:=hk z (AO ..);obtain⟨k2,hkk2,ow⟩:=hk2 w (AO ..);rw[Gz] at ho;obtain⟨m,hm,l1,l2⟩:=Aai A r oz ow (by omega) (by omega) (ho.1 w (AO ..)) hn hn2;have oz':=In oz m (by omega);have ow':=In ow m (by omega);have hb:¬ dl (1,0) (D2 z m).2.hi':=by
    intro g;have a:=ow'.one.dlt.1;have b:dl (D2 w m).2.hi' (1,0):=by
     show L (D2 w m).2.t*2^0<=1*2^(D2 w m).2.b;have:=ow'.w.hi;omega
    exact l2 (Dw (Dw a b) g)
   obtain⟨m0,_,hm0,l3,l4⟩:=eV A (D2 w m::r) oz' (by omega) (n:=n) (by rw[hn];simp);have e0:=hm0 hb;subst e0;have ez:D2 (D2 z m) 0=D2 z m:=rfl;rw[ez] at l3;have hA:n=A.length+(r.length+2):=by rw[hn];simp
   have ei:I O ((A.length:Int)+1)=(((A++[D2 z m]).length:Nat):Int):=by rw[Bg (by omega) (by omega)];simp
   have k1:=eI n _ (n:Int) (A.length:Int) _ _ (by rw[decide_eq_true_eq];omega) l1 l3;rw[ei,show A++D2 z m::D2 w m::r=(A++[D2 z m])++(D2 w m::r) by simp] at k1;have wle:∀ u,Eu (D2 w m) u↔Eu w u:=jI ow.one m;obtain⟨M,h1,h2,h3,h4⟩:=ih (D2 w m::r) (A++[D2 z m]) (by simpa using hc) (by rw[hn];simp) (by
    intro y hy;rcases BD.1 hy with rfl | hy
    ·exact⟨k2+m,by omega,ow'⟩
    ·obtain⟨k3,hk3,oy⟩:=hk2 y (AT _ hy);exact⟨k3,by omega,oy⟩) (fun y hy=>hk2 y (AT _ hy)) (by
    rw[Gz] at ho |-;refine⟨fun y hy => ?_,ho.2.2⟩;obtain⟨u,a,b⟩:=PB.1 (ho.2.1 y hy);exact PB.2 ⟨u,(wle u).2 a,b⟩)
   refine⟨D2 z m::M,⟨fun u=>jI oz.one m u,?_⟩,⟨?_,?_,?_⟩,?_,?_⟩
   ·match M,h1 with
    | y::M',h1=>exact⟨fun u=>(h1.1 u).trans (wle u),h1.2⟩
   ·intro y hy;rcases BD.1 hy with rfl | hy
    ·exact⟨k+m,by omega,oz'⟩
    ·exact h2.ok y hy
   ·rw[Gz];refine⟨?_,h2.sep⟩;match M,h1,h2,h3 with
    | y::M',h1,h2,h3 =>
     have hy:=h3 (D2 w m) y rfl rfl;have c0:¬ dl y.2.lo' (D2 z m).2.hi':=Aah l2 hy;intro x hx;rcases BD.1 hx with rfl | hx
     ·exact c0
     ·have hs:=h2.sep;rw[Gz] at hs;have c2:=hs.1 x hx;obtain⟨k5,_,oy⟩:=h2.ok y (AO ..);exact Aah (Aah c0 oy.one.dlt.1) (le_of_lt c2)
   ·intro y hy;rcases BD.1 hy with rfl | hy
    ·exact hb
    ·exact h2.top y hy
   ·intro a b ha hb';simp at ha hb';subst ha hb';exact (Oz oz.one m).1
   ·rw[show A++D2 z m::M=(A++[D2 z m])++M by simp];exact CE.loop k1 h4
theorem rE{ps:List (LI)}(hps:∀ p∈ps,Enp p)(hn:ps.length<=60):∃ M,Srt ps M/\M.length<=600/\RQ 168 [H (Cd ps).length (pp (Cd ps))] (P 7 (M.map AP).length (CI (M.map AP))):=by
 obtain⟨L,hL,nL,k1⟩:=Amz hps hn ps.length 0 [] (by omega) ⟨fun z hz=>(by cases hz),.nil,fun z hz=>(by cases hz),fun a ha=>(by simp at ha)⟩ (by simp);obtain⟨M,s1,s2,_,k2⟩:=Anb (n:=L.length) (by omega) L.length L [] rfl rfl (fun z hz=>by
  obtain⟨k,a,b⟩:=hL.ok z hz;exact⟨k,by omega,b⟩) (fun z hz=>hL.ok z (List.mem_of_mem_tail hz)) hL.asc
 have hlen:=s1.len;refine⟨M,⟨s2.ok,?_,?_,s2.sep,s2.top⟩,by omega,?_⟩
 ·intro z hz;obtain⟨w,hw,e⟩:=s1.right z hz;obtain⟨a1,a2⟩:=hL.src w hw;obtain⟨k,_,ow⟩:=hL.ok w hw;exact⟨w.1,a1,w.2,a2,ow.lt,e⟩
 ·intro p hp y hy hlt;obtain⟨z,hz,e⟩:=hL.cov (p,y) ⟨hp,hy⟩ hlt;obtain⟨w,hw,e2⟩:=s1.left z hz;exact⟨w,hw,fun u=>(Xy.1 e u).trans (e2 u).symm⟩
 ·have k:=A2a (Cd ps) (L.map AP) (M.map AP) _ _ (by rw[Q];exact k1) (by rw[Q];exact k2);rw[show (M.map AP).length=(L.map AP).length by rw[Q,Q];exact hlen];exact k
section
variable {p:LI} (hk:Kb 5 p) (hl:p.length<=8)
include hk hl
theorem jJ:∀ r i:Nat,i+r=p.length ->
  (aP (p.drop i)=0/\Ap (.loop QD) (JD 0 (p.map cn) (((p.map cn).length:Nat):Int) (i:Nat)) (.exit 0) (JD 0 (p.map cn) (((p.map cn).length:Nat):Int) (p.length:Nat))) \/
  ∃ j:Int,Ap (.loop QD) (JD 0 (p.map cn) (((p.map cn).length:Nat):Int) (i:Nat)) .ret (JD (aP (p.drop i)) (p.map cn) (((p.map cn).length:Nat):Int) j):=by
 intro r;induction r with
 | zero =>
  intro i hi;have e:i=p.length:=by omega
  subst e;rw[Ev];exact .inl ⟨rfl,Ah (A1u _ _ _ _ (by rw[Q,decide_eq_false_iff_not];omega))⟩
 | succ r ih =>
  intro i hi;have hil:i<p.length:=by omega
  have hd:p.drop i=p[i]::p.drop (i+1):=B2 hil;have hg:AU 5 ((p.map cn).getD i z0):=Bo (AR hk) i;have sg:=Ka (neg:=((p.map cn).getD i z0).1) hg.1 (by have:=hg.2;omega);rw[show rv ((p.map cn).getD i z0).1 ((p.map cn).getD i z0).2=L ((p.map cn).getD i z0) from rfl,FQ,Z (l:=p),Ad hil] at sg;have sg:RQ 101 [Az ((p.map cn).getD (D (i:Int)) z0)] (F O (BQ p[i])):=by rw[R];exact sg
  have ei:I O ((i:Int)+1)=((i+1:Nat):Int):=by rw[Bg (by omega) (by omega)];omega
  have c1:decide ((i:Int)<(((p.map cn).length:Nat):Int))=true:=by rw[Q,decide_eq_true_eq];omega
  have n1:0<=(i:Int)/\(i:Int)<(((p.map cn).length:Nat):Int):=by rw[Q];omega
  rw[hd];simp only[aP];by_cases c:BQ p[i]=0
  ·rw[if_pos c];have k:=A1t 0 (p.map cn) _ _ _ c1 (by rw[bne_eq_false_iff_eq];exact c) n1 sg;rw[ei] at k;rcases ih (i+1) (by omega) with ⟨a,b⟩ | ⟨j,b⟩
   ·exact .inl ⟨a,CE.loop k b⟩
   ·exact .inr ⟨j,CE.loop k b⟩
  ·rw[if_neg c];exact .inr ⟨_,Ah (A1s 0 (p.map cn) _ _ _ c1 (by rw[bne_iff_ne];exact c) n1 sg)⟩
theorem rF:RQ 167 [H (p.map cn).length (pc (p.map cn))] (F O (aP p)):=by
 rcases jJ hk hl p.length 0 (by omega) with ⟨a,b⟩ | ⟨j,b⟩
 ·rw[Da] at a;rw[a];exact A1v _ _ b
 ·rw[Da] at b;exact Akz _ _ _ b
end
def FI(ts:List (LI)):List (LI):=ts.filter fun p => !PT p
def MM(ts:List (LI)):Bool:=(FI ts).all fun p=>decide (aP p>0)
def Ca(ls:List (List Rn)):List (LI):=ls.map fun rs=>Y (N rs)
structure Few (ls:List (List Rn)):Prop where
 len:ls.length<=5
 good:∀ rs∈ls,∀ r∈rs,AU 5 r
 deg:∀ rs∈ls,rs.length<=8
 co:∀ rs∈ls,∀ i,((N rs).getD i 0).natAbs<=2^113
theorem eX(a:List (LI))(p:LI):FI (a++[p])=if PT p then FI a else FI a++[p]:=by
 unfold FI;rw[List.filter_append];cases h:PT p <;> simp[h]
theorem Anc(a:List (LI))(p:LI):pp (Cd (a++[p]))=pp (Cd a)++[H (p.map cn).length (pc (p.map cn))]:=by
 simp[pp,Cd]
section
variable {ls:List (List Rn)} (h:Few ls)
include h
theorem Few.ts{t:LI}(ht:t∈Ca ls):Kb 5 t/\t.length<=8/\BH t/\∀ i,(t.getD i 0).natAbs<=2^113:=by
 obtain⟨rs,hrs,rfl⟩:=Cn.1 ht;refine⟨(J8 (Dk (h.good rs hrs))).trim,?_,Hg _,fun i => ?_⟩
 ·have:=BA (N rs);have:=h.deg rs hrs;rw[AW] at *
  omega
 ·rw[Dl];exact h.co rs hrs i
theorem Few.open{t:LI}(ht:t∈FI (Ca ls))(hn:JF t=false):Enp t/\BH t:=by
 obtain⟨a,b,c,d⟩:=h.ts (ES.1 ht).1;refine⟨⟨?_,b,d⟩,c⟩;intro e;have e:t=[]:=by rw[<- c];exact e
 rw[e] at hn;cases hn
theorem VT{i:Nat}(hi:i<(Ca ls).length) :
  (JF (Ca ls)[i]=false->Ap G5 (DM false (FI ((Ca ls).take i)).length (pp (Cd (FI ((Ca ls).take i)))) (MM ((Ca ls).take i)) ls (ls.length:Int) (i:Nat)) .norm (DM false (FI ((Ca ls).take (i+1))).length (pp (Cd (FI ((Ca ls).take (i+1))))) (MM ((Ca ls).take (i+1))) ls (ls.length:Int) ((i+1:Nat):Int))) /\
  (JF (Ca ls)[i]=true->Ap G5 (DM false (FI ((Ca ls).take i)).length (pp (Cd (FI ((Ca ls).take i)))) (MM ((Ca ls).take i)) ls (ls.length:Int) (i:Nat)) .ret (DM false (FI ((Ca ls).take i)).length (pp (Cd (FI ((Ca ls).take i)))) (MM ((Ca ls).take i)) ls (ls.length:Int) (i:Nat))):=by
 have hlen:(Ca ls).length=ls.length:=Q ..;have hil:i<ls.length:=by omega
 have h5:=h.len;obtain⟨a,b,_,_⟩:=h.ts (AM hi);have et:(Ca ls)[i]=Y (N ls[i]):=by simp[Ca]
 have eg:ls.getD (D (i:Int)) []=ls[i]:=by rw[R,Z,Ad hil];rfl
 have ei:I O ((i:Int)+1)=((i+1:Nat):Int):=by rw[Bg (by omega) (by omega)];omega
 have c1:decide ((i:Int)<(ls.length:Int))=true:=by rw[decide_eq_true_eq];omega
 have n1:0<=(i:Int)/\(i:Int)<(ls.length:Int):=by omega
 have gi:=h.good ls[i] (AM hil);have di:=h.deg ls[i] (AM hil);have tr:=Kf (rs:=ls[i]) (fun r hr=>(gi r hr).mono (by decide)) (by omega);rw[<- et] at tr;have tr:RQ 66 [H (ls.getD (D (i:Int)) []).length (pc (ls.getD (D (i:Int)) []))] (P 2 ((Ca ls)[i].map cn).length (pc ((Ca ls)[i].map cn))):=by
  rw[eg,Q];exact tr
 have sh:=Aae a b;have tk:(Ca ls).take (i+1)=(Ca ls).take i++[(Ca ls)[i]]:=EV hi;have ol:(FI ((Ca ls).take i)).length<=5:=by
  have:=ACh (fun p => !PT p) ((Ca ls).take i);rw[AD] at this;unfold FI;omega
 constructor
 ·intro hn;rw[hn] at sh;rw[tk];cases ha:PT (Ca ls)[i] with
  | true =>
   rw[ha] at sh;have eo:FI ((Ca ls).take i++[(Ca ls)[i]])=FI ((Ca ls).take i):=by rw[eX,ha];rfl
   have en:MM ((Ca ls).take i++[(Ca ls)[i]])=MM ((Ca ls).take i):=by unfold MM;rw[eo]
   rw[eo,en];have k:=Als false (FI ((Ca ls).take i)).length (pp (Cd (FI ((Ca ls).take i)))) (MM ((Ca ls).take i)) ls (ls.length:Int) (i:Nat) _ false true c1 rfl rfl n1 tr sh;rw[ei] at k;exact k
  | false =>
   rw[ha] at sh;have eo:FI ((Ca ls).take i++[(Ca ls)[i]])=FI ((Ca ls).take i)++[(Ca ls)[i]]:=by rw[eX,ha];rfl
   have en:MM ((Ca ls).take i++[(Ca ls)[i]])=(MM ((Ca ls).take i)&&decide (aP (Ca ls)[i]>0)):=by unfold MM;rw[eo,List.all_append];simp
   have bh:=rF a b;rw[en,eo,Anc,AY];cases hw:MM ((Ca ls).take i) with
   | true =>
    have k:=Alt false (FI ((Ca ls).take i)).length (pp (Cd (FI ((Ca ls).take i)))) true ls (ls.length:Int) (i:Nat) _ false false _ c1 rfl rfl rfl n1 (by omega) tr sh bh;rw[ei] at k;exact k
   | false =>
    have k:=Alu false (FI ((Ca ls).take i)).length (pp (Cd (FI ((Ca ls).take i)))) false ls (ls.length:Int) (i:Nat) _ false false c1 rfl rfl rfl n1 (by omega) tr sh;rw[ei] at k;exact k
 ·intro hn;rw[hn] at sh;exact Alr false (FI ((Ca ls).take i)).length (pp (Cd (FI ((Ca ls).take i)))) (MM ((Ca ls).take i)) ls (ls.length:Int) (i:Nat) _ true _ c1 rfl n1 tr sh
theorem Ane:((∀ t∈Ca ls,JF t=false)->Ap (.loop G5) (DM false 0 ([]:List AV) true ls (ls.length:Int) 0) (.exit 0) (DM false (FI (Ca ls)).length (pp (Cd (FI (Ca ls)))) (MM (Ca ls)) ls (ls.length:Int) (ls.length:Int))) /\
  ((∃ t∈Ca ls,JF t=true)->∃ (k:Nat) (cs:List AV) (nw:Bool) (i:Int),Ap (.loop G5) (DM false 0 ([]:List AV) true ls (ls.length:Int) 0) .ret (DM false k cs nw ls (ls.length:Int) i)):=by
 have hlen:(Ca ls).length=ls.length:=Q ..;constructor
 ·intro hn;refine GQ (prog:=DK) (c:=G5) (ex := .exit 0) (fun i=>DM false (FI ((Ca ls).take i)).length (pp (Cd (FI ((Ca ls).take i)))) (MM ((Ca ls).take i)) ls (ls.length:Int) (i:Nat)) ls.length (by nofun) ?_ 0 (AN _) (fun i _ hi=>(VT h (by omega)).1 (hn _ (AM _)));rw[<- hlen,DP,hlen];exact Alv _ _ _ _ _ _ _ (by rw[decide_eq_false_iff_not];omega)
 ·rintro⟨t,ht,hn⟩;obtain⟨j,hj,rfl⟩:=Hq ht;rcases Jc (fun i=>JF ((Ca ls).getD i [])) (Ca ls).length (Ca ls).length 0 (by omega) with g | ⟨m,_,g2,g3,g4⟩
  ·have:=g j (AN _) hj;rw[Z,Ad hj] at this;rw[show JF (Ca ls)[j]=false from this] at hn;cases hn
  ·have gd:∀ i (hi:i<(Ca ls).length),(Ca ls).getD i []=(Ca ls)[i]:=fun i hi=>by rw[Z,Ad hi];rfl
   rw[gd m g2] at g3;exact⟨_,_,_,_,GQ (prog:=DK) (c:=G5) (ex := .ret) (fun i=>DM false (FI ((Ca ls).take i)).length (pp (Cd (FI ((Ca ls).take i)))) (MM ((Ca ls).take i)) ls (ls.length:Int) (i:Nat)) m (by nofun) ((VT h g2).2 g3) 0 (AN _) (fun i _ hi=>(VT h (by omega)).1 (by
    have:=g4 i (AN _) hi;rw[gd i (by omega)] at this;exact this))⟩
end
section
variable {ps:List (LI)} (hps:∀ p∈ps,Enp p/\BH p) (hn:ps.length<=5) {m:Rn} (hm:AU 300 m) {g:Nat} (hg:g<=8192) (oF:List Rn) (oR:Rn) (oE:Int) (oT:Rn) (oG:Int) (o:Bool) (l:List Rt) (M j d:Int) (fs:List Rn) (r:Rn) (e:Int) (t:Rn) (f:Int)
include hps hn hm hg
theorem Anf:∀ k q:Nat,q+k=ps.length ->
  ((∀ p∈ps.drop q,0<DG p (L m) g)/\Ap (.loop Kz) (FV oF oR oE oT oG o (Cd ps) l M j d fs r e t f m (g:Nat) (q:Nat)) (.exit 4) (FV oF oR oE oT oG o (Cd ps) l M j d fs r e t f m (g:Nat) (ps.length:Nat))) \/
  ((¬ ∀ p∈ps.drop q,0<DG p (L m) g)/\∃ i:Int,Ap (.loop Kz) (FV oF oR oE oT oG o (Cd ps) l M j d fs r e t f m (g:Nat) (q:Nat)) (.exit 3) (FV oF oR oE oT oG o (Cd ps) l M j d fs r e t f m (g:Nat) i)):=by
 intro k;induction k with
 | zero =>
  intro q hq;have e:q=ps.length:=by omega
  subst e;rw[Ev];exact .inl ⟨fun p hp=>(by cases hp),Ah (Aly _ _ _ _ _ _ _ _ _ _ _ _ _ _ _ _ _ _ _ (by rw[GG,decide_eq_false_iff_not];omega))⟩
 | succ k ih =>
  intro q hq;have hql:q<ps.length:=by omega
  obtain⟨ep,_⟩:=hps _ (AM hql);have hk:Kb 5 ps[q]:=fun i=>C_ (ep.co i) (by decide);have sg:=Py (p:=ps[q]) ⟨hk.mono (by decide),by have:=ep.len;omega⟩ hm hg;have sg:RQ 65 [H ((Cd ps).getD (D (q:Int)) []).length (pc ((Cd ps).getD (D (q:Int)) [])),A2 m (g:Nat)] (F O (DG ps[q] (L m) g)):=by
   rw[R,Adb hql];exact sg
  have eq:I O ((q:Int)+1)=((q+1:Nat):Int):=by rw[Bg (by omega) (by omega)];omega
  have c1:decide ((q:Int)<(((Cd ps).length:Nat):Int))=true:=by rw[GG,decide_eq_true_eq];omega
  have n1:0<=(q:Int)/\(q:Int)<(((Cd ps).length:Nat):Int):=by rw[GG];omega
  rw[B2 hql];by_cases c:DG ps[q] (L m) g<=0
  ·exact .inr ⟨fun z=>by have:=z _ (AO ..);omega,_,Ah (Alw oF oR oE oT oG o (Cd ps) l M j d fs r e t f m (g:Nat) (q:Nat) _ c1 (decide_eq_true c) n1 sg)⟩
  ·have kk:=Alx oF oR oE oT oG o (Cd ps) l M j d fs r e t f m (g:Nat) (q:Nat) _ c1 (decide_eq_false c) n1 sg;rw[eq] at kk;rcases ih (q+1) (by omega) with ⟨a,b⟩ | ⟨a,i,b⟩
   ·refine .inl ⟨fun p hp => ?_,CE.loop kk b⟩;rcases BD.1 hp with rfl | hp
    ·omega
    ·exact a p hp
   ·exact .inr ⟨fun z=>a fun p hp=>z p (AT _ hp),i,CE.loop kk b⟩
end
section
variable {ps:List (LI)} (hps:∀ p∈ps,Enp p/\BH p) (hn:ps.length<=5) {M:List Nu} (h:Srt ps M) (hM:M.length<=600)
include h hM
theorem Ang{j:Nat}(hj:j<M.length):AU 300 (cn (GJ M j).1)/\(GJ M j).2<=8192 /\
  (A (I O ((j:Int)+1)<(((M.map AP).length:Nat):Int))=true->RQ 133 [A2 ((M.map AP).getD (D (j:Int)) zR).t ((M.map AP).getD (D (j:Int)) zR).f,A2 ((M.map AP).getD (D (I O ((j:Int)+1))) zR).r ((M.map AP).getD (D (I O ((j:Int)+1))) zR).e] (A2 (cn (GJ M j).1) ((GJ M j).2:Nat))) /\
  (A (I O ((j:Int)+1)<(((M.map AP).length:Nat):Int))=false->RQ 133 [A2 ((M.map AP).getD (D (j:Int)) zR).t ((M.map AP).getD (D (j:Int)) zR).f,A2 (cn 1) 0] (A2 (cn (GJ M j).1) ((GJ M j).2:Nat))):=by
 obtain⟨k,hk,o⟩:=h.ok _ (AM hj);have ok:=o.ok;have ei:I O ((j:Int)+1)=((j+1:Nat):Int):=by rw[Bg (by omega) (by omega)];omega
 have eg:(M.map AP).getD (D (j:Int)) zR=AP M[j]:=by rw[R];exact Mm hj
 have key:∀ {t:Rn} {b:Nat},AU 300 t->b<=4600->(L t).natAbs<=2^0*2^b->Rx M j=(L t,b) ->
   AU 300 (cn (GJ M j).1)/\(GJ M j).2<=8192/\RQ 133 [A2 (AP M[j]).t (AP M[j]).f,A2 t (b:Nat)] (A2 (cn (GJ M j).1) ((GJ M j).2:Nat)):=by
  intro t b ht hb hv he;have ha:=ok.b;have e:GJ M j=(PR (L M[j].2.t) M[j].2.b (L t) b,L7 (L M[j].2.t) M[j].2.b (L t) b):=by
   unfold GJ;rw[he,Lb hj];rfl
  have me:L7 (L M[j].2.t) M[j].2.b (L t) b<=max M[j].2.b b+1:=Pz;have mb:=U6 ok.vt hv;have mr:=Px (ok.gt.mono (show 300<=600 by omega)) (ht.mono (show 300<=600 by omega)) (a:=M[j].2.b) (b:=b) (by omega) (by omega);rw[e];refine⟨B4 (C_ (k:=0+L7 (L M[j].2.t) M[j].2.b (L t) b) (by rw[De];exact mb) (by omega)),by simp only;omega,mr⟩
 by_cases c:j+1<M.length
 ·obtain⟨k2,hk2,o2⟩:=h.ok _ (AM c);have ok2:=o2.ok;have eg2:(M.map AP).getD (D (I O ((j:Int)+1))) zR=AP M[j+1]:=by rw[ei,R];exact Mm c
  obtain⟨a1,a2,a3⟩:=key ok2.gr (by have:=ok2.a;omega) ok2.vr (by unfold Rx;rw[if_pos c,Lb c];rfl);refine⟨a1,a2,fun _=>by rw[eg,eg2];exact a3,fun g => ?_⟩;(first|rw[ei,Q,decide_eq_false_iff_not] at g|(rw[ei] at g;unfold sL at g;rw[Q,decide_eq_false_iff_not] at g));omega
 ·obtain⟨a1,a2,a3⟩:=key (t:=cn 1) (b:=0) (B4 (C_ (k:=1) (by decide) (by decide))) (by decide) (by decide) (by unfold Rx;rw[if_neg c,A6]);refine⟨a1,a2,fun g => ?_,fun _=>by rw[eg];exact a3⟩;(first|rw[ei,Q,decide_eq_true_eq] at g|(rw[ei] at g;unfold sL at g;rw[Q,decide_eq_true_eq] at g));omega
include hps hn
theorem Aaj{j:Nat}(hj:j<M.length)(oF:List Rn)(oR:Rn)(oE:Int)(oT:Rn)(oG:Int)(o:Bool) :
  ((∀ p∈ps,0<DG p (GJ M j).1 (GJ M j).2)->Ap H9 (E8 oF oR oE oT oG o (Cd ps) (M.map AP) (((M.map AP).length:Nat):Int) (j:Nat)) .ret (E8 (AP M[j]).fs (AP M[j]).r (AP M[j]).e (AP M[j]).t (AP M[j]).f true (Cd ps) (M.map AP) (((M.map AP).length:Nat):Int) (j:Nat))) /\
  ((¬ ∀ p∈ps,0<DG p (GJ M j).1 (GJ M j).2)->Ap H9 (E8 oF oR oE oT oG o (Cd ps) (M.map AP) (((M.map AP).length:Nat):Int) (j:Nat)) .norm (E8 oF oR oE oT oG o (Cd ps) (M.map AP) (((M.map AP).length:Nat):Int) ((j+1:Nat):Int))):=by
 obtain⟨g1,g2,m1,m2⟩:=Ang h hM hj;have ei:I O ((j:Int)+1)=((j+1:Nat):Int):=by rw[Bg (by omega) (by omega)];omega
 have eg:(M.map AP).getD (D (j:Int)) zR=AP M[j]:=by rw[R];exact Mm hj
 have c1:decide ((j:Int)<(((M.map AP).length:Nat):Int))=true:=by rw[Q,decide_eq_true_eq];omega
 have n1:0<=(j:Int)/\(j:Int)<(((M.map AP).length:Nat):Int):=by rw[Q];omega
 have n3:decide (I O ((j:Int)+1)<(((M.map AP).length:Nat):Int))=true->0<=I O ((j:Int)+1)/\I O ((j:Int)+1)<(((M.map AP).length:Nat):Int):=fun g=>by
  rw[ei] at g |-;exact⟨by omega,of_decide_eq_true g⟩
 have al:=Anf hps hn g1 g2 oF oR oE oT oG o (M.map AP) (((M.map AP).length:Nat):Int) (j:Nat) (j:Nat) ((M.map AP).getD (D (j:Int)) zR).fs ((M.map AP).getD (D (j:Int)) zR).r ((M.map AP).getD (D (j:Int)) zR).e ((M.map AP).getD (D (j:Int)) zR).t ((M.map AP).getD (D (j:Int)) zR).f ps.length 0 (by omega);rw[Da,A6] at al;constructor
 ·intro hp;rcases al with ⟨_,b⟩ | ⟨a,_⟩
  ·rw[<- eg];cases c2:decide (I O ((j:Int)+1)<(((M.map AP).length:Nat):Int)) with
   | true=>exact Aab oF oR oE oT oG o (Cd ps) (M.map AP) _ (j:Nat) _ _ _ c1 c2 n1 Ia (n3 c2) (m1 c2) b
   | false=>exact Aac oF oR oE oT oG o (Cd ps) (M.map AP) _ (j:Nat) _ _ _ c1 c2 n1 Ia (m2 c2) b
  ·exact absurd hp a
 ·intro hp;rcases al with ⟨a,_⟩ | ⟨_,i,b⟩
  ·exact absurd a hp
  ·cases c2:decide (I O ((j:Int)+1)<(((M.map AP).length:Nat):Int)) with
   | true =>
    have k:=Alz oF oR oE oT oG o (Cd ps) (M.map AP) _ (j:Nat) _ _ _ c1 c2 n1 Ia (n3 c2) (m1 c2) b;rw[ei] at k;exact k
   | false =>
    have k:=Ama oF oR oE oT oG o (Cd ps) (M.map AP) _ (j:Nat) _ _ _ c1 c2 n1 Ia (m2 c2) b;rw[ei] at k;exact k
theorem Aak:(∃ j,∃ hj:j<M.length,Beg ps (Eu M[j])/\(∀ C,Beg ps C->∀ u,C u->Eu M[j] u)/\Ap (.loop H9) (E8 [] (false,[]) 0 (false,[]) 0 false (Cd ps) (M.map AP) (((M.map AP).length:Nat):Int) 0) .ret (E8 (AP M[j]).fs (AP M[j]).r (AP M[j]).e (AP M[j]).t (AP M[j]).f true (Cd ps) (M.map AP) (((M.map AP).length:Nat):Int) (j:Nat))) \/
  ((∀ C,¬ Beg ps C)/\Ap (.loop H9) (E8 [] (false,[]) 0 (false,[]) 0 false (Cd ps) (M.map AP) (((M.map AP).length:Nat):Int) 0) (.exit 2) (E8 [] (false,[]) 0 (false,[]) 0 false (Cd ps) (M.map AP) (((M.map AP).length:Nat):Int) (M.length:Nat))):=by
 have st:=fun j (hj:j<M.length)=>Aaj hps hn h hM hj [] (false,[]) 0 (false,[]) 0 false;have bt:∀ j,((ps.all fun p=>decide (0<DG p (GJ M j).1 (GJ M j).2))=true↔∀ p∈ps,0<DG p (GJ M j).1 (GJ M j).2):=fun j=>by
  simp only[Cf,decide_eq_true_eq]
 have bf:∀ j,((ps.all fun p=>decide (0<DG p (GJ M j).1 (GJ M j).2))=false->¬ ∀ p∈ps,0<DG p (GJ M j).1 (GJ M j).2):=fun j e g=>by
  rw[(bt j).2 g] at e;cases e
 rcases Jc (fun j=>ps.all fun p=>decide (0<DG p (GJ M j).1 (GJ M j).2)) M.length M.length 0 (by omega) with g | ⟨m,_,g2,g3,g4⟩
 ·refine .inr ⟨fun C hC=>h.no hps (fun i hi=>bf i (g i (AN _) hi)) hC,?_⟩;exact GQ (prog:=DK) (c:=H9) (ex := .exit 2) (fun j=>E8 [] (false,[]) 0 (false,[]) 0 false (Cd ps) (M.map AP) (((M.map AP).length:Nat):Int) (j:Nat)) M.length (by nofun) (Amb _ _ _ _ _ _ _ _ _ _ (by rw[Q,decide_eq_false_iff_not];omega)) 0 (AN _) (fun j _ hj=>(st j hj).2 (bf j (g j (AN _) hj)))
 ·refine .inl ⟨m,g2,h.beg hps g2 ((bt m).1 g3),fun C hC u hu=>h.least hps g2 (fun i hi=>bf i (g4 i (AN _) hi)) hC hu,?_⟩;exact GQ (prog:=DK) (c:=H9) (ex := .ret) (fun j=>E8 [] (false,[]) 0 (false,[]) 0 false (Cd ps) (M.map AP) (((M.map AP).length:Nat):Int) (j:Nat)) m (by nofun) ((st m g2).1 ((bt m).1 g3)) 0 (AN _) (fun j _ hj=>(st j (by omega)).2 (bf j (g4 j (AN _) hj)))
end
def Ib(ts:List (LI)):Prop:=(∀ t∈ts,JF t=false)/\MM ts=true
structure RootS (ts:List (List Int)) (C:Dy->Prop):Prop where
 nev:∀ t∈ts,JF t=false
 nw:MM ts=false
 beg:Beg (FI ts) C
 least:∀ C',Beg (FI ts) C'->∀ u,C' u->C u
def Rz:Iv:=⟨cn 0,0,cn 0,0⟩
abbrev Sm:AV:=Bw ([0,1].map cn) (cn 0) 0 (cn 0) 0
abbrev nuN:AV:=Bw [] (false,[]) 0 (false,[]) 0
theorem Aal(hz:RQ 81 [A2 z0 0] Sm){ls:List (List Rn)}(h:Few ls) :
  (Ib (Ca ls)/\RQ 139 [sL pp ls] (Ar [Sm,B true])) \/
  (¬ Ib (Ca ls)/\(∀ C,¬ RootS (Ca ls) C)/\RQ 139 [sL pp ls] (Ar [nuN,B false])) \/
  (¬ Ib (Ca ls)/\∃ k z,k<=4600/\Nok k z/\RootS (Ca ls) (Eu z)/\RQ 139 [sL pp ls] (Ar [PY z,B true])):=by
 obtain⟨l1,l2⟩:=Ane h;by_cases hne:∃ t∈Ca ls,JF t=true
 ·obtain⟨k,cs,nw,i,l⟩:=l2 hne;obtain⟨t,ht,hn⟩:=hne;refine .inr (.inl ⟨fun g => ?_,fun C g => ?_,Amc ls _ _ _ _ l⟩)
  ·rw[g.1 t ht] at hn;cases hn
  ·rw[g.nev t ht] at hn;cases hn
 have hall:∀ t∈Ca ls,JF t=false:=fun t ht=>by
  cases e:JF t with
  | false=>rfl
  | true=>exact absurd ⟨t,ht,e⟩ hne
 have l:=l1 hall;have hps:∀ p∈FI (Ca ls),Enp p/\BH p:=fun p hp=>h.open hp (hall p (ES.1 hp).1);have hlen:(FI (Ca ls)).length<=5:=by
  have a:=ACh (fun p => !PT p) (Ca ls);have b:(Ca ls).length=ls.length:=Q ..;have:=h.len;unfold FI;omega
 have ol:(Cd (FI (Ca ls))).length=(FI (Ca ls)).length:=GG _;rw[<- ol] at l;cases hw:MM (Ca ls) with
 | true =>
  rw[hw] at l;exact .inl ⟨⟨hall,hw⟩,Amd ls (Cd (FI (Ca ls))) _ _ _ _ _ _ l hz⟩
 | false =>
  rw[hw] at l;have nz:¬ Ib (Ca ls):=fun g=>by rw[g.2] at hw;cases hw
  obtain⟨M,hM,nM,kM⟩:=rE (fun p hp=>(hps p hp).1) (show (FI (Ca ls)).length<=60 by omega);rcases Aak hps hlen hM nM with ⟨j,hj,b1,b2,k⟩ | ⟨b,k⟩
  ·obtain⟨kk,hkk,o⟩:=hM.ok _ (AM hj);exact .inr (.inr ⟨nz,kk,M[j],hkk,o,⟨hall,hw,b1,b2⟩,Amf ls (Cd (FI (Ca ls))) (M.map AP) _ _ _ _ _ _ _ l kM k⟩)
  ·exact .inr (.inl ⟨nz,fun C g=>b C g.beg,Ame ls (Cd (FI (Ca ls))) (M.map AP) _ _ l kM k⟩)
theorem rG:Kb 5 [0,1]:=(J8 (K:=1) fun x hx=>by
 simp at hx;rcases hx with rfl | rfl <;> (unfold Bv;decide)).mono (by decide)
theorem Ade:Rk [0,1]:=⟨rG.mono (by decide),by decide⟩
theorem UN(m:Nat):IvOk 0 m Rz :=
 ⟨B4 (C_ (k:=1) (by decide) (by decide)),B4 (C_ (k:=1) (by decide) (by decide)),AN _,AN _,by decide,by decide⟩
theorem ZB:RQ 125 [Sm] (B true) :=
 Ko (p:=[0,1]) (UN 0).gr (UN 0).gt (a:=0) (b:=0) (by decide) (by decide)
theorem rH{k:Nat}{z:Nu}(h:Nok k z)(hk:k<=5600):RQ 125 [PY z] (B false):=by
 have e:=Ko (p:=S z.1) h.ok.gr h.ok.gt (a:=z.2.a) (b:=z.2.b) (by have:=h.ok.a;omega) (by have:=h.ok.b;omega);rw[EE.2 h.one.lt] at e;exact e
theorem Anh{k:Nat}{z:Nu}(h:Nok k z)(hk:k<=5600):RQ 74 [Sm,PY z] (F O (-1)):=by
 have oz:=Ry h.ok hk;obtain⟨c1,c2⟩:=Ot (UN 5600) oz (by decide);have e0:L Rz.t=0:=A6 0;have e1:L Rz.r=0:=A6 0;by_cases a1:BI (L Rz.t) Rz.b (L z.2.r) z.2.a<0
 ·exact dQ _ Rz.r Rz.t _ _ _ z.2.r z.2.t _ _ _ (decide_eq_true a1) c1
 ·have lo:=h.w.lo;have hlt:=h.w.lt;have hB:=Bt z.2.b;have hA:=Bt z.2.a;have hr0:L z.2.r*2^z.2.b>=0:=AA lo (Aw hB);have ht:0<L z.2.t:=by
   apply FD.1;intro g;have:=AA (show 0 <= -L z.2.t by omega) (Aw hA);rw[NM] at this;omega
  have a2:¬ BI (L z.2.t) z.2.b (L Rz.r) Rz.a<0:=by
   rw[e1];refine O3 (u:=(L z.2.t,z.2.b)) (v:=((0:Int),Rz.a)).2 ?_;show (0:Int)*2^z.2.b<=L z.2.t*2^(0:Nat);omega
  have a3:BI (L Rz.t) Rz.b (L z.2.r) z.2.a<=0:=by
   rw[e0];refine H0 (u:=((0:Int),Rz.b)) (v:=(L z.2.r,z.2.a)).2 ?_;show (0:Int)*2^z.2.a<=L z.2.r*2^(0:Nat);omega
  have sd0:sd z.1 z.2 0 0=1:=P6 (by omega);have s:=VC (Gc h.en) h.ok.gr h.ok.gt (q:=cn 0) (B4 (C_ (k:=1) (by decide) (by decide))) (a:=z.2.a) (b:=z.2.b) (c:=0) (by have:=h.ok.a;omega) (by have:=h.ok.b;omega) (by decide) (by rw[EE.2 h.one.lt];decide);rw[A6,show Fv (S z.1) (L z.2.r) z.2.a (L z.2.t) z.2.b 0 0=1 from sd0] at s;have he:=iP ([0,1].map cn) Rz.r Rz.t (Rz.a:Int) (Rz.b:Int) ((S z.1).map cn) z.2.r z.2.t (z.2.a:Nat) (z.2.b:Nat) 1 true rfl ZB s;exact Zq Ade (Gc h.en) (UN 5600) oz (n:=0) (by decide) a1 a2 he ⟨fun i hi=>absurd hi (NR i),.inl ⟨rfl,a3⟩⟩
inductive FSt (ll:L3) (i:Nat):Aj->Prop
 | no:(∀ ls∈ll.take i,¬ Ib (Ca ls))->(∀ ls∈ll.take i,∀ C,¬ RootS (Ca ls) C)->FSt ll i (Jk [] (false,[]) 0 (false,[]) 0 false ll (ll.length:Int) (i:Nat))
 | ro (k:Nat) (z:Nu):k<=4600->Nok k z->(∀ ls∈ll.take i,¬ Ib (Ca ls))->(∃ ls∈ll.take i,RootS (Ca ls) (Eu z))->(∀ ls∈ll.take i,∀ C,RootS (Ca ls) C->∀ u,C u->Eu z u)->FSt ll i (Jk (AP z).fs (AP z).r (AP z).e (AP z).t (AP z).f true ll (ll.length:Int) (i:Nat))
theorem H1{α:Type}{l:List α}{i:Nat}(h:i<l.length){P:α->Prop}:(∀ x∈l.take (i+1),P x)↔(∀ x∈l.take i,P x)/\P l[i]:=by
 rw[EV h];constructor
 ·intro g;exact⟨fun x hx=>g x (Ff _ hx),g _ (EM _ (C3.2 rfl))⟩
 ·rintro⟨g1,g2⟩ x hx;rcases Bn.1 hx with hx | hx
  ·exact g1 x hx
  ·rw[C3.1 hx];exact g2
section
variable (hz:RQ 81 [A2 z0 0] Sm) {ll:L3} (h:∀ ls∈ll,Few ls) (hn:ll.length<=5)
include hz h hn
theorem rI{i:Nat}(hi:i<ll.length){s:Aj}(hs:FSt ll i s) :
  (∃ s',Ap N' s .norm s'/\FSt ll (i+1) s')\/((∃ ls∈ll,Ib (Ca ls))/\Ap N' s (.exit 0) (Jk ([0,1].map cn) (cn 0) 0 (cn 0) 0 true ll (ll.length:Int) (i:Nat))):=by
 have ei:I O ((i:Int)+1)=((i+1:Nat):Int):=by rw[Bg (by omega) (by omega)];omega
 have eg:ll.getD (D (i:Int)) []=ll[i]:=by rw[R,Z,Ad hi];rfl
 have c1:decide ((i:Int)<(ll.length:Int))=true:=by rw[decide_eq_true_eq];omega
 have n1:0<=(i:Int)/\(i:Int)<(ll.length:Int):=by omega
 have hb:=Aal hz (h _ (AM hi));rw[<- eg] at hb;have sg0:RQ 101 [Az (cn 0)] (F O 0):=YD (n:=0) (by decide);rcases hb with ⟨b1,b2⟩ | ⟨b0,b1,b2⟩ | ⟨b0,k,w,hk,ow,b1,b2⟩
 ·rw[eg] at b1;refine .inr ⟨⟨_,AM hi,b1⟩,?_⟩;cases hs with
  | no a1 a2=>exact A7l _ _ _ _ _ false ll _ (i:Nat) _ _ _ _ _ _ true true c1 rfl rfl rfl rfl n1 b2 ZB sg0
  | ro k z hk o a1 a2 a3=>exact A7j _ _ _ _ _ true ll _ (i:Nat) _ _ _ _ _ (-1) _ true true c1 rfl rfl rfl rfl rfl n1 b2 (Anh o (by omega)) ZB sg0
 ·rw[eg] at b0 b1;left;cases hs with
  | no a1 a2 =>
   have kk:=Acw [] (false,[]) 0 (false,[]) 0 false ll _ (i:Nat) _ _ _ _ _ false c1 rfl n1 b2;rw[ei] at kk;exact⟨_,kk,.no ((H1 hi).2 ⟨a1,b0⟩) ((H1 hi).2 ⟨a2,b1⟩)⟩
  | ro k z hk o a1 a2 a3 =>
   have kk:=Acw (AP z).fs (AP z).r (AP z).e (AP z).t (AP z).f true ll _ (i:Nat) _ _ _ _ _ false c1 rfl n1 b2;rw[ei] at kk;obtain⟨ls,m1,m2⟩:=a2;exact⟨_,kk,.ro k z hk o ((H1 hi).2 ⟨a1,b0⟩) ⟨ls,ZK _ (A3j i) m1,m2⟩ ((H1 hi).2 ⟨a3,fun C hC=>absurd hC (b1 C)⟩)⟩
 ·rw[eg] at b0 b1;left;have own:ll[i]∈ll.take (i+1):=by
   rw[EV hi];exact EM _ (C3.2 rfl)
  cases hs with
  | no a1 a2 =>
   have kk:=A7m [] (false,[]) 0 (false,[]) 0 false ll _ (i:Nat) _ _ _ _ _ true false c1 rfl rfl rfl n1 b2 (rH ow (by omega));rw[ei] at kk;exact⟨_,kk,.ro k w hk ow ((H1 hi).2 ⟨a1,b0⟩) ⟨_,own,b1⟩ ((H1 hi).2 ⟨fun ls hls C hC=>absurd hC (a2 ls hls C),fun C hC u hu=>b1.least C hC.beg u hu⟩)⟩
  | ro j z hj o a1 a2 a3 =>
   obtain⟨s,s1,s2,s3⟩:=rB ow o (by omega) (by omega);by_cases c:s>=0
   ·have kk:=A7i (AP z).fs (AP z).r (AP z).e (AP z).t (AP z).f true ll _ (i:Nat) _ _ _ _ _ _ true c1 rfl rfl (decide_eq_true c) n1 b2 s3;rw[ei] at kk;obtain⟨ls,m1,m2⟩:=a2;refine⟨_,kk,.ro j z hj o ((H1 hi).2 ⟨a1,b0⟩) ⟨ls,ZK _ (A3j i) m1,m2⟩ ((H1 hi).2 ⟨a3,fun C hC u hu => ?_⟩)⟩;have hw:=b1.least C hC.beg u hu;rcases s2 with e | e | e
    ·omega
    ·rw[e] at s1;exact (Xy.1 s1 u).1 hw
    ·rw[e] at s1;obtain⟨v,v1,v2⟩:=PB.1 (Acz.1 s1);exact Il o.one v1 ((D_ v u).resolve_right fun g=>v2 (Il ow.one hw g))
   ·have kk:=A7k (AP z).fs (AP z).r (AP z).e (AP z).t (AP z).f true ll _ (i:Nat) _ _ _ _ _ _ true false c1 rfl rfl (decide_eq_false c) rfl n1 b2 s3 (rH ow (by omega));rw[ei] at kk;refine⟨_,kk,.ro k w hk ow ((H1 hi).2 ⟨a1,b0⟩) ⟨_,own,b1⟩ ((H1 hi).2 ⟨fun ls hls C hC u hu => ?_,fun C hC u hu=>b1.least C hC.beg u hu⟩)⟩;have hzz:=a3 ls hls C hC u hu;have e:s = -1:=by omega
    rw[e] at s1;obtain⟨v,v1,v2⟩:=PB.1 s1;exact Il ow.one v1 ((D_ v u).resolve_right fun g=>v2 (Il o.one hzz g))
theorem rJ:∀ (r i:Nat) (s:Aj),i+r=ll.length->FSt ll i s ->
  (∃ t,FSt ll ll.length t/\Ap (.loop N') s (.exit 0) t)\/((∃ ls∈ll,Ib (Ca ls))/\∃ j:Int,Ap (.loop N') s (.exit 0) (Jk ([0,1].map cn) (cn 0) 0 (cn 0) 0 true ll (ll.length:Int) j)):=by
 intro r;induction r with
 | zero =>
  intro i s hi hs;have e:i=ll.length:=by omega
  subst e;refine .inl ⟨s,hs,?_⟩;cases hs with
  | no a1 a2=>exact Ah (Acx _ _ _ _ _ _ _ _ _ (by rw[decide_eq_false_iff_not];omega))
  | ro j z hj o a1 a2 a3=>exact Ah (Acx _ _ _ _ _ _ _ _ _ (by rw[decide_eq_false_iff_not];omega))
 | succ r ih =>
  intro i s hi hs;rcases rI hz h hn (by omega) hs with ⟨s',k,hs'⟩ | ⟨e,k⟩
  ·rcases ih (i+1) s' (by omega) hs' with ⟨t,ht,l⟩ | ⟨e,j,l⟩
   ·exact .inl ⟨t,ht,CE.loop k l⟩
   ·exact .inr ⟨e,j,CE.loop k l⟩
  ·exact .inr ⟨e,_,Ah k⟩
theorem Aam :
  ((∃ ls∈ll,Ib (Ca ls))/\RQ 89 [H ll.length (DB ll)] (Ar [Sm,B true])) \/
  ((∀ ls∈ll,¬ Ib (Ca ls))/\(∀ ls∈ll,∀ C,¬ RootS (Ca ls) C)/\RQ 89 [H ll.length (DB ll)] (Ar [nuN,B false])) \/
  ((∀ ls∈ll,¬ Ib (Ca ls))/\∃ k z,k<=4600/\Nok k z/\(∃ ls∈ll,RootS (Ca ls) (Eu z))/\(∀ ls∈ll,∀ C,RootS (Ca ls) C->∀ u,C u->Eu z u)/\RQ 89 [H ll.length (DB ll)] (Ar [PY z,B true])):=by
 rcases rJ hz h hn ll.length 0 _ (by omega) (.no (fun ls hls=>by simp at hls) (fun ls hls=>by simp at hls)) with ⟨t,ht,l⟩ | ⟨e,j,l⟩
 ·cases ht with
  | no a1 a2 =>
   rw[DP] at a1 a2;exact .inr (.inl ⟨a1,a2,jD ll _ _ _ _ _ _ false l⟩)
  | ro k z hk o a1 a2 a3 =>
   rw[DP] at a1 a2 a3;exact .inr (.inr ⟨a1,k,z,hk,o,a2,a3,jD ll _ _ _ _ _ _ true l⟩)
 ·exact .inl ⟨e,jD ll _ _ _ _ _ _ true l⟩
end
section
variable {p q:LI} (hp:Enp p) (hq:Enp q) {y x:Iv} (h1:One p y) (h2:One q x) {C m:Nat} (hm:m+C<7990) (o1:IvOk C m y) (o2:IvOk C m x)
include hp hq h1 h2 hm o1 o2
theorem rK:RQ 33 [A2 y.t (y.b:Nat),A2 x.r (x.a:Nat)] (F O (BI (L y.t) y.b (L x.r) x.a))/\RQ 33 [A2 x.t (x.b:Nat),A2 y.r (y.a:Nat)] (F O (BI (L x.t) x.b (L y.r) y.a)) /\
  RQ 33 [A2 y.r (y.a:Nat),A2 y.t (y.b:Nat)] (F O (-1))/\RQ 33 [A2 x.r (x.a:Nat),A2 x.t (x.b:Nat)] (F O (-1))/\RQ 33 [A2 y.r (y.a:Nat),A2 x.r (x.a:Nat)] (F O (BI (L y.r) y.a (L x.r) x.a)) /\
  RQ 71 [y.av (S p),x.av (S q)] (B (A (BI (L y.t) y.b (L x.r) x.a<=0) || decide (BI (L x.t) x.b (L y.r) y.a<=0))) /\
  RQ 72 [y.av (S p)] ((JJ (S p) y).av (S p))/\RQ 72 [x.av (S q)] ((JJ (S q) x).av (S q)):=by
 have cm:∀ {r t:Rn} {a b:Nat},AU 300 r->AU 300 t->a<=m->b<=m->RQ 33 [A2 r (a:Nat),A2 t (b:Nat)] (F O (BI (L r) a (L t) b)):=fun hr ht ha hb=>Hx (hr.mono (show 300<=600 by omega)) (ht.mono (show 300<=600 by omega)) (by omega) (by omega);have c1:=cm o1.gt o2.gr o1.b o2.a;have c2:=cm o2.gt o1.gr o2.b o1.a;have c3:=cm o1.gr o1.gt o1.a o1.b;have c4:=cm o2.gr o2.gt o2.a o2.b;have c5:=cm o1.gr o2.gr o1.a o2.a;rw[EE.2 h1.lt] at c3;rw[EE.2 h2.lt] at c4;refine⟨c1,c2,c3,c4,c5,?_,Zj (Gc hp) o1 (by omega) (Ci hp.ne).1,Zj (Gc hq) o2 (by omega) (Ci hq.ne).1⟩;by_cases g:BI (L y.t) y.b (L x.r) x.a<=0
 ·rw[decide_eq_true g];exact Aka _ y.r y.t _ _ _ x.r x.t _ _ _ (decide_eq_true g) c1
 ·rw[decide_eq_false g];exact Akb _ y.r y.t _ _ _ x.r x.t _ _ _ _ (decide_eq_false g) c1 c2
theorem Ani{i:Nat}(hi:i<=2000)(a1:¬ BI (L y.t) y.b (L x.r) x.a<0)(a2:¬ BI (L x.t) x.b (L y.r) y.a<0)(hB:Ap NA (bS (S p) (S q) 0 y x i) .norm (bS (S p) (S q) 0 y x i))(hC:Ap Ve (cS (S p) (S q) 0 y x i) .norm (cS (S p) (S q) 0 y x i)) :
  Ap Su (jA (S p) (S q) 0 y x i) .norm (jA (S p) (S q) 0 (JJ (S p) y) (JJ (S q) x) (i+1)):=by
 obtain⟨c1,c2,c3,c4,_,_,c7,c8⟩:=rK hp hq h1 h2 hm o1 o2;have ei:I O ((i:Int)+1)=((i+1:Nat):Int):=by rw[Bg (by omega) (by omega)];omega
 have k:=A0p 0 _ _ _ _ _ _ _ _ _ _ (i:Nat) _ _ (-1) (-1) _ _ _ _ _ _ _ _ _ _ rfl rfl (decide_eq_false a1) (decide_eq_false a2) c1 c2 c3 c4 hB hC c7 c8;rw[ei] at k;exact k
theorem A2y{i:Nat}{z:Int}(a1:¬ BI (L y.t) y.b (L x.r) x.a<0)(a2:¬ BI (L x.t) x.b (L y.r) y.a<0)(h:Ap NA (bS (S p) (S q) 0 y x i) .ret (bS (S p) (S q) z y x i)\/Ap NA (bS (S p) (S q) 0 y x i) .norm (bS (S p) (S q) 0 y x i)/\Ap Ve (cS (S p) (S q) 0 y x i) .ret (cS (S p) (S q) z y x i)) :
  Ap Su (jA (S p) (S q) 0 y x i) .ret (jA (S p) (S q) z y x i):=by
 obtain⟨c1,c2,c3,c4,_⟩:=rK hp hq h1 h2 hm o1 o2;rcases h with h | ⟨hB,hC⟩
 ·exact A6q 0 _ _ _ _ _ _ _ _ _ _ (i:Nat) _ _ _ (-1) (-1) rfl rfl (decide_eq_false a1) (decide_eq_false a2) c1 c2 c3 c4 h
 ·exact A0o 0 _ _ _ _ _ _ _ _ _ _ (i:Nat) _ _ _ (-1) (-1) rfl rfl (decide_eq_false a1) (decide_eq_false a2) c1 c2 c3 c4 hB hC
theorem Aan{i:Nat}(hi:i<8)(a1:¬ BI (L y.t) y.b (L x.r) x.a<0)(a2:¬ BI (L x.t) x.b (L y.r) y.a<0):Ap Su (jA (S p) (S q) 0 y x i) .norm (jA (S p) (S q) 0 (JJ (S p) y) (JJ (S q) x) (i+1)) :=
 Ani hp hq h1 h2 hm o1 o2 (by omega) a1 a2 (A0m _ _ _ _ _ _ _ _ _ _ _ _ (by rw[beq_eq_false_iff_ne];omega)) (A0n _ _ _ _ _ _ _ _ _ _ _ _ (by rw[decide_eq_false_iff_not];omega))
theorem Aao(a1:¬ BI (L y.t) y.b (L x.r) x.a<0)(a2:¬ BI (L x.t) x.b (L y.r) y.a<0) :
  (y.d (B5 (S p) (S q))=1/\0<sd p y (L x.r) x.a/\sd p y (L x.t) x.b<=0->Ap Su (jA (S p) (S q) 0 y x 8) .ret (jA (S p) (S q) 0 y x 8)):=by
 obtain⟨_,hg⟩:=qX hp hq;obtain⟨gk,gl⟩:=WS hp (S q);have wi:=qS (f:=S p) gk (by omega) o1 (by omega) (EE.2 h1.lt);have lf:=(Ci hp.ne).1;have hne:BI (L y.r) y.a (L y.t) y.b ≠ 0:=by rw[EE.2 h1.lt];decide
 have wp:RQ 27 [y.av (S p),A2 x.r (x.a:Nat)] (F O (sd p y (L x.r) x.a)):=VE (Gc hp) o1.gr o1.gt o2.gr (by have:=o1.a;omega) (by have:=o1.b;omega) (by have:=o2.a;omega) lf hne;have wq:RQ 27 [y.av (S p),A2 x.t (x.b:Nat)] (F O (sd p y (L x.t) x.b)):=VE (Gc hp) o1.gr o1.gt o2.gt (by have:=o1.a;omega) (by have:=o1.b;omega) (by have:=o2.b;omega) lf hne;have gf:=TC (q:=S q) hp.ne;have e1:(!decide ((B5 (S p) (S q)).length<2)&&(y.d (B5 (S p) (S q))==1))=decide (y.d (B5 (S p) (S q))=1):=by
  by_cases c:(B5 (S p) (S q)).length<2
  ·have:y.d (B5 (S p) (S q))=0:=by
    have:=gf c y.lo' y.hi';show VD _ y.lo'-VD _ y.hi'=0;omega
   rw[decide_eq_true c,this];rfl
  ·rw[decide_eq_false c];by_cases e:y.d (B5 (S p) (S q))=1
   ·rw[e];rfl
   ·rw[decide_eq_false e,beq_eq_false_iff_ne.2 e];rfl
 rw[e1] at wi;generalize B5 (S p) (S q)=g at *
 intro ⟨b1,b2,b3⟩;rw[decide_eq_true b1] at wi;refine A2y hp hq h1 h2 hm o1 o2 a1 a2 (.inl ?_);rcases hg with hg | hg
 ·exact Akd _ _ _ _ _ _ _ _ _ _ _ 8 _ true _ _ rfl rfl (decide_eq_true b2) (decide_eq_true b3) hg wi wp wq
 ·exact Akc _ _ _ _ _ _ _ _ _ _ _ 8 _ true _ _ rfl rfl (decide_eq_true b2) (decide_eq_true b3) hg wi wp wq
end
theorem A2z{p q:LI}{y x:Iv}(h1:One p y)(h2:One q x){z:Int}(hz:MG p y q x z)(hz0:z=0)(n:Nat):¬ dl (stpN (S p) y n).hi' (stpN (S q) x n).lo'/\¬ dl (stpN (S q) x n).hi' (stpN (S p) y n).lo':=by
 constructor
 ·intro g;have:=hz.unique h1 h2 ((Oy h1 h2 n n).1 (iZ (h1.halves n) g));omega
 ·intro g;have:=hz.unique h1 h2 ((Oy h1 h2 n n).1 (Xx (h2.halves n) g));omega
theorem Anj{j k:Nat}{z w:Nu}(hz:Nok j z)(hw:Nok k w)(hj:j<=4700)(hk:k<=4700)(he:∀ u,Eu z u↔Eu w u):RQ 19 [PY z,PY w] (F O 0):=by
 have hO:MG z.1 z.2 w.1 w.2 0:=Xy.2 he;have no:=A2z hz.one hw.one hO rfl;obtain⟨p,y⟩:=z;obtain⟨q,x⟩:=w;have h1:One p y:=hz.one;have h2:One q x:=hw.one;have w1:W1 j y:=hz.w;have w2:W1 k x:=hw.w;have ep:Enp p:=hz.en;have eq:Enp q:=hw.en;have lt0:∀ {u v:Dy},BI u.1 u.2 v.1 v.2<0->dl u v:=fun h=>H0.1 (Aw h);have nl:∀ i,¬ BI (L (stpN (S p) y i).t) (stpN (S p) y i).b (L (stpN (S q) x i).r) (stpN (S q) x i).a<0:=fun i g=>(no i).1 (lt0 (u:=(stpN (S p) y i).hi') (v:=(stpN (S q) x i).lo') g);have nr:∀ i,¬ BI (L (stpN (S q) x i).t) (stpN (S q) x i).b (L (stpN (S p) y i).r) (stpN (S p) y i).a<0:=fun i g=>(no i).2 (lt0 (u:=(stpN (S q) x i).hi') (v:=(stpN (S p) y i).lo') g);have ok1:=fun i (hi:i<=8)=>JB (p:=S p) (Ry hz.ok hj) i (by omega);have ok2:=fun i (hi:i<=8)=>JB (p:=S q) (Ry hw.ok hk) i (by omega);have hs:=(Oy h1 h2 8 8).2 hO;have hs:∀ m c,sd p (stpN (S p) y 8) m c<=0↔sd q (stpN (S q) x 8) m c<=0:=by
  rcases hs with ⟨e,_⟩ | ⟨e,_⟩ | ⟨_,g⟩
  ·exact absurd e (by decide)
  ·exact absurd e (by decide)
  ·exact g
 have l:=GQ (prog:=DK) (c:=Su) (ex := .ret) (fun i=>jA (S p) (S q) 0 (stpN (S p) y i) (stpN (S q) x i) i) 8 (by nofun)
  (Aao ep eq (h1.halves 8) (h2.halves 8) (by omega) (ok1 8 (by omega)) (ok2 8 (by omega)) (nl 8) (nr 8) (by
   refine⟨?_,?_,(hs _ _).2 (Xw (h2.halves 8))⟩
   ·obtain⟨N,hN⟩:∃ N,N=1921:=⟨_,rfl⟩;have hne:=UI ep eq (h1.halves (8+N)) (h2.halves (8+N)) (w1.stpN (S p) (8+N)) (w2.stpN (S q) (8+N)) (by omega) (by omega) ((D_ _ _).resolve_left (no (8+N)).1) ((D_ _ _).resolve_left (no (8+N)).2);have g1:=A7b ep.ne (MH eq.ne) (h1.halves 8);have g2:=UF (B5 (S p) (S q)) h1 (m:=8) N;obtain⟨a1,_,_⟩:=Ow (stpN (S p) y (8+N)).lo' (stpN (S q) x (8+N)).lo';obtain⟨b1,_,_⟩:=Ox (stpN (S p) y (8+N)).hi' (stpN (S q) x (8+N)).hi';have v1:=Fw (B5 (S p) (S q)) a1;have v2:=Fw (B5 (S p) (S q)) b1;unfold Z4 at hne;have g3:(stpN (S p) y (8+N)).d (B5 (S p) (S q))=VD (B5 (S p) (S q)) (stpN (S p) y (8+N)).lo'-VD (B5 (S p) (S q)) (stpN (S p) y (8+N)).hi':=rfl;omega
   ·have:¬ sd p (stpN (S p) y 8) (L (stpN (S q) x 8).r) (stpN (S q) x 8).a<=0:=fun g=>by
     have g:=(hs _ _).1 g;rw[P6 (Dg _)] at g;omega
    omega)) 0 (AN _) (fun t _ ht=>Aan ep eq (h1.halves t) (h2.halves t) (by omega) (ok1 t (by omega)) (ok2 t (by omega)) ht (nl t) (nr t))
 exact A6r _ y.r y.t _ _ _ x.r x.t _ _ 0 (8:Nat) _ _ _ _ _ _ _ _ _ _ l
section
variable {rs:List Rn} (hg:∀ r∈rs,AU 5 r) (hb:∀ i,((N rs).getD i 0).natAbs<=2^113)
include hg hb
theorem A3a(ll:L3)(N i:Int)(ls:List (List Rn))(M j:Int){d:Nat}(hd:d<=rs.length)(hl:rs.length<=8):Ap (.loop Vg) (P8 false ll N i ls M j rs ((d:Nat)-1:Int) 0) (.exit 4) (P8 false ll N i ls M j rs ((d:Nat)-1:Int) (d:Nat)):=by
 refine CE.up (prog:=DK) (c:=Vg) (ex := .exit 4) (fun k=>P8 false ll N i ls M j rs ((d:Nat)-1:Int) (k:Nat)) d (by nofun) ?_ ?_ 0 (AN _)
 ·intro k hk;have hx:=Bo hg k;have bits:=Tp (neg:=(rs.getD k z0).1) hx.1 (by have:=hx.2;omega);have hv:F3 (L (rs.getD k z0)).natAbs<=114:=by
   have:=hb k;rw[CU] at this;exact A1c this
  have bits:RQ 102 [Az (rs.getD (D (k:Int)) z0)] (F O ((F3 (L (rs.getD k z0)).natAbs:Nat):Int)):=by rw[R];exact bits
  have ek:I O ((k:Int)+1)=((k+1:Nat):Int):=by rw[Bg (by omega) (by omega)];omega
  have kk:=A2b false ll N i ls M j rs ((d:Nat)-1:Int) (k:Nat) _ (by rw[decide_eq_false_iff_not];omega) (by rw[decide_eq_true_eq];omega) (by omega) bits;rw[ek] at kk;exact kk
 ·exact A2c _ _ _ _ _ _ _ _ _ _ (by rw[decide_eq_false_iff_not];omega)
end
theorem Aap{ll:L3}(h:∀ ls∈ll,Few ls)(hn:ll.length<=5):RQ 88 [H ll.length (DB ll)] (B false):=by
 refine A7n ll (ll.length:Int) (by rw[decide_eq_false_iff_not];omega) ?_;refine CE.up (prog:=DK) (c:=XW) (ex := .exit 0) (fun i=>TE false ll (ll.length:Int) (i:Nat)) ll.length (by nofun) ?_ ?_ 0 (AN _)
 ·intro i hi;have hf:=h _ (AM hi);have eg:ll.getD (D (i:Int)) []=ll[i]:=by rw[R,Z,Ad hi];rfl
  have ei:I O ((i:Int)+1)=((i+1:Nat):Int):=by rw[Bg (by omega) (by omega)];omega
  have hfl:=hf.len;have inner:Ap (.loop Vh) (P9 false ll (ll.length:Int) (i:Nat) ll[i] ((ll[i].length:Nat):Int) 0) (.exit 2) (P9 false ll (ll.length:Int) (i:Nat) ll[i] ((ll[i].length:Nat):Int) ((ll[i].length:Nat):Int)):=by
   refine CE.up (prog:=DK) (c:=Vh) (ex := .exit 2) (fun j=>P9 false ll (ll.length:Int) (i:Nat) ll[i] ((ll[i].length:Nat):Int) (j:Nat)) ll[i].length (by nofun) ?_ ?_ 0 (AN _)
   ·intro j hj;have hm:=AM hj;have hgd:=hf.good _ hm;have hdg:=hf.deg _ hm;have ej:ll[i].getD (D (j:Int)) []=ll[i][j]:=by rw[R,Z,Ad hj];rfl
    have ew:I O ((j:Int)+1)=((j+1:Nat):Int):=by rw[Bg (by omega) (by omega)];omega
    have dr:=Q_ (rs:=ll[i][j]) (fun r hr=>(hgd r hr).mono (by decide)) (by omega);have tl:=LK (N ll[i][j]);have tl2:=BA (N ll[i][j]);rw[AW] at tl tl2;rw[<- tl] at dr;have lc:=A3a hgd (hf.co _ hm) ll (ll.length:Int) (i:Nat) ll[i] ((ll[i].length:Nat):Int) (j:Nat) tl2 hdg;have kk:=A2d false ll (ll.length:Int) (i:Nat) ll[i] ((ll[i].length:Nat):Int) (j:Nat) (((Y (N ll[i][j])).length:Nat)-1:Int) _ (by rw[decide_eq_false_iff_not];omega) (by rw[decide_eq_true_eq];omega) (by omega) (by rw[ej];exact dr) (by rw[ej];exact lc);rw[ew] at kk;exact kk
   ·exact A2e _ _ _ _ _ _ _ (by rw[decide_eq_false_iff_not];omega)
  rw[<- eg] at inner;have kk:=A2f false ll (ll.length:Int) (i:Nat) _ (by rw[eg,decide_eq_false_iff_not];omega) (by rw[decide_eq_true_eq];omega) (by omega) inner;rw[ei] at kk;exact kk
 ·exact A2g _ _ _ _ (by rw[decide_eq_false_iff_not];omega)
def GD(z:Nu):Nu:=(z.1,⟨cn (L z.2.r),z.2.a,cn (L z.2.t),z.2.b⟩)
theorem UO(z:Nu)(u:Dy):Eu (GD z) u↔Eu z u:=by
 unfold Eu sd GD;simp only[A6]
theorem A7w{k:Nat}{z:Nu}(h:Nok k z)(hk:k<=5600):Nok k (GD z):=by
 obtain⟨a,b,c,d,e⟩:=h;have g:∀ {n:Int} {m:Nat},n.natAbs<=2^0*2^m->m<=5600->AU 300 (cn n):=fun {n m} hn hm=>B4 (C_ (k:=0+m) (by rw[De];exact hn) (by omega));refine⟨a,⟨?_,?_⟩,⟨?_,?_,?_,?_,c.a,c.b⟩,⟨g d.vr (by have:=d.a;omega),g d.vt (by have:=d.b;omega),d.a,d.b,?_,?_⟩,?_⟩ <;> unfold GD <;> simp only[A6]
 ·exact b.lt
 ·exact b.v
 ·exact c.lt
 ·exact c.w
 ·exact c.lo
 ·exact c.hi
 ·exact d.vr
 ·exact d.vt
 ·unfold sd at e |-;simp only[A6];exact e
theorem Aaq{k:Nat}{z:Nu}(h:Nok k z):RQ 57 [PY z] (PY (GD z)):=by
 have gr:=h.ok.gr;have gt:=h.ok.gt;have lf:=(Ci h.en.ne).1;have k1:=(Sb h.en).1;have l1:=(Sb h.en).2;have htr:=Kf (rs:=(S z.1).map cn) (fun r hr=>(AR k1 r hr).mono (by decide)) (by rw[Q];omega);rw[s,lf] at htr;have c1:=Zh z.2.r (z.2.a:Nat) _ (M4 (neg:=z.2.r.1) gr.1 (by have:=gr.2;omega));have c2:=Zh z.2.t (z.2.b:Nat) _ (M4 (neg:=z.2.t.1) gt.1 (by have:=gt.2;omega));exact Acl ((S z.1).map cn) z.2.r z.2.t (z.2.a:Nat) (z.2.b:Nat) _ _ _ _ _ (EN htr) c1 c2
theorem Aar:RQ 57 [Sm] Sm:=by
 have gr:AU 300 (cn 0):=(UN 0).gr;have htr:=Kf (rs:=([0,1]:LI).map cn) (fun r hr=>(AR Ade.1 r hr).mono (by decide)) (by decide);rw[s,show Y [0,1]=[0,1] by decide] at htr;have c1:=Zh (cn 0) 0 _ (M4 (neg:=(cn 0).1) gr.1 (by have:=gr.2;omega));rw[show rv (cn 0).1 (cn 0).2=0 from A6 0] at c1;exact Acl (([0,1]:LI).map cn) (cn 0) (cn 0) 0 0 _ _ _ _ _ (EN htr) c1 c1
theorem rL{k:Nat}{z:Nu}(h:Nok k z):RQ 20 [PY z] (PY z):=by
 have k:=Zm (O0 h.en) (UJ h.en) z.2.r z.2.t (z.2.a:Nat) (z.2.b:Nat);rw[s,Pu h.en.ne] at k;exact k
section
variable (hz:RQ 81 [A2 z0 0] Sm) {ll:L3} (h:∀ ls∈ll,Few ls) (hn:ll.length<=5)
include hz h hn
theorem ZC :
  ((∃ ls∈ll,Ib (Ca ls))/\RQ 38 [H ll.length (DB ll)] (Ar [Sm,B true,F O 0])) \/
  ((∀ ls∈ll,¬ Ib (Ca ls))/\(∀ ls∈ll,∀ C,¬ RootS (Ca ls) C)/\RQ 38 [H ll.length (DB ll)] (Ar [nuN,B false,F O 0])) \/
  ((∀ ls∈ll,¬ Ib (Ca ls))/\∃ k z,k<=4600/\Nok k z/\(∃ ls∈ll,RootS (Ca ls) (Eu z))/\(∀ ls∈ll,∀ C,RootS (Ca ls) C->∀ u,C u->Eu z u)/\RQ 38 [H ll.length (DB ll)] (Ar [PY z,B true,F O 0])):=by
 have lg:=Aap h hn;rcases Aam hz h hn with ⟨a,b⟩ | ⟨a,b,c⟩ | ⟨a,k,z,hk,o,b,c,d⟩
 ·exact .inl ⟨a,eJ ll _ _ _ _ _ _ _ _ _ _ true rfl lg b Aar⟩
 ·exact .inr (.inl ⟨a,b,Amg ll _ _ _ _ _ false rfl lg c⟩)
 ·refine .inr (.inr ⟨a,k,GD z,hk,A7w o (by omega),?_,fun ls hls C hC u hu=>(UO z u).2 (c ls hls C hC u hu),eJ ll _ _ _ _ _ _ _ _ _ _ true rfl lg d (Aaq o)⟩);obtain⟨ls,hls,r⟩:=b;refine⟨ls,hls,r.nev,r.nw,?_,fun C' hC' u hu=>(UO z u).2 (r.least C' hC' u hu)⟩;obtain⟨⟨p,hp,y,hy,hlt,e⟩,⟨t,t1,t2,t3⟩⟩:=r.beg;exact⟨⟨p,hp,y,hy,hlt,fun u=>(UO z u).trans (e u)⟩,⟨t,(UO z t).2 t1,t2,fun p hp=>⟨fun u hu=>(t3 p hp).1 u ((UO z u).1 hu),(t3 p hp).2⟩⟩⟩
end
end
end Go.Proofs.YtajompaehjkgkaaGreat
