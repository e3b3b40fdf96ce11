/- Texts of the proof of EntryWithin: part 12 of 13. -/
import Derived.SizedLaws
import Derived.Test.YtajompaehjkgkaaGreatEwn11
namespace Go.Ai
open Go.RowKit Go.WideShapes Go.ChangeShapes
open Go.Addr renaming add->AHr
open Go.DataW renaming trod->IA,weights->ABo,weightsAll->Wy,weightsEach->Aln
open Go.Value renaming okWide->Axz
open Go.World renaming cells?->AGb
open List renaming drop_drop->Mx,drop_zero->DA,getElem_append_left->TF,getElem_append_right->SJ,getElem_range->AJp,length_append->B0,length_map->Ac,length_range->CF,mapM_cons->OP,map_cons->CW,mem_append->BD,mem_cons->BW,mem_map->DI,mem_range->Hf,take_of_length_le->Dt
open Nat renaming eq_zero_or_pos->Gk,le_refl->A2,le_trans->B6,mul_le_mul_right->Bf,not_lt_zero->Pk,succ_mul->Om
inductive SH where
 | int (k:IntKind)
 | bool
 | str
 | sl (b:Nat) (ks:List SH)
def Ub(n:Nat)(ks:List SH):List SH:=match n with
 | 0=>[]
 | n+1=>Ub n ks++ks
theorem rA(n:Nat)(ks:List SH):(Ub n ks).length=n*ks.length:=by
 induction n with
 | zero=>simp[Ub]
 | succ n a=>simp[Ub,a,Om]
mutual
inductive AIs:SH->AV->Prop where
 | int {k:IntKind} {n:Int} (h:(Lit.int k n).wf=true):AIs (.int k) (.int k n)
 | bool {b:Bool}:AIs .bool (.bool b)
 | str {s:ByteArray}:AIs .str (.str s)
 | sl {b:Nat} {ks:List SH} {n:Nat} {az:AK} (h:AsAre (Ub n ks) az) (hb:n*b<=reachBytes):AIs (.sl b ks) (.sl n az)
inductive AsAre:List SH->AK->Prop where
 | nil:AsAre [] []
 | cons {k:SH} {a:AV} {ks:List SH} {az:AK} (h:AIs k a) (hs:AsAre ks az):AsAre (k::ks) (a::az)
end
theorem AIs.data{k:SH}{a:AV}(h:AIs k a):Oo a=true:=by cases h <;> rfl
theorem AsAre.dat:∀ {ks:List SH} {az:AK},AsAre ks az->Rw az
 | _,_,.nil=>fun x hx=>by cases hx
 | _,_,.cons h hs=>fun x hx=>by
  cases hx with
  | head=>exact h.data
  | tail _ hx=>exact hs.dat x hx
theorem AsAre.append:∀ {ks ls:List SH} {a b:AK},AsAre ks a->AsAre ls b->AsAre (ks++ls) (a++b)
 | _,_,_,_,.nil,h=>h
 | _,_,_,_,.cons h hs,c => .cons h (hs.append c)
theorem AsAre.length:∀ {ks:List SH} {a:AK},AsAre ks a->a.length=ks.length
 | _,_,.nil=>rfl
 | _,_,.cons _ hs=>by simp[hs.length]
mutual
def X4(P:Program):Nat->TypeId->Option (List SH)
 | 0,_=>none
 | n+1,t=>match P.underlying t with
  | some .bool=>some [.bool]
  | some (.int k)=>some [.int k]
  | some .string=>some [.str]
  | some (.slice e)=>match X4 P n e with
   | some ks=>if ks.length=P.cellsOf e/\0<ks.length then some [.sl (P.bytesOf e) ks] else none
   | none=>none
  | some (.struct fs)=>match QS P n fs.toList 0 with
   | some ks=>if ks.length=P.cellsOf t then some ks else none
   | none=>none
  | _=>none
def QS(P:Program):Nat->List Field->Nat->Option (List SH)
 | _,[],_=>some []
 | 0,_::_,_=>none
 | n+1,f::fs,off=>match X4 P n f.type with
  | some ks=>if f.offset=off/\ks.length=P.cellsOf f.type then
    match QS P n fs (off+ks.length) with
    | some ls=>some (ks++ls)
    | none=>none
   else none
  | none=>none
end
theorem YG.append{Y e:Nat->Prop}{w:World}:∀ {a c:List Value} {b d:AK},YG Y e w a b->YG Y e w c d->YG Y e w (a++c) (b++d)
 | [],_,[],_,_,h=>h
 | _::_,_,_::_,_,h,f=>⟨h.1,YG.append h.2 f⟩
 | [],_,_::_,_,h,_=>h.elim
 | _::_,_,[],_,h,_=>h.elim
theorem Rh{H:Type}{P:Program}{e:TypeId}:∀ {a:List (DataW H)} {d:DataW H},d∈a->∀ n∈d.weights P e,n∈Wy P e a
 | _::_,_,.head _,n,hn=>by simp only[Wy,BD];exact .inl hn
 | _::_,_,.tail _ h,n,hn=>by simp only[Wy,BD];exact .inr (Rh h n hn)
section
variable {H:Type} {enc:TypeId × Value->H} {P:Program} {w:World} {base:Nat} {spare:Nat->Bool} {held:Bool}
abbrev F0:Nat->Prop:=fun _=>False
theorem yM(n:Nat) :
  (∀ t ks,X4 P n t=some ks->∀ d cs x,IA enc P w base spare held d t cs=some x->(∀ n∈x.1.weights P t,n<=reachBytes)->∃ az,YG F0 F0 w cs az/\AsAre ks az) /\
  (∀ fs off ks,QS P n fs off=some ks->∀ d (cs:List Value) xs,off+ks.length<=cs.length ->
   fs.mapM (fun f=>IA enc P w base spare held d f.type ((cs.drop f.offset).take (P.cellsOf f.type)))=some xs->(∀ n∈Aln P (fs.map (·.type)) (xs.map (·.1)),n<=reachBytes)->∃ az,YG F0 F0 w ((cs.drop off).take ks.length) az/\AsAre ks az):=by
 induction n with
 | zero =>
  refine⟨fun t ks h=>by simp[X4] at h,fun fs off ks h d cs xs p g _ => ?_⟩;cases fs with
  | nil=>simp[QS] at h;subst h;exact⟨[],by simp[YG],.nil⟩
  | cons f fs=>simp[QS] at h
 | succ n r =>
  constructor
  ·intro t ks h d cs x hx j;cases d with
   | zero=>simp[IA] at hx
   | succ d =>
    unfold X4 at h;split at h
    next l=>cases h;unfold IA at hx;rw[l] at hx;split at hx <;> simp_all;exact⟨[.bool _],⟨.bool _,trivial⟩,.cons .bool .nil⟩
    next k l=>cases h;obtain⟨m,e,_,H⟩:=DataW.trod_int l hx;subst e;exact⟨[.int k m],⟨.int k m,trivial⟩,.cons (.int H) .nil⟩
    next l=>cases h;obtain⟨s,e,_,_⟩:=DataW.trod_string l hx;subst e;exact⟨[.str s],⟨.str s,trivial⟩,.cons .str .nil⟩
    ·rename_i e l;split at h
     ·rename_i ls q;split at h
      ·rename_i C;cases h;rcases Go.Deep.open_slice l hx with ⟨z,_⟩ | ⟨a,len,cap,m,I,c,Pl,h1,hb,p,g,J,K,D⟩
       ·subst z;exact⟨[.sl 0 []],⟨.nil0,trivial⟩,.cons (.sl .nil (by simp)) .nil⟩
       ·subst h1;rcases Gk len with z | a9
        ·subst z;exact⟨[.sl 0 []],⟨.e0 _ _,trivial⟩,.cons (.sl .nil (by simp)) .nil⟩
        ·have b0:len<=m:=by rw[J];split <;> omega
         rw[K] at j;simp only[ABo,l,BW,BD,Ac,CF] at j;have L:len*P.bytesOf e<=reachBytes:=B6 (Bf _ (by omega)) (j _ (.inl rfl));have M:∀ k,k<len->∀ n∈(c k).weights P e,n<=reachBytes:=fun k N n hn=>j n (.inr (.inl (Rh (DI.2 ⟨k,Hf.2 N,rfl⟩) n hn)));have E:a.spot=none:=by
          obtain⟨u,o,_⟩:=D 0 (by omega);unfold AGb at o;split at o
          ·obtain⟨A,B⟩:=UU o;rw[CF] at A;have:=B 0 (by rw[CF];omega) (by omega);have:=World.cell?_spot this;simpa [AHr] using this
          ·cases o
         obtain⟨b,off,sp⟩:=a;simp only at E;subst E;have O:∀ k,k<=len->∃ (cs:List Value) (az:AK),YG F0 F0 w cs az/\AsAre (Ub k ls) az/\∀ (i:Nat) (h:i<cs.length),w.cell? ⟨b,off+i,none⟩=some cs[i]:=by
          intro k;induction k with
          | zero=>intro _;exact⟨[],[],trivial,.nil,fun i h=>absurd h (Pk i)⟩
          | succ k Q =>
           intro b1;obtain⟨cs,az,h1,h2,R⟩:=Q (by omega);obtain⟨u,o,S⟩:=D k (by omega);obtain⟨T,U,V⟩:=r.1 e ls q I u _ S (M k (by omega));refine⟨cs++u,az++T,h1.append U,h2.append V,fun i hi => ?_⟩;have W:cs.length=k*ls.length:=by rw[(h1.at).1,h2.length,rA]
           by_cases F:i<cs.length
           ·rw[TF F];exact R i F
           ·rw[SJ (by omega)];have hi':i-cs.length<u.length:=by rw[B0] at hi;omega
            unfold AGb at o;split at o
            ·obtain⟨A,B⟩:=UU o;have:=B (i-cs.length) (by rw[<- A];exact hi') hi';rw[<- this,AJp];congr 1;have X:k*P.cellsOf e=cs.length:=by rw[W,C.1]
             rw[X];have v:off+i=off+cs.length+(i-cs.length):=by omega
             rw[v];unfold AHr;by_cases Y:cs.length=0 <;> by_cases Z:i-cs.length=0 <;> simp[Y,Z] <;> omega
            ·cases o
         obtain⟨cs,az,h1,h2,o⟩:=O len (A2 _);exact⟨[.sl len az],⟨Axn (fun h=>h) (fun h=>h) p h2.dat h1 o,trivial⟩,.cons (.sl h2 L) .nil⟩
      ·cases h
     ·cases h
    ·rename_i fs l;split at h
     ·rename_i ls q;split at h
      ·rename_i C;cases h;obtain⟨p,xs,g,a3⟩:cs.length=P.cellsOf t/\∃ xs,fs.toList.mapM (fun f=>IA enc P w base spare held d f.type ((cs.drop f.offset).take (P.cellsOf f.type)))=some xs/\x.1 = .agg (xs.map (·.1)):=by
        unfold IA at hx;rw[l] at hx;simp only at hx;split at hx
        ·rename_i p;refine⟨p,?_⟩;cases g:fs.toList.mapM (fun f=>IA enc P w base spare held d f.type ((cs.drop f.offset).take (P.cellsOf f.type))) with
         | none=>rw[g] at hx;cases hx
         | some xs=>rw[g] at hx;cases hx;exact⟨xs,rfl,rfl⟩
        ·cases hx
       rw[a3] at j;simp only[ABo,l] at j;have:=(r.2 fs.toList 0 ks q d cs xs (by omega) g j);rw[DA,Dt (by omega)] at this;exact this
      ·cases h
     ·cases h
    ·cases h
  ·intro fs off ks h d cs xs p g j;cases fs with
   | nil=>simp[QS] at h;subst h;exact⟨[],by simp[YG],.nil⟩
   | cons f fs =>
    unfold QS at h;split at h
    ·rename_i ls q;split at h
     ·rename_i v;split at h
      ·rename_i ms a4;cases h;rw[OP] at g;cases h1:IA enc P w base spare held d f.type ((cs.drop f.offset).take (P.cellsOf f.type)) with
       | none=>rw[h1] at g;cases g
       | some y =>
        rw[h1] at g;cases h2:fs.mapM (fun f=>IA enc P w base spare held d f.type ((cs.drop f.offset).take (P.cellsOf f.type))) with
        | none=>simp[h2] at g
        | some ys =>
         rw[h2] at g;cases g;simp only[CW,Aln,BD] at j;rw[B0] at p |-;obtain⟨a5,G,a6⟩:=r.1 f.type ls q d _ y h1 (fun n hn=>j n (.inl hn));obtain⟨a7,a2,a8⟩:=r.2 fs (off+ls.length) ms a4 d cs ys (by omega) h2 (fun n hn=>j n (.inr hn));rw[v.1,<- v.2] at G;rw[List.take_add,Mx];exact⟨a5++a7,G.append a2,a6.append a8⟩
      ·cases h
     ·cases h
    ·cases h
theorem Aik{r:Reach}{a:Nat}{t e:TypeId}{v:Value}{d:DataW H}{ps:List MemPlace}{ks:List SH}(n:Nat)(c:P.underlying t=some (.slice e)){b:Nat}(f:X4 P n t=some [.sl b ks])
  (g:Axz P w r a t v) (hd:DataW.Trod enc P w base spare held t v d ps) (i:∀ n∈d.weights P t,n<=reachBytes):∃ x,Rd (fun _=>False) (fun _=>False) w v x/\AIs (.sl b ks) x:=by
 obtain⟨j,k⟩:=hd;obtain⟨a0,l,c0,hv⟩:=okWide_slice c g;subst hv;obtain⟨az,h1,h2⟩:=(yM n).1 t _ f j _ _ k i;cases h2 with
 | cons h hs =>
  cases hs;exact⟨_,h1.1,h⟩
end
end Go.Ai
namespace Go.Ai
open Go.RowKit
open Go.IntKind renaming bits->A5
open List renaming mem_append->BD,mem_singleton->Dh
theorem La:∀ {ks ls:List SH} {az:AK},AsAre (ks++ls) az->∃ a b,az=a++b/\AsAre ks a/\AsAre ls b
 | [],_,az,h=>⟨[],az,rfl,.nil,h⟩
 | _::_,_,_,.cons h hs=>by
  obtain⟨a,b,rfl,h1,h2⟩:=La hs;exact⟨_::a,b,rfl,.cons h h1,h2⟩
theorem AGc{n:Int}(h:(Lit.int .u32 n).wf=true):0<=n/\n<4294967296:=by
 simp only[Lit.wf,IntKind.min,IntKind.max,IntKind.signed,A5] at h;simp at h;omega
theorem lH:∀ {n:Nat} {az:AK},AsAre (Ub n [.int .u32]) az->∃ xs:G,xs.length=n/\B9 xs/\az=A xs
 | 0,_,.nil=>⟨[],rfl,(fun x hx=>nomatch hx),rfl⟩
 | n+1,az,h=>by
  obtain⟨a,b,rfl,h1,h2⟩:=La h;obtain⟨xs,c,d,rfl⟩:=lH h1;cases h2 with
  | cons e f =>
   cases f;cases e with
   | int i =>
    rename_i m;refine⟨xs++[m],by simp[c],fun x hx => ?_,by simp[A]⟩;rcases BD.1 hx with g | g
    ·exact d x g
    ·rw[Dh.1 g];exact AGc i
def Big(r:Rn):Prop:=BC 35184372088832 r
theorem AGd{az:AK}(h:AsAre [.bool,.sl 4 [.int .u32]] az):∃ r:Rn,Big r/\az=[.bool r.1,.sl r.2.length (A r.2)]:=by
 cases h with
 | cons h1 h2 =>
  cases h1;cases h2 with
  | cons a b =>
   cases b;cases a with
   | sl c hb =>
    obtain⟨xs,rfl,d,rfl⟩:=lH c;exact⟨(_,xs),⟨d,by show xs.length<=_;unfold reachBytes at hb;omega⟩,rfl⟩
theorem yN:∀ {n:Nat} {az:AK},AsAre (Ub n [.bool,.sl 4 [.int .u32]]) az->∃ rs:D,rs.length=n/\(∀ r∈rs,Big r)/\az=S rs
 | 0,_,.nil=>⟨[],rfl,(fun x hx=>nomatch hx),rfl⟩
 | n+1,az,h=>by
  obtain⟨a,b,rfl,h1,h2⟩:=La h;obtain⟨rs,c,d,rfl⟩:=yN h1;obtain⟨r,hr,rfl⟩:=AGd h2;refine⟨rs++[r],by simp[c],fun x hx => ?_,by rw[Qf];rfl⟩;rcases BD.1 hx with g | g
  ·exact d x g
  ·rw[Dh.1 g];exact hr
abbrev Ail:SH := .sl 32 [.bool,.sl 4 [.int .u32]]
theorem ABb{x:AV}(h:AIs Ail x):∃ rs:D,(∀ r∈rs,Big r)/\x = sL S rs:=by
 cases h with
 | sl h1 =>
  obtain⟨rs,rfl,h2,rfl⟩:=yN h1;exact⟨rs,h2,rfl⟩
theorem lI:∀ {n:Nat} {az:AK},AsAre (Ub n [Ail]) az->∃ ls:List D,ls.length=n/\(∀ rs∈ls,∀ r∈rs,Big r)/\az=pp ls
 | 0,_,.nil=>⟨[],rfl,(fun x hx=>nomatch hx),rfl⟩
 | n+1,az,h=>by
  obtain⟨a,b,rfl,h1,h2⟩:=La h;obtain⟨ls,c,d,rfl⟩:=lI h1;cases h2 with
  | cons e f =>
   cases f;obtain⟨rs,hr,rfl⟩:=ABb e;refine⟨ls++[rs],by simp[c],fun x hx => ?_,by simp[pp]⟩;rcases BD.1 hx with g | g
   ·exact d x g
   ·rw[Dh.1 g];exact hr
abbrev rB:SH := .sl 24 [Ail]
theorem ABc{x:AV}(h:AIs rB x):∃ ls:List D,(∀ rs∈ls,∀ r∈rs,Big r)/\x = sL pp ls:=by
 cases h with
 | sl a hb =>
  obtain⟨ls,b,c,rfl⟩:=lI a;exact⟨ls,c,by unfold sL;rw[b]⟩
theorem dY:∀ {n:Nat} {az:AK},AsAre (Ub n [rB]) az->∃ ll:List (List D),ll.length=n/\(∀ ls∈ll,∀ rs∈ls,∀ r∈rs,Big r)/\az=ER ll
 | 0,_,.nil=>⟨[],rfl,(fun x hx=>nomatch hx),rfl⟩
 | n+1,az,h=>by
  obtain⟨a,b,rfl,h1,h2⟩:=La h;obtain⟨ll,c,d,rfl⟩:=dY h1;cases h2 with
  | cons e f =>
   cases f;obtain⟨ls,hr,rfl⟩:=ABc e;refine⟨ll++[ls],by simp[c],fun x hx => ?_,by simp[ER]⟩;rcases BD.1 hx with g | g
   ·exact d x g
   ·rw[Dh.1 g];exact hr
theorem Axo{x:AV}(h:AIs (.sl 24 [rB]) x):∃ ll:List (List D),(∀ ls∈ll,∀ rs∈ls,∀ r∈rs,Big r)/\x = .sl ll.length (ER ll):=by
 cases h with
 | sl a hb =>
  obtain⟨ll,b,c,rfl⟩:=dY a;exact⟨ll,c,by rw[b]⟩
end Go.Ai
