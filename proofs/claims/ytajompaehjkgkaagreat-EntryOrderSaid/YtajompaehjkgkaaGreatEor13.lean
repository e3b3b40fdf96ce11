/- Texts of the proof of EntryOrder: part 13 of 14. -/
import Derived.SizedLaws
import Derived.Test.YtajompaehjkgkaaGreatEor12
namespace Go.Ai
open Go.RowKit Go.WideShapes Go.ChangeShapes
open Go.Addr renaming add->ACm
open Go.DataW renaming trod->H5,weights->A3v,weightsAll->UU,weightsEach->Adh
open Go.Value renaming okWide->Anz
open Go.World renaming cells?->A7z
open List renaming drop_drop->Lg,drop_zero->Da,getElem_append_left->So,getElem_append_right->R2,length_append->AY,length_map->Q,length_range->BE,mapM_cons->N5,map_cons->Cx,mem_append->Bn,mem_cons->BD,mem_map->Cn,mem_range->JK,take_of_length_le->CS
open Nat renaming eq_zero_or_pos->Fo,le_refl->Ao,le_trans->Bm,mul_le_mul_right->AJ,not_lt_zero->NR,succ_mul->MO
inductive SH where
 | int (k:IntKind)
 | bool
 | str
 | sl (b:Nat) (ks:List SH)
def SJ(n:Nat)(ks:List SH):List SH:=match n with
 | 0=>[]
 | n+1=>SJ n ks++ks
theorem jK(n:Nat)(ks:List SH):(SJ n ks).length=n*ks.length:=by
 induction n with
 | zero=>simp[SJ]
 | succ n ih=>simp[SJ,ih,MO]
mutual
inductive AIs:SH->AV->Prop where
 | int {k:IntKind} {n:Int} (h:(Lit.int k n).wf=true):AIs (.int k) (.int k n)
 | bool {b:Bool}:AIs .bool (.bool b)
 | str {s:ByteArray}:AIs .str (.str s)
 | sl {b:Nat} {ks:List SH} {n:Nat} {az:List AV} (h:AsAre (SJ n ks) az) (hb:n*b<=reachBytes):AIs (.sl b ks) (.sl n az)
inductive AsAre:List SH->List AV->Prop where
 | nil:AsAre [] []
 | cons {k:SH} {a:AV} {ks:List SH} {az:List AV} (h:AIs k a) (hs:AsAre ks az):AsAre (k::ks) (a::az)
end
theorem AIs.data{k:SH}{a:AV}(h:AIs k a):MP a=true:=by cases h <;> rfl
theorem AsAre.dat:∀ {ks:List SH} {az:List AV},AsAre ks az->Qg az
 | _,_,.nil=>fun x hx=>by cases hx
 | _,_,.cons h hs=>fun x hx=>by
  cases hx with
  | head=>exact h.data
  | tail _ hx=>exact hs.dat x hx
theorem AsAre.append:∀ {ks ls:List SH} {a b:List AV},AsAre ks a->AsAre ls b->AsAre (ks++ls) (a++b)
 | _,_,_,_,.nil,h=>h
 | _,_,_,_,.cons h hs,h' => .cons h (hs.append h')
theorem AsAre.length:∀ {ks:List SH} {a:List AV},AsAre ks a->a.length=ks.length
 | _,_,.nil=>rfl
 | _,_,.cons _ hs=>by simp[hs.length]
mutual
def VX(P:Program):Nat->TypeId->Option (List SH)
 | 0,_=>none
 | n+1,t=>match P.underlying t with
  | some .bool=>some [.bool]
  | some (.int k)=>some [.int k]
  | some .string=>some [.str]
  | some (.slice e)=>match VX P n e with
   | some ks=>if ks.length=P.cellsOf e/\0<ks.length then some [.sl (P.bytesOf e) ks] else none
   | none=>none
  | some (.struct fs)=>match PF P n fs.toList 0 with
   | some ks=>if ks.length=P.cellsOf t then some ks else none
   | none=>none
  | _=>none
def PF(P:Program):Nat->List Field->Nat->Option (List SH)
 | _,[],_=>some []
 | 0,_::_,_=>none
 | n+1,f::fs,off=>match VX P n f.type with
  | some ks=>if f.offset=off/\ks.length=P.cellsOf f.type then
    match PF P n fs (off+ks.length) with
    | some ls=>some (ks++ls)
    | none=>none
   else none
  | none=>none
end
theorem Xj.append{Y X:Nat->Prop}{w:World}:∀ {a c:List Value} {b d:List AV},Xj Y X w a b->Xj Y X w c d->Xj Y X w (a++c) (b++d)
 | [],_,[],_,_,h=>h
 | _::_,_,_::_,_,h,h'=>⟨h.1,Xj.append h.2 h'⟩
 | [],_,_::_,_,h,_=>h.elim
 | _::_,_,[],_,h,_=>h.elim
theorem PU{H:Type}{P:Program}{e:TypeId}:∀ {ds:List (DataW H)} {d:DataW H},d∈ds->∀ n∈d.weights P e,n∈UU P e ds
 | _::_,_,.head _,n,hn=>by simp only[UU,Bn];exact .inl hn
 | _::_,_,.tail _ h,n,hn=>by simp only[UU,Bn];exact .inr (PU h n hn)
section
variable {H:Type} {enc:TypeId × Value->H} {P:Program} {w:World} {base:Nat} {spare:Nat->Bool} {held:Bool}
abbrev F0:Nat->Prop:=fun _=>False
theorem rR(n:Nat) :
  (∀ t ks,VX P n t=some ks->∀ fuel cs x,H5 enc P w base spare held fuel t cs=some x->(∀ n∈x.1.weights P t,n<=reachBytes)->∃ az,Xj F0 F0 w cs az/\AsAre ks az) /\
  (∀ fs off ks,PF P n fs off=some ks->∀ fuel (cs:List Value) xs,off+ks.length<=cs.length ->
   fs.mapM (fun f=>H5 enc P w base spare held fuel f.type ((cs.drop f.offset).take (P.cellsOf f.type)))=some xs->(∀ n∈Adh P (fs.map (·.type)) (xs.map (·.1)),n<=reachBytes)->∃ az,Xj F0 F0 w ((cs.drop off).take ks.length) az/\AsAre ks az):=by
 induction n with
 | zero =>
  refine⟨fun t ks h=>by simp[VX] at h,fun fs off ks h fuel cs xs hl hm _ => ?_⟩;cases fs with
  | nil=>simp[PF] at h;subst h;exact⟨[],by simp[Xj],.nil⟩
  | cons f fs=>simp[PF] at h
 | succ n ih =>
  constructor
  ·intro t ks h fuel cs x hx hw;cases fuel with
   | zero=>simp[H5] at hx
   | succ fuel =>
    unfold VX at h;split at h
    ·rename_i hu;cases h;unfold H5 at hx;rw[hu] at hx;split at hx <;> simp_all;exact⟨[.bool _],⟨.bool _,trivial⟩,.cons .bool .nil⟩
    ·rename_i k hu;cases h;obtain⟨m,e,_,hwf⟩:=DataW.trod_int hu hx;subst e;exact⟨[.int k m],⟨.int k m,trivial⟩,.cons (.int hwf) .nil⟩
    ·rename_i hu;cases h;obtain⟨s,e,_,_⟩:=DataW.trod_string hu hx;subst e;exact⟨[.str s],⟨.str s,trivial⟩,.cons .str .nil⟩
    ·rename_i e hu;split at h
     ·rename_i ls hls;split at h
      ·rename_i hlen;cases h;rcases Go.Deep.open_slice hu hx with ⟨h0,_⟩ | ⟨a,len,cap,m,nn,D,Pl,h1,hb,hl,hm,hmm,hxe,hx'⟩
       ·subst h0;exact⟨[.sl 0 []],⟨.nil0,trivial⟩,.cons (.sl .nil (by simp)) .nil⟩
       ·subst h1;rcases Fo len with h0 | hpos
        ·subst h0;exact⟨[.sl 0 []],⟨.e0 _ _,trivial⟩,.cons (.sl .nil (by simp)) .nil⟩
        ·have hlm:len<=m:=by rw[hmm];split <;> omega
         rw[hxe] at hw;simp only[A3v,hu,BD,Bn,Q,BE] at hw;have hsz:len*P.bytesOf e<=reachBytes:=Bm (AJ _ (by omega)) (hw _ (.inl rfl));have hel:∀ k,k<len->∀ n∈(D k).weights P e,n<=reachBytes:=fun k hk n hn=>hw n (.inr (.inl (PU (Cn.2 ⟨k,JK.2 hk,rfl⟩) n hn)));have hspot:a.spot=none:=by
          obtain⟨cs',h3,_⟩:=hx' 0 (by omega);unfold A7z at h3;split at h3
          ·obtain⟨l1,l2⟩:=TJ h3;rw[BE] at l1;have:=l2 0 (by rw[BE];omega) (by omega);have:=World.cell?_spot this;simpa [ACm] using this
          ·cases h3
         obtain⟨b,off,sp⟩:=a;simp only at hspot;subst hspot;have key:∀ k,k<=len->∃ (cs:List Value) (az:List AV),Xj F0 F0 w cs az/\AsAre (SJ k ls) az/\∀ (i:Nat) (h:i<cs.length),w.cell? ⟨b,off+i,none⟩=some cs[i]:=by
          intro k;induction k with
          | zero=>intro _;exact⟨[],[],trivial,.nil,fun i h=>absurd h (NR i)⟩
          | succ k ihk =>
           intro hkl;obtain⟨cs,az,h1,h2,h2'⟩:=ihk (by omega);obtain⟨cs',h3,h4⟩:=hx' k (by omega);obtain⟨az',h5,h6⟩:=ih.1 e ls hls nn cs' _ h4 (hel k (by omega));refine⟨cs++cs',az++az',h1.append h5,h2.append h6,fun i hi => ?_⟩;have hlen2:cs.length=k*ls.length:=by rw[(h1.at).1,h2.length,jK]
           by_cases hik:i<cs.length
           ·rw[So hik];exact h2' i hik
           ·rw[R2 (by omega)];have hi':i-cs.length<cs'.length:=by rw[AY] at hi;omega
            unfold A7z at h3;split at h3
            ·obtain⟨l1,l2⟩:=TJ h3;have:=l2 (i-cs.length) (by rw[<- l1];exact hi') hi';rw[<- this,List.getElem_range];congr 1;have hq:k*P.cellsOf e=cs.length:=by rw[hlen2,hlen.1]
             rw[hq];have ho:off+i=off+cs.length+(i-cs.length):=by omega
             rw[ho];unfold ACm;by_cases z1:cs.length=0 <;> by_cases z2:i-cs.length=0 <;> simp[z1,z2] <;> omega
            ·cases h3
         obtain⟨cs,az,h1,h2,h3⟩:=key len (Ao _);exact⟨[.sl len az],⟨Ano (fun h=>h) (fun h=>h) hl h2.dat h1 h3,trivial⟩,.cons (.sl h2 hsz) .nil⟩
      ·cases h
     ·cases h
    ·rename_i fs hu;split at h
     ·rename_i ls hls;split at h
      ·rename_i hlen;cases h;obtain⟨hl,xs,hm,hxa⟩:cs.length=P.cellsOf t/\∃ xs,fs.toList.mapM (fun f=>H5 enc P w base spare held fuel f.type ((cs.drop f.offset).take (P.cellsOf f.type)))=some xs/\x.1 = .agg (xs.map (·.1)):=by
        unfold H5 at hx;rw[hu] at hx;simp only at hx;split at hx
        ·rename_i hl;refine⟨hl,?_⟩;cases hm:fs.toList.mapM (fun f=>H5 enc P w base spare held fuel f.type ((cs.drop f.offset).take (P.cellsOf f.type))) with
         | none=>rw[hm] at hx;cases hx
         | some xs=>rw[hm] at hx;cases hx;exact⟨xs,rfl,rfl⟩
        ·cases hx
       rw[hxa] at hw;simp only[A3v,hu] at hw;have:=(ih.2 fs.toList 0 ks hls fuel cs xs (by omega) hm hw);rw[Da,CS (by omega)] at this;exact this
      ·cases h
     ·cases h
    ·cases h
  ·intro fs off ks h fuel cs xs hl hm hw;cases fs with
   | nil=>simp[PF] at h;subst h;exact⟨[],by simp[Xj],.nil⟩
   | cons f fs =>
    unfold PF at h;split at h
    ·rename_i ls hls;split at h
     ·rename_i ho;split at h
      ·rename_i ms hms;cases h;rw[N5] at hm;cases h1:H5 enc P w base spare held fuel f.type ((cs.drop f.offset).take (P.cellsOf f.type)) with
       | none=>rw[h1] at hm;cases hm
       | some y =>
        rw[h1] at hm;cases h2:fs.mapM (fun f=>H5 enc P w base spare held fuel f.type ((cs.drop f.offset).take (P.cellsOf f.type))) with
        | none=>simp[h2] at hm
        | some ys =>
         rw[h2] at hm;cases hm;simp only[Cx,Adh,Bn] at hw;rw[AY] at hl |-;obtain⟨as1,a1,a1'⟩:=ih.1 f.type ls hls fuel _ y h1 (fun n hn=>hw n (.inl hn));obtain⟨as2,a2,a2'⟩:=ih.2 fs (off+ls.length) ms hms fuel cs ys (by omega) h2 (fun n hn=>hw n (.inr hn));rw[ho.1,<- ho.2] at a1;rw[List.take_add,Lg];exact⟨as1++as2,a1.append a2,a1'.append a2'⟩
      ·cases h
     ·cases h
    ·cases h
theorem Aau{r:Reach}{b0:Nat}{t e:TypeId}{v:Value}{d:DataW H}{ps:List MemPlace}{ks:List SH}(n:Nat)(hu:P.underlying t=some (.slice e)){b:Nat}(hk:VX P n t=some [.sl b ks])
  (hval:Anz P w r b0 t v) (hd:DataW.Trod enc P w base spare held t v d ps) (hw:∀ n∈d.weights P t,n<=reachBytes):∃ x,Rd (fun _=>False) (fun _=>False) w v x/\AIs (.sl b ks) x:=by
 obtain⟨fuel,hf⟩:=hd;obtain⟨a0,l0,c0,hv⟩:=okWide_slice hu hval;subst hv;obtain⟨az,h1,h2⟩:=(rR n).1 t _ hk fuel _ _ hf hw;cases h2 with
 | cons h hs =>
  cases hs;exact⟨_,h1.1,h⟩
end
end Go.Ai
namespace Go.Ai
open Go.RowKit
open Go.IntKind renaming bits->An
open List renaming mem_append->Bn,mem_singleton->C3
theorem JG:∀ {ks ls:List SH} {az:List AV},AsAre (ks++ls) az->∃ a b,az=a++b/\AsAre ks a/\AsAre ls b
 | [],_,az,h=>⟨[],az,rfl,.nil,h⟩
 | _::_,_,_,.cons h hs=>by
  obtain⟨a,b,rfl,h1,h2⟩:=JG hs;exact⟨_::a,b,rfl,.cons h h1,h2⟩
theorem A8a{n:Int}(h:(Lit.int .u32 n).wf=true):0<=n/\n<4294967296:=by
 simp only[Lit.wf,IntKind.min,IntKind.max,IntKind.signed,An] at h;simp at h;omega
theorem eZ:∀ {n:Nat} {az:List AV},AsAre (SJ n [.int .u32]) az->∃ xs:LI,xs.length=n/\A_ xs/\az=lm xs
 | 0,_,.nil=>⟨[],rfl,(fun x hx=>nomatch hx),rfl⟩
 | n+1,az,h=>by
  obtain⟨a,b,rfl,h1,h2⟩:=JG h;obtain⟨xs,e1,e2,rfl⟩:=eZ h1;cases h2 with
  | cons h3 h4 =>
   cases h4;cases h3 with
   | int hw =>
    rename_i m;refine⟨xs++[m],by simp[e1],fun x hx => ?_,by simp[lm]⟩;rcases Bn.1 hx with g | g
    ·exact e2 x g
    ·rw[C3.1 g];exact A8a hw
def F_(r:Rn):Prop:=AU 35184372088832 r
theorem A8b{az:List AV}(h:AsAre [.bool,.sl 4 [.int .u32]] az):∃ r:Rn,F_ r/\az=[.bool r.1,.sl r.2.length (lm r.2)]:=by
 cases h with
 | cons h1 h2 =>
  cases h1;cases h2 with
  | cons h3 h4 =>
   cases h4;cases h3 with
   | sl h5 hb =>
    obtain⟨xs,rfl,e2,rfl⟩:=eZ h5;exact⟨(_,xs),⟨e2,by show xs.length<=_;unfold reachBytes at hb;omega⟩,rfl⟩
theorem rS:∀ {n:Nat} {az:List AV},AsAre (SJ n [.bool,.sl 4 [.int .u32]]) az->∃ rs:List Rn,rs.length=n/\(∀ r∈rs,F_ r)/\az=pc rs
 | 0,_,.nil=>⟨[],rfl,(fun x hx=>nomatch hx),rfl⟩
 | n+1,az,h=>by
  obtain⟨a,b,rfl,h1,h2⟩:=JG h;obtain⟨rs,e1,e2,rfl⟩:=rS h1;obtain⟨r,hr,rfl⟩:=A8b h2;refine⟨rs++[r],by simp[e1],fun x hx => ?_,by rw[Pb];rfl⟩;rcases Bn.1 hx with g | g
  ·exact e2 x g
  ·rw[C3.1 g];exact hr
abbrev Aav:SH := .sl 32 [.bool,.sl 4 [.int .u32]]
theorem A3g{x:AV}(h:AIs Aav x):∃ rs:List Rn,(∀ r∈rs,F_ r)/\x = sL pc rs:=by
 cases h with
 | sl h1 =>
  obtain⟨rs,rfl,h2,rfl⟩:=rS h1;exact⟨rs,h2,rfl⟩
theorem fA:∀ {n:Nat} {az:List AV},AsAre (SJ n [Aav]) az->∃ ls:List (List Rn),ls.length=n/\(∀ rs∈ls,∀ r∈rs,F_ r)/\az=pp ls
 | 0,_,.nil=>⟨[],rfl,(fun x hx=>nomatch hx),rfl⟩
 | n+1,az,h=>by
  obtain⟨a,b,rfl,h1,h2⟩:=JG h;obtain⟨ls,e1,e2,rfl⟩:=fA h1;cases h2 with
  | cons h3 h4 =>
   cases h4;obtain⟨rs,hr,rfl⟩:=A3g h3;refine⟨ls++[rs],by simp[e1],fun x hx => ?_,by simp[pp]⟩;rcases Bn.1 hx with g | g
   ·exact e2 x g
   ·rw[C3.1 g];exact hr
abbrev jL:SH := .sl 24 [Aav]
theorem A3h{x:AV}(h:AIs jL x):∃ ls:List (List Rn),(∀ rs∈ls,∀ r∈rs,F_ r)/\x = sL pp ls:=by
 cases h with
 | sl h5 hb =>
  obtain⟨ls,e1,e2,rfl⟩:=fA h5;exact⟨ls,e2,by unfold sL;rw[e1]⟩
theorem ZF:∀ {n:Nat} {az:List AV},AsAre (SJ n [jL]) az->∃ ll:List (List (List Rn)),ll.length=n/\(∀ ls∈ll,∀ rs∈ls,∀ r∈rs,F_ r)/\az=DB ll
 | 0,_,.nil=>⟨[],rfl,(fun x hx=>nomatch hx),rfl⟩
 | n+1,az,h=>by
  obtain⟨a,b,rfl,h1,h2⟩:=JG h;obtain⟨ll,e1,e2,rfl⟩:=ZF h1;cases h2 with
  | cons h3 h4 =>
   cases h4;obtain⟨ls,hr,rfl⟩:=A3h h3;refine⟨ll++[ls],by simp[e1],fun x hx => ?_,by simp[DB]⟩;rcases Bn.1 hx with g | g
   ·exact e2 x g
   ·rw[C3.1 g];exact hr
theorem Anp{x:AV}(h:AIs (.sl 24 [jL]) x):∃ ll:List (List (List Rn)),(∀ ls∈ll,∀ rs∈ls,∀ r∈rs,F_ r)/\x = .sl ll.length (DB ll):=by
 cases h with
 | sl h5 hb =>
  obtain⟨ll,e1,e2,rfl⟩:=ZF h5;exact⟨ll,e2,by rw[e1]⟩
end Go.Ai
