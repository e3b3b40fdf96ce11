/- Texts of the proof of RootIsolates: part 12 of 13. -/
import Derived.SizedLaws
import Derived.Test.YtajompaehjkgkaaGreatRis11
namespace Go.Ai
open Go.RowKit Go.WideShapes Go.ChangeShapes
open Go.Addr renaming add->A5r
open Go.DataW renaming Trod->A6s,trod->GB,weights->Awf,weightsAll->RF,weightsEach->tC
open Go.Lit renaming int->A5q
open Go.Value renaming cells->Ur,okWide->WO
open Go.World renaming cells?->A2l
open List renaming drop_drop->LS,drop_zero->Fe,getElem_append_left->Pj,getElem_append_right->OD,length_append->AX,length_map->N,length_range->B9,mapM_cons->L6,map_cons->C2,mem_append->BV,mem_cons->D4,mem_map->Em,mem_range->I9,take_of_length_le->Er
open Nat renaming eq_zero_or_pos->FJ,le_refl->Ap,le_trans->Be,mul_le_mul_right->AF,not_lt_zero->Qw,succ_mul->KT
inductive SH where
 | int (k:IntKind)
 | bool
 | str
 | sl (b:Nat) (ks:List SH)
def TJ(n:Nat)(ks:List SH):List SH:=match n with
 | 0=>[]
 | n+1=>TJ n ks++ks
theorem aB(n:Nat)(ks:List SH):(TJ n ks).length=n*ks.length:=by
 induction n with
 | zero=>simp[TJ]
 | succ n ih=>simp[TJ,ih,KT]
mutual
inductive AIs:SH->AV->Prop where
 | int {k:IntKind} {n:Int} (h:(A5q k n).wf=true):AIs (.int k) (.int k n)
 | bool {b:Bool}:AIs .bool (.bool b)
 | str {s:ByteArray}:AIs .str (.str s)
 | sl {b:Nat} {ks:List SH} {n:Nat} {az:List AV} (h:AsAre (TJ n ks) az) (hb:n*b<=reachBytes):AIs (.sl b ks) (.sl n az)
inductive AsAre:List SH->List AV->Prop where
 | nil:AsAre [] []
 | cons {k:SH} {a:AV} {ks:List SH} {az:List AV} (h:AIs k a) (hs:AsAre ks az):AsAre (k::ks) (a::az)
end
theorem AIs.data{k:SH}{a:AV}(h:AIs k a):KU a=true:=by cases h <;> rfl
theorem AsAre.dat:∀ {ks:List SH} {az:List AV},AsAre ks az->N9 az
 | _,_,.nil=>fun x hx=>by cases hx
 | _,_,.cons h hs=>fun x hx=>by
  cases hx with
  | head=>exact h.data
  | tail _ hx=>exact hs.dat x hx
theorem AsAre.append:∀ {ks ls:List SH} {a b:List AV},AsAre ks a->AsAre ls b->AsAre (ks++ls) (a++b)
 | _,_,_,_,.nil,h=>h
 | _,_,_,_,.cons h hs,h' => .cons h (hs.append h')
theorem AsAre.length:∀ {ks:List SH} {a:List AV},AsAre ks a->a.length=ks.length
 | _,_,.nil=>rfl
 | _,_,.cons _ hs=>by simp[hs.length]
mutual
def Qv(P:Program):Nat->TypeId->Option (List SH)
 | 0,_=>none
 | n+1,t=>match P.underlying t with
  | some .bool=>some [.bool]
  | some (.int k)=>some [.int k]
  | some .string=>some [.str]
  | some (.slice e)=>match Qv P n e with
   | some ks=>if ks.length=P.cellsOf e/\0<ks.length then some [.sl (P.bytesOf e) ks] else none
   | none=>none
  | some (.struct fs)=>match Nl P n fs.toList 0 with
   | some ks=>if ks.length=P.cellsOf t then some ks else none
   | none=>none
  | _=>none
def Nl(P:Program):Nat->List Field->Nat->Option (List SH)
 | _,[],_=>some []
 | 0,_::_,_=>none
 | n+1,f::fs,off=>match Qv P n f.type with
  | some ks=>if f.offset=off/\ks.length=P.cellsOf f.type then
    match Nl P n fs (off+ks.length) with
    | some ls=>some (ks++ls)
    | none=>none
   else none
  | none=>none
end
theorem Ua.append{Y X:Nat->Prop}{w:World}:∀ {a c:List Value} {b d:List AV},Ua Y X w a b->Ua Y X w c d->Ua Y X w (a++c) (b++d)
 | [],_,[],_,_,h=>h
 | _::_,_,_::_,_,h,h'=>⟨h.1,Ua.append h.2 h'⟩
 | [],_,_::_,_,h,_=>h.elim
 | _::_,_,[],_,h,_=>h.elim
theorem Nz{H:Type}{P:Program}{e:TypeId}:∀ {ds:List (DataW H)} {d:DataW H},d∈ds->∀ n∈d.weights P e,n∈RF P e ds
 | _::_,_,.head _,n,hn=>by simp only[RF,BV];exact .inl hn
 | _::_,_,.tail _ h,n,hn=>by simp only[RF,BV];exact .inr (Nz h n hn)
section
variable {H:Type} {enc:TypeId × Value->H} {P:Program} {w:World} {base:Nat} {spare:Nat->Bool} {held:Bool}
abbrev F0:Nat->Prop:=fun _=>False
theorem TK(n:Nat) :
  (∀ t ks,Qv P n t=some ks->∀ fuel cs x,GB enc P w base spare held fuel t cs=some x->(∀ n∈x.1.weights P t,n<=reachBytes)->∃ az,Ua F0 F0 w cs az/\AsAre ks az) /\
  (∀ fs off ks,Nl P n fs off=some ks->∀ fuel (cs:List Value) xs,off+ks.length<=cs.length ->
   fs.mapM (fun f=>GB enc P w base spare held fuel f.type ((cs.drop f.offset).take (P.cellsOf f.type)))=some xs->(∀ n∈tC P (fs.map (·.type)) (xs.map (·.1)),n<=reachBytes)->∃ az,Ua F0 F0 w ((cs.drop off).take ks.length) az/\AsAre ks az):=by
 induction n with
 | zero =>
  refine⟨fun t ks h=>by simp[Qv] at h,fun fs off ks h fuel cs xs hl hm _ => ?_⟩;cases fs with
  | nil=>simp[Nl] at h;subst h;exact⟨[],by simp[Ua],.nil⟩
  | cons f fs=>simp[Nl] at h
 | succ n ih =>
  constructor
  ·intro t ks h fuel cs x hx hw;cases fuel with
   | zero=>simp[GB] at hx
   | succ fuel =>
    unfold Qv at h;split at h
    ·rename_i hu;cases h;unfold GB at hx;rw[hu] at hx;split at hx <;> simp_all;exact⟨[.bool _],⟨.bool _,trivial⟩,.cons .bool .nil⟩
    ·rename_i k hu;cases h;obtain⟨m,e,_,hwf⟩:=DataW.trod_int hu hx;subst e;exact⟨[.int k m],⟨.int k m,trivial⟩,.cons (.int hwf) .nil⟩
    ·rename_i hu;cases h;obtain⟨s,e,_,_⟩:=DataW.trod_string hu hx;subst e;exact⟨[.str s],⟨.str s,trivial⟩,.cons .str .nil⟩
    ·rename_i e hu;split at h
     ·rename_i ls hls;split at h
      ·rename_i hlen;cases h;rcases Go.Deep.open_slice hu hx with ⟨h0,_⟩ | ⟨a,len,cap,m,nn,D,Pl,h1,hb,hl,hm,hmm,hxe,hx'⟩
       ·subst h0;exact⟨[.sl 0 []],⟨.nil0,trivial⟩,.cons (.sl .nil (by simp)) .nil⟩
       ·subst h1;rcases FJ len with h0 | hpos
        ·subst h0;exact⟨[.sl 0 []],⟨.e0 _ _,trivial⟩,.cons (.sl .nil (by simp)) .nil⟩
        ·have hlm:len<=m:=by rw[hmm];split <;> omega
         rw[hxe] at hw;simp only[Awf,hu,D4,BV,N,B9] at hw;have hsz:len*P.bytesOf e<=reachBytes:=Be (AF _ (by omega)) (hw _ (.inl rfl));have hel:∀ k,k<len->∀ n∈(D k).weights P e,n<=reachBytes:=fun k hk n hn=>hw n (.inr (.inl (Nz (Em.2 ⟨k,I9.2 hk,rfl⟩) n hn)));have hspot:a.spot=none:=by
          obtain⟨cs',h3,_⟩:=hx' 0 (by omega);unfold A2l at h3;split at h3
          ·obtain⟨l1,l2⟩:=Qu h3;rw[B9] at l1;have:=l2 0 (by rw[B9];omega) (by omega);have:=World.cell?_spot this;simpa [A5r] using this
          ·cases h3
         obtain⟨b,off,sp⟩:=a;simp only at hspot;subst hspot;have key:∀ k,k<=len->∃ (cs:List Value) (az:List AV),Ua F0 F0 w cs az/\AsAre (TJ k ls) az/\∀ (i:Nat) (h:i<cs.length),w.cell? ⟨b,off+i,none⟩=some cs[i]:=by
          intro k;induction k with
          | zero=>intro _;exact⟨[],[],trivial,.nil,fun i h=>absurd h (Qw i)⟩
          | succ k ihk =>
           intro hkl;obtain⟨cs,az,h1,h2,h2'⟩:=ihk (by omega);obtain⟨cs',h3,h4⟩:=hx' k (by omega);obtain⟨az',h5,h6⟩:=ih.1 e ls hls nn cs' _ h4 (hel k (by omega));refine⟨cs++cs',az++az',h1.append h5,h2.append h6,fun i hi => ?_⟩;have hlen2:cs.length=k*ls.length:=by rw[(h1.at).1,h2.length,aB]
           by_cases hik:i<cs.length
           ·rw[Pj hik];exact h2' i hik
           ·rw[OD (by omega)];have hi':i-cs.length<cs'.length:=by rw[AX] at hi;omega
            unfold A2l at h3;split at h3
            ·obtain⟨l1,l2⟩:=Qu h3;have:=l2 (i-cs.length) (by rw[<- l1];exact hi') hi';rw[<- this,List.getElem_range];congr 1;have hq:k*P.cellsOf e=cs.length:=by rw[hlen2,hlen.1]
             rw[hq];have ho:off+i=off+cs.length+(i-cs.length):=by omega
             rw[ho];unfold A5r;by_cases z1:cs.length=0 <;> by_cases z2:i-cs.length=0 <;> simp[z1,z2] <;> omega
            ·cases h3
         obtain⟨cs,az,h1,h2,h3⟩:=key len (Ap _);exact⟨[.sl len az],⟨Aex (fun h=>h) (fun h=>h) hl h2.dat h1 h3,trivial⟩,.cons (.sl h2 hsz) .nil⟩
      ·cases h
     ·cases h
    ·rename_i fs hu;split at h
     ·rename_i ls hls;split at h
      ·rename_i hlen;cases h;obtain⟨hl,xs,hm,hxa⟩:cs.length=P.cellsOf t/\∃ xs,fs.toList.mapM (fun f=>GB enc P w base spare held fuel f.type ((cs.drop f.offset).take (P.cellsOf f.type)))=some xs/\x.1 = .agg (xs.map (·.1)):=by
        unfold GB at hx;rw[hu] at hx;simp only at hx;split at hx
        ·rename_i hl;refine⟨hl,?_⟩;cases hm:fs.toList.mapM (fun f=>GB enc P w base spare held fuel f.type ((cs.drop f.offset).take (P.cellsOf f.type))) with
         | none=>rw[hm] at hx;cases hx
         | some xs=>rw[hm] at hx;cases hx;exact⟨xs,rfl,rfl⟩
        ·cases hx
       rw[hxa] at hw;simp only[Awf,hu] at hw;have:=(ih.2 fs.toList 0 ks hls fuel cs xs (by omega) hm hw);rw[Fe,Er (by omega)] at this;exact this
      ·cases h
     ·cases h
    ·cases h
  ·intro fs off ks h fuel cs xs hl hm hw;cases fs with
   | nil=>simp[Nl] at h;subst h;exact⟨[],by simp[Ua],.nil⟩
   | cons f fs =>
    unfold Nl at h;split at h
    ·rename_i ls hls;split at h
     ·rename_i ho;split at h
      ·rename_i ms hms;cases h;rw[L6] at hm;cases h1:GB enc P w base spare held fuel f.type ((cs.drop f.offset).take (P.cellsOf f.type)) with
       | none=>rw[h1] at hm;cases hm
       | some y =>
        rw[h1] at hm;cases h2:fs.mapM (fun f=>GB enc P w base spare held fuel f.type ((cs.drop f.offset).take (P.cellsOf f.type))) with
        | none=>simp[h2] at hm
        | some ys =>
         rw[h2] at hm;cases hm;simp only[C2,tC,BV] at hw;rw[AX] at hl |-;obtain⟨as1,a1,a1'⟩:=ih.1 f.type ls hls fuel _ y h1 (fun n hn=>hw n (.inl hn));obtain⟨as2,a2,a2'⟩:=ih.2 fs (off+ls.length) ms hms fuel cs ys (by omega) h2 (fun n hn=>hw n (.inr hn));rw[ho.1,<- ho.2] at a1;rw[List.take_add,LS];exact⟨as1++as2,a1.append a2,a1'.append a2'⟩
      ·cases h
     ·cases h
    ·cases h
theorem qP{r:Reach}{b0:Nat}{t e:TypeId}{v:Value}{d:DataW H}{ps:List MemPlace}{ks:List SH}(n:Nat)(hu:P.underlying t=some (.slice e)){b:Nat}(hk:Qv P n t=some [.sl b ks])
  (hval:WO P w r b0 t v) (hd:A6s enc P w base spare held t v d ps) (hw:∀ n∈d.weights P t,n<=reachBytes):∃ x,Rd (fun _=>False) (fun _=>False) w v x/\AIs (.sl b ks) x:=by
 obtain⟨fuel,hf⟩:=hd;obtain⟨a0,l0,c0,hv⟩:=okWide_slice hu hval;subst hv;obtain⟨az,h1,h2⟩:=(TK n).1 t _ hk fuel _ _ hf hw;cases h2 with
 | cons h hs =>
  cases hs;exact⟨_,h1.1,h⟩
theorem TL{r:Reach}{b0:Nat}{t:TypeId}{fs:Array Field}{v:Value}{d:DataW H}{ps:List MemPlace}{ks:List SH}(n:Nat)(hu:P.underlying t=some (.struct fs))(hk:Qv P n t=some ks)
  (hval:WO P w r b0 t v) (hd:A6s enc P w base spare held t v d ps) (hw:∀ n∈d.weights P t,n<=reachBytes):∃ az,Rd (fun _=>False) (fun _=>False) w v (.agg az)/\AsAre ks az:=by
 obtain⟨cs,rfl,hsz⟩:=okWide_struct hu hval;obtain⟨fuel,hf⟩:=hd;obtain⟨az,h1,h2⟩:=(TK n).1 t ks hk fuel _ _ hf hw;obtain⟨e,k⟩:=h1.at
 refine⟨az,.agg cs az h2.dat (by simpa [Ur] using e) (fun i h3 h4 => ?_),h2⟩;have:=k i (by simpa [Ur] using h3) h4;simpa [Ur] using this
end
end Go.Ai
namespace Go.Ai
open Go.RowKit
open Go.IntKind renaming bits->Am,signed->jY
open Go.Lit renaming int->A5q
open List renaming mem_append->BV,mem_singleton->I3
theorem Kk:∀ {ks ls:List SH} {az:List AV},AsAre (ks++ls) az->∃ a b,az=a++b/\AsAre ks a/\AsAre ls b
 | [],_,az,h=>⟨[],az,rfl,.nil,h⟩
 | _::_,_,_,.cons h hs=>by
  obtain⟨a,b,rfl,h1,h2⟩:=Kk hs;exact⟨_::a,b,rfl,.cons h h1,h2⟩
theorem A2m{n:Int}(h:(A5q .u32 n).wf=true):0<=n/\n<4294967296:=by
 simp only[Lit.wf,IntKind.min,IntKind.max,jY,Am] at h;simp at h;omega
theorem A2n{n:Int}(h:(A5q .i64 n).wf=true) : -9223372036854775808<=n/\n<=9223372036854775807:=by
 simp only[Lit.wf,IntKind.min,IntKind.max,jY,Am] at h;simp at h;omega
theorem YO:∀ {n:Nat} {az:List AV},AsAre (TJ n [.int .u32]) az->∃ xs:LI,xs.length=n/\AP xs/\az=lm xs
 | 0,_,.nil=>⟨[],rfl,(fun x hx=>nomatch hx),rfl⟩
 | n+1,az,h=>by
  obtain⟨a,b,rfl,h1,h2⟩:=Kk h;obtain⟨xs,e1,e2,rfl⟩:=YO h1;cases h2 with
  | cons h3 h4 =>
   cases h4;cases h3 with
   | int hw =>
    rename_i m;refine⟨xs++[m],by simp[e1],fun x hx => ?_,by simp[lm]⟩;rcases BV.1 hx with g | g
    ·exact e2 x g
    ·rw[I3.1 g];exact A2m hw
def Big(r:Rn):Prop:=AO 35184372088832 r
theorem tD{az:List AV}(h:AsAre [.bool,.sl 4 [.int .u32]] az):∃ r:Rn,Big r/\az=[.bool r.1,.sl r.2.length (lm r.2)]:=by
 cases h with
 | cons h1 h2 =>
  cases h1;cases h2 with
  | cons h3 h4 =>
   cases h4;cases h3 with
   | sl h5 hb =>
    obtain⟨xs,rfl,e2,rfl⟩:=YO h5;exact⟨(_,xs),⟨e2,by show xs.length<=_;unfold reachBytes at hb;omega⟩,rfl⟩
theorem iQ:∀ {n:Nat} {az:List AV},AsAre (TJ n [.bool,.sl 4 [.int .u32]]) az->∃ rs:List Rn,rs.length=n/\(∀ r∈rs,Big r)/\az=pc rs
 | 0,_,.nil=>⟨[],rfl,(fun x hx=>nomatch hx),rfl⟩
 | n+1,az,h=>by
  obtain⟨a,b,rfl,h1,h2⟩:=Kk h;obtain⟨rs,e1,e2,rfl⟩:=iQ h1;obtain⟨r,hr,rfl⟩:=tD h2;refine⟨rs++[r],by simp[e1],fun x hx => ?_,by rw[MN];rfl⟩;rcases BV.1 hx with g | g
  ·exact e2 x g
  ·rw[I3.1 g];exact hr
abbrev A6t:SH := .sl 32 [.bool,.sl 4 [.int .u32]]
theorem Avx{x:AV}(h:AIs A6t x):∃ rs:List Rn,(∀ r∈rs,Big r)/\x = sL pc rs:=by
 cases h with
 | sl h1 =>
  obtain⟨rs,rfl,h2,rfl⟩:=iQ h1;exact⟨rs,h2,rfl⟩
abbrev dyS:List SH:=[.bool,.sl 4 [.int .u32],.int .i64]
theorem WL{az:List AV}(h:AsAre dyS az):∃ (r:Rn) (e:Int),Big r/\(-9223372036854775808<=e/\e<=9223372036854775807)/\az=[.bool r.1,.sl r.2.length (lm r.2),.int .i64 e]:=by
 obtain⟨a,b,rfl,h1,h2⟩:=Kk (ks:=[.bool,.sl 4 [.int .u32]]) (ls:=[.int .i64]) h;obtain⟨r,hr,rfl⟩:=tD h1;cases h2 with
 | cons h3 h4 =>
  cases h4;cases h3 with
  | int hw=>exact⟨r,_,hr,A2n hw,rfl⟩
end Go.Ai
