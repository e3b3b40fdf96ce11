/- Texts of the proof of RootDyadics: part 12 of 13. -/
import Derived.SizedLaws
import Derived.Test.YtajompaehjkgkaaGreatRdx11
namespace Go.Ai
open Go.RowKit Go.WideShapes Go.ChangeShapes
open Go.Addr renaming add->A3z
open Go.DataW renaming Trod->A4y,trod->Gw,weights->Aul,weightsAll->Ro,weightsEach->rL
open Go.Lit renaming int->A3y
open Go.Value renaming cells->TQ,okWide->Wv
open Go.World renaming cells?->A0w
open List renaming drop_drop->Lq,drop_zero->EP,getElem_append_left->OK,getElem_append_right->Oh,length_append->AU,length_map->N,length_range->BY,mapM_cons->KY,map_cons->Cz,mem_append->BJ,mem_cons->CH,mem_map->Ea,mem_range->W8,take_of_length_le->Ef
open Nat renaming eq_zero_or_pos->F6,le_refl->Am,le_trans->Bq,mul_le_mul_right->A8,not_lt_zero->Qc,succ_mul->Kz
inductive SH where
 | int (k:IntKind)
 | bool
 | str
 | sl (b:Nat) (ks:List SH)
def Tw(n:Nat)(ks:List SH):List SH:=match n with
 | 0=>[]
 | n+1=>Tw n ks++ks
theorem ZC(n:Nat)(ks:List SH):(Tw n ks).length=n*ks.length:=by
 induction n with
 | zero=>simp[Tw]
 | succ n ih=>simp[Tw,ih,Kz]
mutual
inductive AIs:SH->AV->Prop where
 | int {k:IntKind} {n:Int} (h:(A3y k n).wf=true):AIs (.int k) (.int k n)
 | bool {b:Bool}:AIs .bool (.bool b)
 | str {s:ByteArray}:AIs .str (.str s)
 | sl {b:Nat} {ks:List SH} {n:Nat} {az:List AV} (h:AsAre (Tw n ks) az) (hb:n*b<=reachBytes):AIs (.sl b ks) (.sl n az)
inductive AsAre:List SH->List AV->Prop where
 | nil:AsAre [] []
 | cons {k:SH} {a:AV} {ks:List SH} {az:List AV} (h:AIs k a) (hs:AsAre ks az):AsAre (k::ks) (a::az)
end
theorem AIs.data{k:SH}{a:AV}(h:AIs k a):K0 a=true:=by cases h <;> rfl
theorem AsAre.dat:∀ {ks:List SH} {az:List AV},AsAre ks az->Nc az
 | _,_,.nil=>fun x hx=>by cases hx
 | _,_,.cons h hs=>fun x hx=>by
  cases hx with
  | head=>exact h.data
  | tail _ hx=>exact hs.dat x hx
theorem AsAre.append:∀ {ks ls:List SH} {a b:List AV},AsAre ks a->AsAre ls b->AsAre (ks++ls) (a++b)
 | _,_,_,_,.nil,h=>h
 | _,_,_,_,.cons h hs,h' => .cons h (hs.append h')
theorem AsAre.length:∀ {ks:List SH} {a:List AV},AsAre ks a->a.length=ks.length
 | _,_,.nil=>rfl
 | _,_,.cons _ hs=>by simp[hs.length]
mutual
def Qb(P:Program):Nat->TypeId->Option (List SH)
 | 0,_=>none
 | n+1,t=>match P.underlying t with
  | some .bool=>some [.bool]
  | some (.int k)=>some [.int k]
  | some .string=>some [.str]
  | some (.slice e)=>match Qb P n e with
   | some ks=>if ks.length=P.cellsOf e/\0<ks.length then some [.sl (P.bytesOf e) ks] else none
   | none=>none
  | some (.struct fs)=>match ME P n fs.toList 0 with
   | some ks=>if ks.length=P.cellsOf t then some ks else none
   | none=>none
  | _=>none
def ME(P:Program):Nat->List Field->Nat->Option (List SH)
 | _,[],_=>some []
 | 0,_::_,_=>none
 | n+1,f::fs,off=>match Qb P n f.type with
  | some ks=>if f.offset=off/\ks.length=P.cellsOf f.type then
    match ME P n fs (off+ks.length) with
    | some ls=>some (ks++ls)
    | none=>none
   else none
  | none=>none
end
theorem TA.append{Y X:Nat->Prop}{w:World}:∀ {a c:List Value} {b d:List AV},TA Y X w a b->TA Y X w c d->TA Y X w (a++c) (b++d)
 | [],_,[],_,_,h=>h
 | _::_,_,_::_,_,h,h'=>⟨h.1,TA.append h.2 h'⟩
 | [],_,_::_,_,h,_=>h.elim
 | _::_,_,[],_,h,_=>h.elim
theorem MT{H:Type}{P:Program}{e:TypeId}:∀ {ds:List (DataW H)} {d:DataW H},d∈ds->∀ n∈d.weights P e,n∈Ro P e ds
 | _::_,_,.head _,n,hn=>by simp only[Ro,BJ];exact .inl hn
 | _::_,_,.tail _ h,n,hn=>by simp only[Ro,BJ];exact .inr (MT h n hn)
section
variable {H:Type} {enc:TypeId × Value->H} {P:Program} {w:World} {base:Nat} {spare:Nat->Bool} {held:Bool}
abbrev F0:Nat->Prop:=fun _=>False
theorem Tx(n:Nat) :
  (∀ t ks,Qb P n t=some ks->∀ fuel cs x,Gw enc P w base spare held fuel t cs=some x->(∀ n∈x.1.weights P t,n<=reachBytes)->∃ az,TA F0 F0 w cs az/\AsAre ks az) /\
  (∀ fs off ks,ME P n fs off=some ks->∀ fuel (cs:List Value) xs,off+ks.length<=cs.length ->
   fs.mapM (fun f=>Gw enc P w base spare held fuel f.type ((cs.drop f.offset).take (P.cellsOf f.type)))=some xs->(∀ n∈rL P (fs.map (·.type)) (xs.map (·.1)),n<=reachBytes)->∃ az,TA F0 F0 w ((cs.drop off).take ks.length) az/\AsAre ks az):=by
 induction n with
 | zero =>
  refine⟨fun t ks h=>by simp[Qb] at h,fun fs off ks h fuel cs xs hl hm _ => ?_⟩;cases fs with
  | nil=>simp[ME] at h;subst h;exact⟨[],by simp[TA],.nil⟩
  | cons f fs=>simp[ME] at h
 | succ n ih =>
  constructor
  ·intro t ks h fuel cs x hx hw;cases fuel with
   | zero=>simp[Gw] at hx
   | succ fuel =>
    unfold Qb at h;split at h
    ·rename_i hu;cases h;unfold Gw at hx;rw[hu] at hx;split at hx <;> simp_all;exact⟨[.bool _],⟨.bool _,trivial⟩,.cons .bool .nil⟩
    ·rename_i k hu;cases h;obtain⟨m,e,_,hwf⟩:=DataW.trod_int hu hx;subst e;exact⟨[.int k m],⟨.int k m,trivial⟩,.cons (.int hwf) .nil⟩
    ·rename_i hu;cases h;obtain⟨s,e,_,_⟩:=DataW.trod_string hu hx;subst e;exact⟨[.str s],⟨.str s,trivial⟩,.cons .str .nil⟩
    ·rename_i e hu;split at h
     ·rename_i ls hls;split at h
      ·rename_i hlen;cases h;rcases Go.Deep.open_slice hu hx with ⟨h0,_⟩ | ⟨a,len,cap,m,nn,D,Pl,h1,hb,hl,hm,hmm,hxe,hx'⟩
       ·subst h0;exact⟨[.sl 0 []],⟨.nil0,trivial⟩,.cons (.sl .nil (by simp)) .nil⟩
       ·subst h1;rcases F6 len with h0 | hpos
        ·subst h0;exact⟨[.sl 0 []],⟨.e0 _ _,trivial⟩,.cons (.sl .nil (by simp)) .nil⟩
        ·have hlm:len<=m:=by rw[hmm];split <;> omega
         rw[hxe] at hw;simp only[Aul,hu,CH,BJ,N,BY] at hw;have hsz:len*P.bytesOf e<=reachBytes:=Bq (A8 _ (by omega)) (hw _ (.inl rfl));have hel:∀ k,k<len->∀ n∈(D k).weights P e,n<=reachBytes:=fun k hk n hn=>hw n (.inr (.inl (MT (Ea.2 ⟨k,W8.2 hk,rfl⟩) n hn)));have hspot:a.spot=none:=by
          obtain⟨cs',h3,_⟩:=hx' 0 (by omega);unfold A0w at h3;split at h3
          ·obtain⟨l1,l2⟩:=Qa h3;rw[BY] at l1;have:=l2 0 (by rw[BY];omega) (by omega);have:=World.cell?_spot this;simpa [A3z] using this
          ·cases h3
         obtain⟨b,off,sp⟩:=a;simp only at hspot;subst hspot;have key:∀ k,k<=len->∃ (cs:List Value) (az:List AV),TA F0 F0 w cs az/\AsAre (Tw k ls) az/\∀ (i:Nat) (h:i<cs.length),w.cell? ⟨b,off+i,none⟩=some cs[i]:=by
          intro k;induction k with
          | zero=>intro _;exact⟨[],[],trivial,.nil,fun i h=>absurd h (Qc i)⟩
          | succ k ihk =>
           intro hkl;obtain⟨cs,az,h1,h2,h2'⟩:=ihk (by omega);obtain⟨cs',h3,h4⟩:=hx' k (by omega);obtain⟨az',h5,h6⟩:=ih.1 e ls hls nn cs' _ h4 (hel k (by omega));refine⟨cs++cs',az++az',h1.append h5,h2.append h6,fun i hi => ?_⟩;have hlen2:cs.length=k*ls.length:=by rw[(h1.at).1,h2.length,ZC]
           by_cases hik:i<cs.length
           ·rw[OK hik];exact h2' i hik
           ·rw[Oh (by omega)];have hi':i-cs.length<cs'.length:=by rw[AU] at hi;omega
            unfold A0w at h3;split at h3
            ·obtain⟨l1,l2⟩:=Qa h3;have:=l2 (i-cs.length) (by rw[<- l1];exact hi') hi';rw[<- this,List.getElem_range];congr 1;have hq:k*P.cellsOf e=cs.length:=by rw[hlen2,hlen.1]
             rw[hq];have ho:off+i=off+cs.length+(i-cs.length):=by omega
             rw[ho];unfold A3z;by_cases z1:cs.length=0 <;> by_cases z2:i-cs.length=0 <;> simp[z1,z2] <;> omega
            ·cases h3
         obtain⟨cs,az,h1,h2,h3⟩:=key len (Am _);exact⟨[.sl len az],⟨Acz (fun h=>h) (fun h=>h) hl h2.dat h1 h3,trivial⟩,.cons (.sl h2 hsz) .nil⟩
      ·cases h
     ·cases h
    ·rename_i fs hu;split at h
     ·rename_i ls hls;split at h
      ·rename_i hlen;cases h;obtain⟨hl,xs,hm,hxa⟩:cs.length=P.cellsOf t/\∃ xs,fs.toList.mapM (fun f=>Gw enc P w base spare held fuel f.type ((cs.drop f.offset).take (P.cellsOf f.type)))=some xs/\x.1 = .agg (xs.map (·.1)):=by
        unfold Gw at hx;rw[hu] at hx;simp only at hx;split at hx
        ·rename_i hl;refine⟨hl,?_⟩;cases hm:fs.toList.mapM (fun f=>Gw enc P w base spare held fuel f.type ((cs.drop f.offset).take (P.cellsOf f.type))) with
         | none=>rw[hm] at hx;cases hx
         | some xs=>rw[hm] at hx;cases hx;exact⟨xs,rfl,rfl⟩
        ·cases hx
       rw[hxa] at hw;simp only[Aul,hu] at hw;have:=(ih.2 fs.toList 0 ks hls fuel cs xs (by omega) hm hw);rw[EP,Ef (by omega)] at this;exact this
      ·cases h
     ·cases h
    ·cases h
  ·intro fs off ks h fuel cs xs hl hm hw;cases fs with
   | nil=>simp[ME] at h;subst h;exact⟨[],by simp[TA],.nil⟩
   | cons f fs =>
    unfold ME at h;split at h
    ·rename_i ls hls;split at h
     ·rename_i ho;split at h
      ·rename_i ms hms;cases h;rw[KY] at hm;cases h1:Gw enc P w base spare held fuel f.type ((cs.drop f.offset).take (P.cellsOf f.type)) with
       | none=>rw[h1] at hm;cases hm
       | some y =>
        rw[h1] at hm;cases h2:fs.mapM (fun f=>Gw enc P w base spare held fuel f.type ((cs.drop f.offset).take (P.cellsOf f.type))) with
        | none=>simp[h2] at hm
        | some ys =>
         rw[h2] at hm;cases hm;simp only[Cz,rL,BJ] at hw;rw[AU] at hl |-;obtain⟨as1,a1,a1'⟩:=ih.1 f.type ls hls fuel _ y h1 (fun n hn=>hw n (.inl hn));obtain⟨as2,a2,a2'⟩:=ih.2 fs (off+ls.length) ms hms fuel cs ys (by omega) h2 (fun n hn=>hw n (.inr hn));rw[ho.1,<- ho.2] at a1;rw[List.take_add,Lq];exact⟨as1++as2,a1.append a2,a1'.append a2'⟩
      ·cases h
     ·cases h
    ·cases h
theorem pF{r:Reach}{b0:Nat}{t e:TypeId}{v:Value}{d:DataW H}{ps:List MemPlace}{ks:List SH}(n:Nat)(hu:P.underlying t=some (.slice e)){b:Nat}(hk:Qb P n t=some [.sl b ks])
  (hval:Wv P w r b0 t v) (hd:A4y enc P w base spare held t v d ps) (hw:∀ n∈d.weights P t,n<=reachBytes):∃ x,Rd (fun _=>False) (fun _=>False) w v x/\AIs (.sl b ks) x:=by
 obtain⟨fuel,hf⟩:=hd;obtain⟨a0,l0,c0,hv⟩:=okWide_slice hu hval;subst hv;obtain⟨az,h1,h2⟩:=(Tx n).1 t _ hk fuel _ _ hf hw;cases h2 with
 | cons h hs =>
  cases hs;exact⟨_,h1.1,h⟩
theorem gK{r:Reach}{b0:Nat}{t:TypeId}{fs:Array Field}{v:Value}{d:DataW H}{ps:List MemPlace}{ks:List SH}(n:Nat)(hu:P.underlying t=some (.struct fs))(hk:Qb P n t=some ks)
  (hval:Wv P w r b0 t v) (hd:A4y enc P w base spare held t v d ps) (hw:∀ n∈d.weights P t,n<=reachBytes):∃ az,Rd (fun _=>False) (fun _=>False) w v (.agg az)/\AsAre ks az:=by
 obtain⟨cs,rfl,hsz⟩:=okWide_struct hu hval;obtain⟨fuel,hf⟩:=hd;obtain⟨az,h1,h2⟩:=(Tx n).1 t ks hk fuel _ _ hf hw;obtain⟨e,k⟩:=h1.at
 refine⟨az,.agg cs az h2.dat (by simpa [TQ] using e) (fun i h3 h4 => ?_),h2⟩;have:=k i (by simpa [TQ] using h3) h4;simpa [TQ] using this
end
end Go.Ai
namespace Go.Ai
open Go.RowKit
open Go.IntKind renaming bits->Aj,signed->iR
open Go.Lit renaming int->A3y
open List renaming mem_append->BJ,mem_singleton->HZ
theorem J9:∀ {ks ls:List SH} {az:List AV},AsAre (ks++ls) az->∃ a b,az=a++b/\AsAre ks a/\AsAre ls b
 | [],_,az,h=>⟨[],az,rfl,.nil,h⟩
 | _::_,_,_,.cons h hs=>by
  obtain⟨a,b,rfl,h1,h2⟩:=J9 hs;exact⟨_::a,b,rfl,.cons h h1,h2⟩
theorem A0x{n:Int}(h:(A3y .u32 n).wf=true):0<=n/\n<4294967296:=by
 simp only[Lit.wf,IntKind.min,IntKind.max,iR,Aj] at h;simp at h;omega
theorem A0y{n:Int}(h:(A3y .i64 n).wf=true) : -9223372036854775808<=n/\n<=9223372036854775807:=by
 simp only[Lit.wf,IntKind.min,IntKind.max,iR,Aj] at h;simp at h;omega
theorem Yw:∀ {n:Nat} {az:List AV},AsAre (Tw n [.int .u32]) az->∃ xs:List Int,xs.length=n/\AI xs/\az=lm xs
 | 0,_,.nil=>⟨[],rfl,(fun x hx=>nomatch hx),rfl⟩
 | n+1,az,h=>by
  obtain⟨a,b,rfl,h1,h2⟩:=J9 h;obtain⟨xs,e1,e2,rfl⟩:=Yw h1;cases h2 with
  | cons h3 h4 =>
   cases h4;cases h3 with
   | int hw =>
    rename_i m;refine⟨xs++[m],by simp[e1],fun x hx => ?_,by simp[lm]⟩;rcases BJ.1 hx with g | g
    ·exact e2 x g
    ·rw[HZ.1 g];exact A0x hw
def Big(r:Rn):Prop:=u 35184372088832 r
theorem rM{az:List AV}(h:AsAre [.bool,.sl 4 [.int .u32]] az):∃ r:Rn,Big r/\az=[.bool r.1,.sl r.2.length (lm r.2)]:=by
 cases h with
 | cons h1 h2 =>
  cases h1;cases h2 with
  | cons h3 h4 =>
   cases h4;cases h3 with
   | sl h5 hb =>
    obtain⟨xs,rfl,e2,rfl⟩:=Yw h5;exact⟨(_,xs),⟨e2,by show xs.length<=_;unfold reachBytes at hb;omega⟩,rfl⟩
theorem gL:∀ {n:Nat} {az:List AV},AsAre (Tw n [.bool,.sl 4 [.int .u32]]) az->∃ rs:List Rn,rs.length=n/\(∀ r∈rs,Big r)/\az=pc rs
 | 0,_,.nil=>⟨[],rfl,(fun x hx=>nomatch hx),rfl⟩
 | n+1,az,h=>by
  obtain⟨a,b,rfl,h1,h2⟩:=J9 h;obtain⟨rs,e1,e2,rfl⟩:=gL h1;obtain⟨r,hr,rfl⟩:=rM h2;refine⟨rs++[r],by simp[e1],fun x hx => ?_,by rw[Mp];rfl⟩;rcases BJ.1 hx with g | g
  ·exact e2 x g
  ·rw[HZ.1 g];exact hr
abbrev A4z:SH := .sl 32 [.bool,.sl 4 [.int .u32]]
theorem Aua{x:AV}(h:AIs A4z x):∃ rs:List Rn,(∀ r∈rs,Big r)/\x = sL pc rs:=by
 cases h with
 | sl h1 =>
  obtain⟨rs,rfl,h2,rfl⟩:=gL h1;exact⟨rs,h2,rfl⟩
abbrev dyS:List SH:=[.bool,.sl 4 [.int .u32],.int .i64]
theorem pG{az:List AV}(h:AsAre dyS az):∃ (r:Rn) (e:Int),Big r/\(-9223372036854775808<=e/\e<=9223372036854775807)/\az=[.bool r.1,.sl r.2.length (lm r.2),.int .i64 e]:=by
 obtain⟨a,b,rfl,h1,h2⟩:=J9 (ks:=[.bool,.sl 4 [.int .u32]]) (ls:=[.int .i64]) h;obtain⟨r,hr,rfl⟩:=rM h1;cases h2 with
 | cons h3 h4 =>
  cases h4;cases h3 with
  | int hw=>exact⟨r,_,hr,A0y hw,rfl⟩
end Go.Ai
