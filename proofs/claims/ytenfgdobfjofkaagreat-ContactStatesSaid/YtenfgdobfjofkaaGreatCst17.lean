/- Texts of the proof of ContactStates: part 17 of 18. -/
import Derived.WalkKit
import Derived.Maps.OwnSet
import Derived.Test.YtenfgdobfjofkaaGreatCst16
namespace Go.Proofs.YtenfgdobfjofkaaGreat
open Go.Ai Go.RowKit Go.Hp
set_option maxRecDepth 100000
open _root_.Array renaming getElem?_setIfInBounds_ne->Jo,getElem?_setIfInBounds_self_of_lt->nK,toList_push->AIy
open Bool renaming and_eq_true->U
open Go.Calls renaming mono->vW
open Go.Instr renaming checkKey->FA,findKey->N6,lookup->OJ,mapUpdate->nL
open Go.Oper renaming upon->BN,wp->Cn
open Go.Proofs.Tryz renaming prog->g
open Go.Result renaming andThen_ok->W
open Go.Sem renaming run->Cl,run_bind->Aj,run_pure->An
open List renaming all_eq_true->AKf,map_append->DU,map_cons->Bg,map_nil->C1
open Nat renaming eq_of_beq_eq_true->Ao,lt_of_not_le->Hd
section
variable {P:Program} {ops:Array Oper} {Q:Exit->Act->World->Prop} {o:Oper} {rest:List Oper} {a:Act} {w:World}
theorem AJs{c d:Operand}{t:TypeId}(k:o.guard=none)(l:o.op = .lookup t c d false)(n:nZ P true t=true){m:Nat}{nm:ByteArray}{ms:Array MapEntry}{f:Nat}{ks:u}
  (p:a.eval c = .map (some m)) (r:a.eval d = .string nm) (s:w.heap[m]? = some (.map ms f)) (y:nS ms ks) (hb:FT ks (.str nm)=some false)
  (z:wpList P ops Q rest (a.put o.dst (.bool false)) w):wpList P ops Q (o::rest) a w:=by
 obtain⟨g,e,H,A,h,j,B⟩:=Wn n;refine wpList_plain k fun I C=>AI (v := .bool false) ?_ (C _ _ z);have D:(getObj m).run P w = .ok (.map ms f) w:=by simp only[getObj,Cl,s]
 have E:(FA ms.isEmpty 10000 g (.string nm)).run P w = .ok () w:=Yn h j 9999;obtain⟨q,F,b⟩:=UE (x := .str nm) j rfl (i:=0) y hb;have b:q=none:=b;subst b;have G:(N6 g (.string nm) ms.toList).run P w = .ok none w:=lF h F;simp only[execOp,l,OJ,p,r,Aj,run_underlying A,W,D,An,E,G,B];rfl
theorem AJw{f g:Operand}{t:TypeId}(n:o.guard=none)(p:o.dst=none)(r:o.op = .mapUpdate t f g (.const (.bool true)))(s:nZ P true t=true){m:Nat}{nm:ByteArray}{ms:Array MapEntry}{b:Nat}{ks:u}
  (v:a.eval f = .map (some m)) (y:a.eval g = .string nm) (h:w.heap[m]? = some (.map ms b)) (z:nS ms ks) (hb:FT ks (.str nm)=some false)
  (A:wpList P ops Q rest a { w with heap:=w.heap.setIfInBounds m (.map (ms.push { key := .string nm,val := .bool true,born:=b }) (b+1)) }):wpList P ops Q (o::rest) a w:=by
 obtain⟨j,e,K,B,k,l,L⟩:=Wn s;refine wpList_plain n fun M C => ?_;have D:(getObj m).run P w = .ok (.map ms b) w:=by simp only[getObj,Cl,h]
 have E:(FA false 10000 j (.string nm)).run P w = .ok () w:=Yn k l 9999;obtain⟨q,F,c⟩:=UE (x := .str nm) l rfl (i:=0) z hb;have c:q=none:=c;subst c;have G:(N6 j (.string nm) ms.toList).run P w = .ok none w:=lF k F;have H:∀ d:Obj,(setObj m d).run P w = .ok () { w with heap:=w.heap.setIfInBounds m d }:=fun d=>by simp only[setObj,Cl,h]
 have I:(execOp a.eval o).run P w = .ok .skip { w with heap:=w.heap.setIfInBounds m (.map (ms.push { key := .string nm,val := .bool true,born:=b }) (b+1)) }:=by
  have J:a.eval (.const (.bool true)) = .bool true:=rfl;simp only[execOp,r,nL,v,y,J,Aj,run_underlying B,W,D,E,G,H,An]
 simp only[Cn,I,BN,p];exact C _ _ A
end
theorem AJx{nm:ByteArray}(hn:∀ w,Calls g 223 #[.string nm] w fun e w'=>e = .returned (.bool true)/\Below w.heap.size w w'):A8w g 125 nm:=by
 intro w b m cs T ms i ks hb h0 h1 j f k;have c0:w.cell? ⟨b,0,none⟩=some (.map (some m)):=(DE hb).trans h0;have c1:w.cell? ⟨b,1,none⟩=some (.int .i64 0):=(DE hb).trans h1;have l:nZ g true 196=true:=by kernel_rfl
 go_enter Tryz.func125,Tryz.ntmps125;go_wp2_with fail;refine (hn w).mono ?_;rintro e d ⟨rfl,a⟩;have n:=(a.block b (Fj hb)).trans hb;have h:=(a.block m (Fj j)).trans j;have p:d.cell? ⟨b,0,none⟩=some (.map (some m)):=(DE n).trans h0;have q:d.cell? ⟨b,1,none⟩=some (.int .i64 0):=(DE n).trans h1;go_wp2_with (first
  | (at_lookup;refine AJs rfl rfl l rfl rfl h f k ?_)
  | (at_mapUpdate;refine AJw rfl rfl rfl l rfl rfl h f k ?_))
 go_end0;refine⟨_,rfl,⟨a.os,a.tape,a.output,by simpa using a.size,fun c hc => ?_⟩,ms.push { key := .string nm,val := .bool true,born:=i },i+1,?_,?_⟩
 ·have o:m ≠ c:=fun e=>hc (.inr e.symm);show (d.heap.setIfInBounds m _)[c]? = _;rw[Jo o];exact a.block c (Hd fun e=>hc (.inl e))
 ·show (d.heap.setIfInBounds m _)[m]? = _;rw[nK (Fj h)]
 ·simp only[nS,AIy,DU,Bg,C1];rw[f];rfl
theorem AJt{nm:ByteArray}(h:Kp 125 nm=true)(w:World):Calls g 223 #[.string nm] w fun e w'=>e = .returned (.bool true)/\Below w.heap.size w w':=by
 unfold Kp at h;rw[U] at h;obtain⟨l,hl,e⟩:=List.any_eq_true.1 h.2;have e:nm=⟨l.toArray⟩:=by
  obtain⟨x⟩:=nm;have e:(x==l.toArray)=true:=e;rw[eq_of_beq e]
 subst e;have hr:=AKf.1 nmT l hl;unfold okB at hr;split at hr
 ·rename_i s' hs;refine vW (Aox (Aow GO 200) (vals:=#[.string ⟨l.toArray⟩]) ⟨rfl,fun j h1 h2 => ?_⟩ hs w) fun e w' a => ?_
  ·match j,h1 with
   | 0,_=>exact .c _ ⟨rfl,rfl⟩
  ·obtain⟨v,μ,rfl,b,hb⟩:=a;cases b;exact⟨rfl,hb⟩
 ·cases hr
instance:Looks g:=⟨fun f nm h=>by
 have hf:f=125:=by
  have h:=h
  unfold Kp at h
  rw[U] at h
  exact Ao h.1
 subst hf
 exact AJx (AJt h)⟩
end Go.Proofs.YtenfgdobfjofkaaGreat
