/- Texts of the proof of RootSquares, packed by pack.py: part 3 of 18. -/
import Derived.ArgAppend
import Derived.Laws.MakeOwn
import Derived.Laws.Slices
import Derived.Laws.Cover3
import Derived.Test.YthdpfjffdipipaaRsq2
namespace Go.Ai
open Go.IntKind (i64 u64 u32)
open Go.RowKit
section
variable {P:Program} {Y X:Nat->Prop} {w:World}
theorem J6 {t:TypeId} {k:Nat} (h:Vm P t k=true):∃ e i zv,P.underlying t=some (.slice e)/\P.info? e=some i/\i.size=k/\0<k/\i.bytes<=1048576/\i.zero=some zv/\zv.cells.size=k:=by
 unfold Vm at h;split at h
 ·rename_i e hu;split at h
  ·rename_i i hi;simp only[Bool.and_eq_true,beq_iff_eq,decide_eq_true_eq] at h;obtain⟨⟨⟨h1,h2⟩,h3⟩,h4⟩:=h;split at h4
   ·rename_i zv hz;simp only[beq_iff_eq] at h4;exact⟨e,i,zv,hu,hi,h1,by omega,h3,hz,by omega⟩
   ·cases h4
  ·cases h
 ·cases h
theorem Xv {t:TypeId} (h:Vo P t=true):∃ e,P.underlying t=some (.slice e):=by
 unfold Vo at h;split at h
 ·rename_i e hu;exact⟨e,hu⟩
 ·cases h
theorem Kp (z:List AV) (n:Nat):(J3 z n).length=n*z.length:=by
 induction n with
 | zero=>simp[J3]
 | succ n ih=>simp only[J3,List.length_append,ih,Nat.succ_mul];omega
theorem Zd4 (z:List AV) (n:Nat):∀ i,i<n*z.length->(J3 z n)[i]?=z[i % z.length]?:=by
 induction n with
 | zero=>intro i h;omega
 | succ n ih =>
  intro i h;rw[Nat.succ_mul] at h;simp only[J3];by_cases hi:i<z.length
  ·rw[List.getElem?_append_left hi,Nat.mod_eq_of_lt hi]
  ·rw[List.getElem?_append_right (by omega),ih _ (by omega)];congr 1;exact (Nat.mod_eq_sub_mod (by omega)).symm
theorem Zd3 (z:List AV) (n:Nat):∀ x∈J3 z n,x∈z:=by
 induction n with
 | zero=>intro x h;cases h
 | succ n ih =>
  intro x h;simp only[J3,List.mem_append] at h;exact h.elim id (ih x)
theorem Zqm {t:TypeId} {z:List AV} {kl kc:IntKind} {m:Int} (he:Vm P t z.length=true) (hz:Zdb P t z=true) (h0:0<=m) (h1:m<=1048576) :
  ∃ e cells,(Instr.makeSlice t (.int kl m) (.int kc m)).run P w = .ok (.slice (some ⟨w.heap.size,0,none⟩) m.toNat m.toNat) (w.alloc (.cells cells e))/\Q7 Y X w cells (J3 z m.toNat):=by
 obtain⟨e,i,zv,hu,hi,hs,hk,hb,hzv,hzs⟩:=J6 he;unfold Zdb at hz;rw[hu] at hz;dsimp only at hz;unfold Bp at hz;rw[hi] at hz;dsimp only at hz;rw[hzv] at hz;dsimp only at hz;have hc:Q7 Y X w zv.cells z:=by
  have:=W5 (Y:=Y) (X:=X) (w:=w) hz;simpa using this
 have hbb:(i.bytes:Int)*m<=281474976710656:=by
  have a1:(i.bytes:Int)*m<=1048576*m:=Int.mul_le_mul_of_nonneg_right (by omega) h0;omega
 have hr:=run_make (P:=P) w t e i zv hu hi hzv kl kc m m h0 (Int.le_refl _) hbb (by omega);refine⟨e,_,hr,fun x hx=>hc.1 x (Zd3 z _ x hx),?_,fun j g1 g2 => ?_⟩
 ·rw[size_madeCells,Kp,hs]
 ·have hj:j<m.toNat*z.length:=by rw[<- Kp];exact g2
  have e1:=Zd4 z m.toNat j hj;rw[List.getElem?_eq_getElem g2] at e1;obtain⟨v,hv,hrv⟩:=hc.get e1.symm;have:(madeCells zv.cells (m.toNat*i.size))[j]'g1=v:=by
   have hv':zv.cells[j % zv.cells.size]?=some v:=by rw[hzs];exact hv
   simp[madeCells,getElem!_def,hv']
  rw[this];exact hrv
def W6 (w:World) (b off n:Nat):List Value:=(List.range n).map fun i=>(w.cell? ⟨b,off+i,none⟩).getD Go.undef
theorem Dh {b off:Nat} {cs:List AV} (h:V0 Y X w b off cs) :
  (W6 w b off cs.length).length=cs.length/\(∀ j u,(W6 w b off cs.length)[j]?=some u->w.cell? ((⟨b,off,none⟩:Addr).add j)=some u) /\
  (∀ (i:Nat) (h:i<cs.length),∃ u,(W6 w b off cs.length)[i]?=some u/\Rd Y X w u cs[i])/\∀ u∈W6 w b off cs.length,u.oneCell'=true:=by
 obtain⟨hd,hm⟩:=h;have hg:∀ (i:Nat) (h:i<cs.length),∃ u,(W6 w b off cs.length)[i]?=some u/\w.cell? ⟨b,off+i,none⟩=some u/\Rd Y X w u cs[i]:=by
  intro i hi;obtain⟨v,h1,h2⟩:=hm i hi;exact⟨v,by simp[W6,hi,h1],h1,h2⟩
 have hl:(W6 w b off cs.length).length=cs.length:=by simp[W6]
 refine⟨hl,fun j u hu => ?_,fun i hi => ?_,fun u hu => ?_⟩
 ·have hj:j<cs.length:=by
   have:=(List.getElem?_eq_some_iff.1 hu).1;omega
  obtain⟨v,h1,h2,_⟩:=hg j hj;rw[hu] at h1;cases h1;rw[Vp];exact h2
 ·obtain⟨v,h1,_,h3⟩:=hg i hi;exact⟨v,h1,h3⟩
 ·obtain⟨j,hj,rfl⟩:=List.getElem_of_mem hu;obtain⟨v,h1,_,h3⟩:=hg j (by omega);rw[List.getElem?_eq_getElem hj] at h1;cases h1;exact (V8 h3 (hd _ (List.getElem_mem _))).1
theorem Ui {t t' ty e e':TypeId} {i:TypeInfo} {args:Array Value} (h:P.underlying t=some (.slice e)) (hi:P.info? e=some i) (h':P.underlying t'=some (.slice e')) :
  (Builtin.append_ #[t,t'] ty args).run P w=(Builtin.append_ #[t,t] ty args).run P w:=by
 have hsz:(sizeOf e).run P w = .ok i.size w:=by simp[sizeOf,typeInfo,program,Sem.run,hi]
 simp only[Builtin.append_,List.getElem?_toArray,List.getElem?_cons_zero,List.getElem?_cons_succ];cases h0:args[0]? with
 | none=>rfl
 | some s =>
  cases h1:args[1]? with
  | none=>rfl
  | some x =>
   simp only[Sem.run_bind,run_underlying h,Result.andThen_ok];cases s <;> try rfl
   simp only[Sem.run_bind,hsz,run_underlying h,run_underlying h',Result.andThen_ok,Sem.run_pure]
theorem Zd6 {y:Value} {m:Nat} {ys:List AV} (h:Rd Y X w y (.sl m ys)):(m=0/\ys=[]/\(y = .slice none 0 0\/∃ p c,y = .slice (some p) 0 c))\/∃ b off cap,y = .slice (some ⟨b,off,none⟩) m cap/\V0 Y X w b off ys/\m<=cap/\(ys ≠ []->¬ X b):=by
 cases h with
 | nil0=>exact .inl ⟨rfl,rfl,.inl rfl⟩
 | e0 a c=>exact .inl ⟨rfl,rfl,.inr ⟨a,c,rfl⟩⟩
 | sl b off _ cap _ f hd hn hX hY hcell hr=>exact .inr ⟨b,off,cap,rfl,⟨hd,fun i hi=>⟨f i,hcell i hi,hr i hi⟩⟩,hn,hX⟩
def SlR (Y X:Nat->Prop) (w:World) (y:Value) (m:Nat) (ys:List AV):Prop:=(m=0/\ys=[]/\(y = .slice none 0 0\/∃ p c,y = .slice (some p) 0 c))\/∃ b off cap,y = .slice (some ⟨b,off,none⟩) m cap/\V0 Y X w b off ys/\m<=cap
theorem slr_of {y:Value} {m:Nat} {ys:List AV} (h:Rd Y X w y (.sl m ys)):SlR Y X w y m ys:=by
 rcases Zd6 h with h | ⟨b,off,cap,h1,h2,h3,_⟩
 ·exact .inl h
 ·exact .inr ⟨b,off,cap,h1,h2,h3⟩
theorem Nd {w':World} {e:TypeId} {k n:Nat} {v:Value} {xs:List Value} {cs:List AV} (hown:w'.ownsRow w.heap.size e k v n xs) (hn:0<n) (hd:Dat cs) (hl:cs.length=n*k) (hx:xs.length=cs.length)
  (hr:∀ (i:Nat) (h:i<cs.length),∃ u,xs[i]?=some u/\Rd Y X w' u cs[i]):Jr Y X w.heap.size w' v k n cs:=by
 obtain⟨_,h | ⟨g,cap,cur,rfl,hg,hh,hnc,_,hcs,htake⟩⟩:=hown
 ·omega
 ·have hle:n*k<=cap*k:=Nat.mul_le_mul_right _ hnc;refine .inr ⟨g,cap,rfl,hnc,hl,hg,⟨hd,cur,e,hh,by omega,fun i hi => ?_⟩,cur,e,hh,by omega⟩;obtain⟨u,h1,h2⟩:=hr i hi;refine⟨u,?_,h2⟩;rw[<- htake,List.getElem?_take_of_lt (by omega)] at h1;simpa using h1
theorem Nt {cs ys:List AV} (h1:Dat cs) (h2:Dat ys):Dat (cs++ys):=fun x hx=>(List.mem_append.1 hx).elim (h1 x) (h2 x)
theorem Ry {t e:TypeId} {i:TypeInfo} {B:Nat} (h:Tz P t B=true) (hu:P.underlying t=some (.slice e)) (hi:P.info? e=some i):B*i.bytes<=140737488355328/\B<=140737488355328:=by
 unfold Tz at h;simp only[hu,hi,Bool.and_eq_true,decide_eq_true_eq] at h;exact h
theorem Ef {t t' ty:TypeId} {k n m B:Nat} {cs ys:List AV} {x y:Value} (he:Vm P t k=true) (ht':Vo P t'=true) (hB:Tz P t B=true)
  (hx:(x = .slice none 0 0/\n=0/\cs=[]/\0<m)\/∃ b cap,x = .slice (some ⟨b,0,none⟩) n cap/\cap<n+m/\V0 Y X w b 0 cs) (hlen:cs.length=n*k) (hy:SlR Y X w y m ys) (hm0:0<m) (hylen:ys.length=m*k) (hnm:n+m<=B) :
  ∃ v' w',(Builtin.append_ #[t,t'] ty #[x,y]).run P w = .ok v' w'/\Below w.heap.size w w'/\Jr Y (fun c=>X c\/w.heap.size<=c) w.heap.size w' v' k (n+m) (cs++ys):=by
 obtain⟨e,i,zv,hu,hi,hs,hk,hb,hzv,hzs⟩:=J6 he;obtain⟨e',hu'⟩:=Xv ht';rw[Ui hu hi hu'];obtain⟨by_,boff,bcap,rfl,hmem,_⟩:=hy.resolve_left (fun h=>by have:=h.1;omega);obtain⟨n1,n2,n3,n4⟩:=Dh hmem;obtain⟨hB1,hB2⟩:=Ry hB hu hi;have hbytes:(n+m)*i.bytes<=140737488355328:=Nat.le_trans (Nat.mul_le_mul hnm (Nat.le_refl _)) hB1;have hmax:n+m<=maxLen:=by simp only[maxLen];omega
 rcases hx with ⟨rfl,rfl,rfl,hm⟩ | ⟨b,cap,rfl,hcap,hbm⟩
 ·obtain⟨v',w',hrun,r1,r2,_⟩:=run_append_own (P:=P) w w.heap.size t ty e i zv k i.bytes hu hi hzv hs rfl hzs hk (.slice none 0 0) 0 [] (World.ownsRow_nil w _ e k) ⟨by_,boff,none⟩ m bcap _ (by rw[n1,hylen]) n2 n4 hmax hbytes (Nat.le_refl _);have hbel:Below w.heap.size w w':=⟨r2.os,r2.tape,r2.output,r2.size,fun c hc=>r2.block c hc (by simp[Value.ownBlock])⟩;refine⟨v',w',hrun,hbel,?_⟩;simp only[List.nil_append];refine Nd r1 (by omega) hmem.1 (by rw[hylen,Nat.zero_add]) (by simp[n1]) (fun j hj => ?_);obtain⟨u,h1,h2⟩:=n3 j hj;exact⟨u,by simpa using h1,(h2.mono fun b hb=>hb).world fun c _ hc=>hbel.block c hc⟩
 ·obtain⟨o1,o2,o3,o4⟩:=Dh hbm;obtain⟨v',w',hrun,r1,r2⟩:=run_append_arg_grows (P:=P) w t ty e i zv k i.bytes hu hi hzv hs rfl hzs hk ⟨b,0,none⟩ n cap _ (by rw[o1,hlen]) o2 ⟨by_,boff,none⟩ m bcap _ (by rw[n1,hylen]) n2 hcap hmax hbytes;have hbel:Below w.heap.size w w':=⟨r2.os,r2.tape,r2.output,r2.size,fun c hc=>r2.block c hc (by simp)⟩;refine⟨v',w',hrun,hbel,?_⟩;refine Nd r1 (by omega) (Nt hbm.1 hmem.1) (by rw[List.length_append,hlen,hylen,Nat.add_mul]) (by simp[o1,n1]) (fun j hj => ?_);by_cases hj1:j<cs.length
  ·obtain⟨u,h1,h2⟩:=o3 j hj1;refine⟨u,by rw[List.getElem?_append_left (by omega)];exact h1,?_⟩;rw[List.getElem_append_left hj1];exact (h2.mono fun b hb=>hb).world fun c _ hc=>hbel.block c hc
  ·have hj2:j-cs.length<ys.length:=by simp at hj;omega
   obtain⟨u,h1,h2⟩:=n3 _ hj2;refine⟨u,by rw[List.getElem?_append_right (by omega),o1];exact h1,?_⟩;rw[List.getElem_append_right (by omega)];exact (h2.mono fun b hb=>hb).world fun c _ hc=>hbel.block c hc
theorem Sv {t t' ty:TypeId} {k n m b cap:Nat} {cs ys:List AV} {y:Value} (he:Vm P t k=true) (ht':Vo P t'=true) (hcap:n+m<=cap) (hX:X b)
  (hblk:Xq Y X w b 0 cs) (hroom:Zon w b (cap*k)) (hlen:cs.length=n*k) (hy:SlR Y X w y m ys) (hy0:m ≠ 0) (hylen:ys.length=m*k) :
  ∃ w',(Builtin.append_ #[t,t'] ty #[.slice (some ⟨b,0,none⟩) n cap,y]).run P w = .ok (.slice (some ⟨b,0,none⟩) (n+m) cap) w'/\w'.os=w.os/\w'.tape=w.tape/\w'.output=w.output/\w'.heap.size=w.heap.size /\
   (∀ c,c ≠ b->w'.heap[c]?=w.heap[c]?)/\Xq Y X w' b 0 (cs++ys)/\Zon w' b (cap*k):=by
 obtain⟨e,i,zv,hu,hi,hs,hk,hb,hzv,hzs⟩:=J6 he;obtain⟨e',hu'⟩:=Xv ht';rw[Ui hu hi hu'];obtain⟨by_,boff,bcap,rfl,hmem,_⟩:=hy.resolve_left (fun h=>hy0 h.1);obtain⟨n1,n2,n3,n4⟩:=Dh hmem;obtain⟨hdat,vs,T,hh,_,hcell⟩:=hblk;obtain⟨vs',T',hh',hsz⟩:=hroom;rw[hh] at hh';cases hh';have hle:(n+m)*k<=cap*k:=Nat.mul_le_mul_right _ hcap;rw[Nat.add_mul] at hle;generalize hnews:W6 w by_ boff ys.length=news at *
 have hf:=run_firstCells_some (P:=P) w i.size m ⟨by_,boff,none⟩ m bcap news (by rw[n1,hylen,hs]) n2;have hst:=run_storeCells_at P b (n*i.size) T news 0 vs w hh (by rw[hs,n1,hylen];omega) n4;simp only[Nat.add_zero] at hst;have hext:∀ c,¬ X c->c<w.heap.size->(w.setRow b (List.take (n*i.size) vs.toList++news++List.drop (n*i.size+news.length) vs.toList).toArray).heap[c]?=w.heap[c]?:=fun c hc _=>U9 _ _ _ _ (fun e=>hc (e ▸ hX));have hrow:=setRow_heap w b vs (List.take (n*i.size) vs.toList++news++List.drop (n*i.size+news.length) vs.toList).toArray T (0,0) hh;have hsize:(List.take (n*i.size) vs.toList++news++List.drop (n*i.size+news.length) vs.toList).toArray.size=vs.size:=by
  simp only[List.size_toArray,List.length_append,List.length_take,List.length_drop,Array.length_toList,n1,hylen,hs];omega
 refine⟨w.setRow b (List.take (n*i.size) vs.toList++news++List.drop (n*i.size+news.length) vs.toList).toArray,?_,rfl,rfl,rfl,Wx _ _ _,fun c hc=>U9 _ _ _ _ hc,⟨Nt hdat hmem.1,_,T,hrow,?_,fun j hj => ?_⟩,⟨_,T,hrow,by rw[hsize];exact hsz⟩⟩
 ·simp[Builtin.append_,run_underlying hu,sizeOf,typeInfo,hi,Builtin.lenOf,hcap,hf,Addr.add_lit,hst]
 ·rw[hsize,List.length_append,hlen,hylen];omega
 ·have ht:(vs.toList.take (n*i.size)).length=n*k:=by simp only[List.length_take,Array.length_toList,hs];omega
  simp only[Nat.zero_add,List.getElem?_toArray];by_cases hj1:j<cs.length
  ·obtain⟨u,h1,h2⟩:=hcell j hj1;refine⟨u,?_,?_⟩
   ·rw[List.append_assoc,List.getElem?_append_left (by omega),List.getElem?_take_of_lt (by rw[hs];omega)];simpa using h1
   ·rw[List.getElem_append_left hj1];exact h2.world hext
  ·have hj2:j-cs.length<ys.length:=by simp at hj;omega
   obtain⟨u,h1,h2⟩:=n3 _ hj2;refine⟨u,?_,?_⟩
   ·rw[List.getElem?_append_left (by simp only[List.length_append,ht,n1];simp at hj;omega),List.getElem?_append_right (by omega),ht,<- hlen];exact h1
   ·rw[List.getElem_append_right (by omega)];exact h2.world hext
theorem append_nil {t t' ty:TypeId} {k:Nat} (he:Vm P t k=true) (ht':Vo P t'=true):(Builtin.append_ #[t,t'] ty #[.slice none 0 0,.slice none 0 0]).run P w = .ok (.slice none 0 0) w:=by
 obtain⟨e,i,zv,hu,hi,hs,hk,hb,hzv,hzs⟩:=J6 he;obtain⟨e',hu'⟩:=Xv ht';rw[Ui hu hi hu'];simp[Builtin.append_,run_underlying hu,sizeOf,typeInfo,hi,Builtin.lenOf,Builtin.firstCells]
theorem Ee {t t' ty:TypeId} {k c:Nat} {p:Addr} (he:Vm P t k=true) (ht':Vo P t'=true):(Builtin.append_ #[t,t'] ty #[.slice none 0 0,.slice (some p) 0 c]).run P w = .ok (.slice none 0 0) w:=by
 obtain⟨e,i,zv,hu,hi,hs,hk,hb,hzv,hzs⟩:=J6 he;obtain⟨e',hu'⟩:=Xv ht';rw[Ui hu hi hu'];have hf:=run_firstCells_some (P:=P) w i.size 0 p 0 c [] (by simp) (by simp);simp[Builtin.append_,run_underlying hu,sizeOf,typeInfo,hi,Builtin.lenOf,hf]
theorem Ed {t t' ty:TypeId} {k n b cap:Nat} (he:Vm P t k=true) (ht':Vo P t'=true) (hn:n<=cap) :
  (Builtin.append_ #[t,t'] ty #[.slice (some ⟨b,0,none⟩) n cap,.slice none 0 0]).run P w = .ok (.slice (some ⟨b,0,none⟩) n cap) w:=by
 obtain⟨e,i,zv,hu,hi,hs,hk,hb,hzv,hzs⟩:=J6 he;obtain⟨e',hu'⟩:=Xv ht';rw[Ui hu hi hu'];simp[Builtin.append_,run_underlying hu,sizeOf,typeInfo,hi,Builtin.lenOf,Builtin.firstCells,hn,storeCells]
theorem Dw {t t' ty:TypeId} {k n b cap c:Nat} {p:Addr} (he:Vm P t k=true) (ht':Vo P t'=true) (hn:n<=cap) :
  (Builtin.append_ #[t,t'] ty #[.slice (some ⟨b,0,none⟩) n cap,.slice (some p) 0 c]).run P w = .ok (.slice (some ⟨b,0,none⟩) n cap) w:=by
 obtain⟨e,i,zv,hu,hi,hs,hk,hb,hzv,hzs⟩:=J6 he;obtain⟨e',hu'⟩:=Xv ht';rw[Ui hu hi hu'];have hf:=run_firstCells_some (P:=P) w i.size 0 p 0 c [] (by simp) (by simp);simp[Builtin.append_,run_underlying hu,sizeOf,typeInfo,hi,Builtin.lenOf,hf,hn,storeCells]
theorem Fj {len cap m h l:Nat} {lo hi mx:Option Value} (hmx:(mx=none/\m=cap)\/∃ k i,mx=some (.int k i)/\0<=i/\i.toNat=m/\m<=cap) (hhi:(hi=none/\mx=none/\h=len)\/∃ k i,hi=some (.int k i)/\0<=i/\i.toNat=h/\h<=m)
  (hlo:(lo=none/\l=0)\/∃ k i,lo=some (.int k i)/\0<=i/\i.toNat=l/\l<=h):(Instr.sliceBounds true len cap lo hi mx).run P w = .ok (l,h,m) w:=by
 have hb:∀ (k:IntKind) (i:Int) (y n:Nat) (code:BoundsCode),0<=i->i.toNat=n->n<=y->(Instr.sliceBound (.int k i) y code).run P w = .ok n w:=by
  intro k i y n code h0 h1 h2;rw[run_sliceBound w k i y code h0 (by omega),h1]
 rcases hmx with ⟨rfl,rfl⟩ | ⟨km,im,rfl,m0,m1,m2⟩ <;> rcases hhi with ⟨rfl,hh,rfl⟩ | ⟨kh,ih,rfl,h0,h1,h2⟩ <;> rcases hlo with ⟨rfl,rfl⟩ | ⟨kl,il,rfl,l0,l1,l2⟩;all_goals first
  | cases hh;done
  | simp only[Instr.sliceBounds,Sem.run_bind,Sem.run_pure,Result.andThen_ok]
 all_goals first
  | rfl
  | simp only[hb kl il _ l _ l0 l1 l2,Result.andThen_ok];done
  | simp only[hb kh ih _ h _ h0 h1 h2,Result.andThen_ok];done
  | simp only[hb kh ih _ h _ h0 h1 h2,hb kl il _ l _ l0 l1 l2,Result.andThen_ok];done
  | simp only[hb km im _ m _ m0 m1 m2,hb kh ih _ h _ h0 h1 h2,Result.andThen_ok];done
  | simp only[hb km im _ m _ m0 m1 m2,hb kh ih _ h _ h0 h1 h2,hb kl il _ l _ l0 l1 l2,Result.andThen_ok];done
theorem Gz {t:TypeId} {k len cap m h l:Nat} {a:Option Addr} {lo hi mx:Option Value} (he:Vm P t k=true) (hb:(Instr.sliceBounds true len cap lo hi mx).run P w = .ok (l,h,m) w) :
  (Instr.sliceAt t (.slice a len cap) lo hi mx).run P w = .ok (.slice (if m=l then a else a.map (·.add (l*k))) (h-l) (m-l)) w:=by
 obtain⟨e,i,zv,hu,hi',hs,hk,hb',hzv,hzs⟩:=J6 he;have hsz:(sizeOf e).run P w = .ok k w:=by simp[sizeOf,typeInfo,program,Sem.run,hi',hs]
 simp only[Instr.sliceAt,Sem.run_bind,run_underlying hu,Result.andThen_ok,Instr.slice,hb,hsz,Sem.run_pure]
theorem Zjg {v:Value} {n l h m k:Nat} {cs:List AV} (hv:Rd Y X w v (.sl n cs)) (hlh:l<=h) (hhn:h<=n) :
  ∃ a cap,v = .slice a n cap/\n<=cap/\(h<=m->(a=none->m=0)->Rd Y X w (.slice (if m=l then a else a.map (·.add (l*k))) (h-l) (m-l)) (.sl (h-l) ((cs.drop (l*k)).take ((h-l)*k))))/\(a=none->cap=0):=by
 cases hv with
 | nil0 =>
  refine⟨none,0,rfl,Nat.le_refl _,fun _ hm => ?_,fun _=>rfl⟩;have h0:h=0:=by omega
  have l0:l=0:=by omega
  subst h0 l0;rw[hm rfl];simpa using Rd.nil0
 | e0 a c =>
  have h0:h=0:=by omega
  have l0:l=0:=by omega
  subst h0 l0;refine⟨some a,c,rfl,Nat.zero_le _,fun _ _ => ?_,fun h=>by cases h⟩;simp only[Nat.sub_zero,Nat.zero_mul,List.take_zero];split
  ·exact .e0 _ _
  ·exact .e0 _ _
 | sl b off _ cap _ f hd hn hX hY hcell hr =>
  refine⟨_,cap,rfl,hn,fun hhm _ => ?_,fun h=>by cases h⟩;have hlen:((cs.drop (l*k)).take ((h-l)*k)).length<=cs.length-l*k:=by simp only[List.length_take,List.length_drop];omega
  have hdat:Dat ((cs.drop (l*k)).take ((h-l)*k)):=fun x hx=>hd x (List.mem_of_mem_drop (List.mem_of_mem_take hx));by_cases hml:m=l
  ·have hh:h-l=0:=by omega
   rw[if_pos hml,hh,Nat.zero_mul,List.take_zero];exact .sl b off 0 (m-l) [] f (fun x hx=>by cases hx) (Nat.zero_le _) (fun h=>absurd rfl h) (fun ⟨c,hc,_⟩=>by cases hc) (fun i hi=>by simp at hi) (fun i hi=>by simp at hi)
  ·rw[if_neg hml];simp only[Option.map_some,Vp];refine .sl b (off+l*k) (h-l) (m-l) _ (fun i=>f (l*k+i)) hdat (by omega) (fun hne=>hX (fun e=>hne (by rw[e];simp))) (fun ⟨c,hc,h1⟩=>hY ⟨c,List.mem_of_mem_drop (List.mem_of_mem_take hc),h1⟩) (fun i hi => ?_) (fun i hi => ?_)
   ·rw[Nat.add_assoc];exact hcell _ (by omega)
   ·have:=hr (l*k+i) (by omega);simpa using this
end
end Go.Ai

namespace Go.Ai
open Go.IntKind (i64 u64 u32)
open Go.RowKit
def W1 (roots:List (Nat × Nat)) (oks:List Nat) (dst:Option Nat):Bool:=roots.all fun p => !(some p.2==dst) || oks.contains p.1
def Zd1 (roots:List (Nat × Nat)) (dst:Option Nat) (d:Nat):Bool :=
 match dst with
 | some t=>roots.contains (t,d) && !(t==d)
 | none=>true
def Zkc (roots:List (Nat × Nat)) (dst:Option Nat) (ks:List Nat):Bool:=dst.isSome&&roots.all fun p => !(some p.2==dst) || ks.contains p.1
def Uk (roots:List (Nat × Nat)) (oks:List Nat) (dst:Option Nat):K->Bool
 | .new _ ks=>Zkc roots dst ks
 | .box _ ks=>Zkc roots dst ks
 | .adr _ d _=>W1 roots oks dst&&Zd1 roots dst d
 | .ixo _ d _ _=>W1 roots oks dst&&Zd1 roots dst d
 | .cpy x=>W1 roots oks dst&&Zd1 roots dst x
 | .st _ _ _ _=>dst.isNone
 | .bls _ _ _=>W1 roots oks dst&&dst.isSome
 | .blo _ _ _ _=>W1 roots oks dst&&dst.isSome
 | .mks _ _=>W1 roots oks dst&&dst.isSome
 | .tra _=>W1 roots oks dst&&dst.isSome
 | .apd _ _ _ _ _=>W1 roots oks dst&&dst.isSome
 | .clo _ _=>W1 roots oks dst&&dst.isSome
 | .nlo _=>W1 roots oks dst&&dst.isSome
 | .bdo _ _ l=>W1 roots (oks++l) dst&&dst.isSome
 | .cln _ _ l=>W1 roots (oks++l) dst&&dst.isSome
 | .stl x v=>dst.isNone&&roots.contains (x,v)
 | .fdo _=>W1 roots oks dst&&dst.isSome
 | .exo _=>W1 roots oks dst&&dst.isSome
 | .slo _ _ _=>W1 roots oks dst&&dst.isSome
 | _=>W1 roots oks dst
theorem Zo {s:Zg} {roots:List (Nat × Nat)} {oks:List Nat} {dst:Option Nat} (hkd:∀ t∈oks,Vc (Z7 s t)=false) (h:W1 roots oks dst=true):Free s roots dst:=by
 intro d hd t ht;simp only[W1,List.all_eq_true,Bool.or_eq_true,Bool.not_eq_true',beq_eq_false_iff_ne,ne_eq,List.contains_eq_mem,decide_eq_true_eq] at h;rcases h (t,d) ht with h1 | h1
 ·exact absurd hd.symm h1
 ·exact hkd t h1
theorem Nh {s:Zg} {oks ls:List Nat} (hkd:∀ t∈oks,Vc (Z7 s t)=false) (hls:(ls.all fun t=>Vy (Z7 s t))=true):∀ t∈oks++ls,Vc (Z7 s t)=false:=by
 intro t ht;rcases List.mem_append.1 ht with ht | ht
 ·exact hkd t ht
 ·exact Sh (List.all_eq_true.1 hls t ht)
theorem Hl {roots:List (Nat × Nat)} {dst:Option Nat} {d:Nat} (h:Zd1 roots dst d=true):∀ t,dst=some t->(t,d)∈roots/\t ≠ d:=by
 intro t ht;subst ht;simpa [Zd1] using h
theorem Nk {roots:List (Nat × Nat)} {dst:Option Nat} {ks:List Nat} (h:Zkc roots dst ks=true):dst.isSome=true/\∀ d,dst=some d->∀ t,(t,d)∈roots->t∈ks:=by
 simp only[Zkc,Bool.and_eq_true,List.all_eq_true,Bool.or_eq_true,Bool.not_eq_true',beq_eq_false_iff_ne,ne_eq,List.contains_eq_mem,decide_eq_true_eq] at h;refine⟨h.1,fun d hd t ht => ?_⟩;rcases h.2 (t,d) ht with h1 | h1
 ·exact absurd hd.symm h1
 ·exact h1
section
variable {P:Program} {Y X0:Nat->Prop} {roots:List (Nat × Nat)} {w0 w:World} {s:Zg} {a:Act} {Q:Exit->Act->World->Prop}
theorem Fi {w:World} {b off:Nat} {vs:Array Value} {T:TypeId} {fz:Nat × Nat} (h:w.heap[b]?=some (.cells vs T fz)):w.cell? ⟨b,off,none⟩=vs[off]?:=by
 simp only[World.cell?,h];rfl
theorem Ga {Y X:Nat->Prop} {w:World} {zero:List Value} (hz:0<zero.length):∀ (n:Nat) (z:List AV),Ma z zero n=true->z.length=n*zero.length ->
  Dat z/\∀ (i:Nat) (h:i<z.length),∃ v,zero[i % zero.length]?=some v/\Rd Y X w v z[i]
 | 0,z,_,hl=>by
  have:z=[]:=List.eq_nil_of_length_eq_zero (by simpa using hl);subst this;exact⟨fun x hx=>(by cases hx),fun i h=>(by simp at h)⟩
 | n+1,z,h,hl=>by
  simp only[Ma,Bool.and_eq_true] at h;obtain⟨h1,h2⟩:=h;have hl':z.length=n*zero.length+zero.length:=by rw[hl,Nat.succ_mul]
  obtain⟨hd,ih⟩:=Ga (Y:=Y) (X:=X) (w:=w) hz n (z.drop zero.length) h2 (by simp;omega);have hc:=W5 (Y:=Y) (X:=X) (w:=w) h1;refine⟨fun x hx => ?_,fun i hi => ?_⟩
  ·rw[<- List.take_append_drop zero.length z,List.mem_append] at hx;rcases hx with hx | hx
   ·exact hc.1 x hx
   ·exact hd x hx
  ·by_cases hlt:i<zero.length
   ·rw[Nat.mod_eq_of_lt hlt];have e:(z.take zero.length)[i]?=some z[i]:=by rw[List.getElem?_take_of_lt hlt,List.getElem?_eq_getElem hi]
    obtain⟨v,hv,hr⟩:=hc.get e;exact⟨v,by simpa using hv,hr⟩
   ·have hi2:i-zero.length<(z.drop zero.length).length:=by simp;omega
    obtain⟨v,hv,hr⟩:=ih (i-zero.length) hi2;have e1:(i-zero.length) % zero.length=i % zero.length:=by
     rw[<- Nat.add_mod_right (i-zero.length) zero.length];congr 1;omega
    have e2:(z.drop zero.length)[i-zero.length]=z[i]:=by
     rw[List.getElem_drop];congr 1;omega
    exact⟨v,e1 ▸ hv,e2 ▸ hr⟩
theorem Hf.world {Y X:Nat->Prop} {B:Nat} {tm:Array Value} {w w':World} {t:Nat} {v:Value} {r:Reg} (h:Hf Y X B roots tm w t v r) (hw:Below w.heap.size w w'):Hf Y X B roots tm w' t v r:=by
 cases r with
 | val x=>exact Rd.world h fun b _ hb=>hw.block b hb
 | box cs=>obtain⟨b,e1,e2,e3⟩:=h;exact⟨b,e1,e2,e3.world (fun c _ hc=>hw.block c hc) (hw.block b e3.lt)⟩
 | own k n cs=>exact Jr.world h (fun c _ hc=>hw.block c hc) (fun b _ hb=>hw.block b hb)
 | agn b k n cs=>exact Ua.world h (fun c _ hc=>hw.block c hc) (fun b _ hb=>hw.block b hb)
 | bxl d =>
  obtain⟨e1,b,e2,e3,e4,e5⟩:=h;exact⟨e1,b,e2,e3,Nat.lt_of_lt_of_le e4 hw.size,fun i hi=>by rw[<- e5 i hi];exact cell?_of_heap (hw.block b e4)⟩
 | mem cs=>obtain⟨b,off,e1,e2,e3⟩:=h;exact⟨b,off,e1,e2,e3.world (fun c _ hc=>hw.block c hc) (fun hb=>hw.block b hb)⟩
 | ptr d off=>exact h
 | dup d=>exact h
 | sub _ _ _ _=>exact h
 | dead=>trivial
theorem Zqi {Y X:Nat->Prop} {w:World} {t:TypeId} {n off:Nat} {one:Bool} {vs:Array Value} {cs:List AV} {x:AV} (ho:Mo P t n one=true) (hc:Q7 Y X w vs cs) (ht:Qg cs off n one=some x) :
  ∃ v,(part t vs off).run P w = .ok v w/\Rd Y X w v x:=by
 obtain⟨h1,h2⟩:=Hn ho;obtain⟨hd,hs,hr⟩:=hc;unfold Qg at ht;cases one with
 | true =>
  simp only[if_true] at ht;obtain⟨v,hv,hrv⟩:=Q7.get ⟨hd,hs,hr⟩ ht;exact⟨v,by simp[part,h1,hv],hrv⟩
 | false =>
  simp only[Bool.false_eq_true,if_false] at ht;split at ht
  ·rename_i hle;cases ht;refine⟨.agg (vs.extract off (off+n)),by simp[part,h1,h2],.agg _ _ (fun y hy=>hd y (List.mem_of_mem_drop (List.mem_of_mem_take hy))) (by simp;omega) (fun i g1 g2 => ?_)⟩;have hi:i<n:=by simp at g2;omega
   have:=hr (off+i) (by omega) (by omega);simpa using this
  ·cases ht
theorem Xk {x':Operand} {x:Nat} (h1:Ja x' (.t x)=true):a.eval x'=a.tmps.getD x Go.undef:=by
 cases x' <;> simp only[Ja] at h1 <;> try cases h1
 simp only[beq_iff_eq] at h1;subst h1;rfl
theorem F7 {o:Oper} {x:Nat} (h:Zet o.op x=true):(execOp a.eval o).run P w = .ok (.value (a.tmps.getD x Go.undef)) w:=by
 unfold Zet at h;split at h
 ·rename_i y hop;simp[execOp,hop,Xk (a:=a) h]
 ·rename_i y hop;simp[execOp,hop,Xk (a:=a) h]
 ·cases h
theorem Zow {x:Opd} {v:AV} (h:x.reg s = .val v):x.av s=some v:=by simp only [Opd.av,h]
theorem Zd5 {x:Opd} {k n:Nat} {cs:List AV} (h:x.reg s = .own k n cs):∃ m,x = .t m:=by
 cases x with
 | t m=>exact⟨m,rfl⟩
 | c y=>simp only[Opd.reg] at h;cases h
theorem Bf {Y X X':Nat->Prop} {B B':Nat} {w':World} {v:Value} {k n:Nat} {cs:List AV} (hB:B<=B') (h:Jr Y (fun c=>X c\/Z3 v=some c) B' w' v k n cs) (hX:∀ b,X' b->X b\/(B'<=b/\Z3 v=some b)):Jr Y X' B w' v k n cs :=
 (h.mono fun c hc => .inl ((hX c hc).imp id And.right)).lower hB
theorem Ds {s:Zg}:∀ {ps:List (Nat × Nat × Opd)} {cs cs':List AV},Wq s cs ps=some cs'->cs'.length=cs.length
 | [],cs,cs',h=>by simp only[Wq,Option.some.injEq] at h;rw[h]
 | (off,n,o)::ps,cs,cs',h=>by
  simp only[Wq] at h;split at h
  ·cases h
  ·split at h
   ·cases h
   ·split at h
    ·cases h
    ·rename_i hl;rw[Ds h,(Da hl).2.1]
theorem Zeo (h:Rel Y X0 roots w0 s a w) {d k n:Nat} {cells:Array Value} {cs:List AV} {T:TypeId} (hks:∀ t,(t,d)∈roots->Vc (Z7 s t)=false) (hc:Q7 Y (fun b=>X0 b\/XS s a.tmps b) w cells cs) (hl:cs.length=n*k) :
  Rel Y X0 roots w0 (Wb s (some d) (.own k n cs)) (a.put (some d) (.slice (some ⟨w.heap.size,0,none⟩) n n)) (w.alloc (.cells cells T)):=by
 refine Rel.write (ks:=[]) h ((Below.refl _ _).alloc (Nat.le_refl _) _) (fun t ht => .inr (hks t ht)) (fun _ b hb=>by simp only[Z3,Kc,Option.map_some,Option.some.injEq] at hb;omega) (fun X h1 _ => ?_);have hc':=(hc.mono (X':=X) (fun b hb=>(h1 b hb).imp id And.left)).world (w':=w.alloc (.cells cells T)) (fun b _ hb=>Below.heap_alloc _ _ _ hb);have hh:(w.alloc (.cells cells T)).heap[w.heap.size]?=some (.cells cells T (0,0)):=by show (w.heap.push _)[w.heap.size]?=_;simp
 have hs:=hc.2.1;refine .inr ⟨w.heap.size,n,rfl,Nat.le_refl _,hl,h.below.size,⟨hc.1,cells,T,hh,by omega,fun i hi => ?_⟩,cells,T,hh,by omega⟩;exact⟨cells[i]'(by omega),by rw[Nat.zero_add,Array.getElem?_eq_getElem],hc'.2.2 i (by omega) hi⟩
theorem Zaa {Y X:Nat->Prop} {B d:Nat} {tm:Array Value} {w:World} {v:Value} {k n:Nat} {cs:List AV} {ow:Bool} (h:Jr Y X B w v k n cs) (hn:ow=false->∀ b,Z3 v=some b->¬ X b) (hY:∀ b,Y b->b<B):Hf Y X B roots tm w d v (if ow then .own k n cs else .val (.sl n cs)):=by
 cases ow with
 | true=>exact h
 | false=>exact Jr.frozen h (fun b hb => .inl hb) (hn rfl) hY
def cap0:Value->Nat
 | .slice _ _ c=>c
 | _=>0
theorem Bn (h:Rel Y X0 roots w0 s a w) {o:Option Opd} {o':Option Operand} {d n:Nat} (ho:Ziu o' o=true) (hb:Ec s d o=some n):(o=none/\o'=none/\n=d)\/∃ x,o=some x/\∃ k i,o'.map a.eval=some (.int k i)/\0<=i/\i.toNat=n:=by
 cases o with
 | none =>
  cases o' with
  | none=>simp only[Ec,Option.some.injEq] at hb;exact .inl ⟨rfl,rfl,hb.symm⟩
  | some y=>cases ho
 | some x =>
  cases o' with
  | none=>cases ho
  | some y =>
   simp only[Ziu] at ho;simp only[Ec] at hb;split at hb
   ·rename_i k i hi;split at hb
    ·rename_i h0;cases hb;have:=Q9 h ho hi;generalize hv:a.eval y=v at this;cases this;exact .inr ⟨x,rfl,k,i,by simp[hv],h0,rfl⟩
    ·cases hb
   ·cases hb
theorem Zpd (h:Rel Y X0 roots w0 s a w) {o:Option Opd} {o':Option Operand} {l hh:Nat} (ho:Ziu o' o=true) (hb:Ec s 0 o=some l) (hle:l<=hh):(o'.map a.eval=none/\l=0)\/∃ k i,o'.map a.eval=some (.int k i)/\0<=i/\i.toNat=l/\l<=hh:=by
 rcases Bn h ho hb with ⟨_,rfl,rfl⟩ | ⟨_,_,k,i,h1,h2,h3⟩
 ·exact .inl ⟨rfl,rfl⟩
 ·exact .inr ⟨k,i,h1,h2,h3,hle⟩
theorem bnd_mx (h:Rel Y X0 roots w0 s a w) {o:Option Opd} {o':Option Operand} {d m cap:Nat} (ho:Ziu o' o=true) (hb:Ec s d o=some m) (hd:d=cap) (hle:m<=cap):(o'.map a.eval=none/\m=cap)\/∃ k i,o'.map a.eval=some (.int k i)/\0<=i/\i.toNat=m/\m<=cap:=by
 rcases Bn h ho hb with ⟨_,rfl,rfl⟩ | ⟨_,_,k,i,h1,h2,h3⟩
 ·exact .inl ⟨rfl,hd⟩
 ·exact .inr ⟨k,i,h1,h2,h3,hle⟩
theorem bnd_m (h:Rel Y X0 roots w0 s a w) {o:Option Opd} {o':Option Operand} {d m cap:Nat} (ho:Ziu o' o=true) (hb:Ec s d o=some m) (hle:m<=cap):(o'.map a.eval=none/\(if o.isSome then m else cap)=cap)\/∃ k i,o'.map a.eval=some (.int k i)/\0<=i/\i.toNat=(if o.isSome then m else cap)/\(if o.isSome then m else cap)<=cap:=by
 rcases Bn h ho hb with ⟨rfl,rfl,rfl⟩ | ⟨x,rfl,k,i,h1,h2,h3⟩
 ·exact .inl ⟨rfl,rfl⟩
 ·exact .inr ⟨k,i,h1,h2,h3,hle⟩
theorem bnd_h (h:Rel Y X0 roots w0 s a w) {o om:Option Opd} {o' om':Option Operand} {n hh mm:Nat} (ho:Ziu o' o=true) (hom:Ziu om' om=true) (hb:Ec s n o=some hh) (hs:om.isSome->o.isSome) (h1:om.isSome=true->hh<=mm) (h2:¬ om.isSome=true->hh<=mm) :
  (o'.map a.eval=none/\om'.map a.eval=none/\hh=n)\/∃ k i,o'.map a.eval=some (.int k i)/\0<=i/\i.toNat=hh/\hh<=mm:=by
 rcases Bn h ho hb with ⟨rfl,rfl,rfl⟩ | ⟨x,rfl,k,i,g1,g2,g3⟩
 ·refine .inl ⟨rfl,?_,rfl⟩;cases om with
  | none=>cases om' with | none=>rfl | some y=>cases hom
  | some z=>have:=hs rfl;cases this
 ·refine .inr ⟨k,i,g1,g2,g3,?_⟩;by_cases hh:om.isSome=true
  ·exact h1 hh
  ·exact h2 hh
theorem Ak (h:Rel Y X0 roots w0 s a w) {w':World} (hw:Below w.heap.size w w') {d k n:Nat} {v:Value} {cs:List AV} {ow:Bool} {ks:List Nat} (hks:∀ t,(t,d)∈roots->t∈ks\/Vc (Z7 s t)=false)
  (hown:Jr Y (fun c=>(X0 c\/XS s a.tmps c)\/w.heap.size<=c) w.heap.size w' v k n cs) :
  Rel Y X0 roots w0 (Wb (Qx s (ks.map fun u=>(u,Reg.dead))) (some d) (if ow then .own k n cs else .val (.sl n cs))) (a.put (some d) v) w':=by
 refine Rel.write h hw hks (fun _ b hb=>(Jr.block hown hb).1) (fun X g1 g2 => ?_);have hown':Jr Y X w0.heap.size w' v k n cs:=(hown.mono fun c hc => .inl ((g1 c hc).imp id And.left)).lower h.below.size;refine Zaa hown' (fun he c hc hXc => ?_) h.lowY;subst he;have h1:=(Jr.block hown hc).1;have:=h.lowX c (g2 rfl c hXc);omega
theorem G4 (h:Rel Y X0 roots w0 s a w) {d k:Nat} {ow:Bool} {ks:List Nat} (hks:∀ t,(t,d)∈roots->t∈ks\/Vc (Z7 s t)=false) :
  Rel Y X0 roots w0 (Wb (Qx s (ks.map fun u=>(u,Reg.dead))) (some d) (if ow then .own k 0 [] else .val (.sl 0 []))) (a.put (some d) (.slice none 0 0)) w :=
 Ak h (Below.refl _ _) hks (.inl ⟨rfl,rfl,rfl⟩)
set_option maxHeartbeats 4000000 in
theorem simK {o : Oper} {k : K} {oks : List Nat} {F : Qd} {r : Reg} {l : List (Nat × Reg)} {K' : Act → World → Prop} (h : Rel Y X0 roots w0 s a w) (hF : D1 P F) (hk : kOk P o.op k = true) (hkd : ∀ t ∈ oks, Vc (Z7 s t) = false) (hro : Uk roots oks o.dst k = true)
  (hev : evK F s k = some (r, l)) (hK : ∀ a' w', Rel Y X0 roots w0 (Wb (Qx s l) o.dst r) a' w' → K' a' w') : o.wp P a w K' Q := by
 cases k
 case bad => cases hev
 case mov y =>
  simp only[evK, Option.map_eq_some_iff] at hev;obtain⟨x, hx, he⟩ := hev;cases he;simp only[kOk] at hk;split at hk
  ·rename_i z hop;exact Z5 (v := a.eval z) (by simp[execOp, hop]) (hK _ _ (h.put (Zo hkd hro) (Q9 h hk hx)))
  ·rename_i z hop;exact Z5 (v := a.eval z) (by simp[execOp, hop]) (hK _ _ (h.put (Zo hkd hro) (Q9 h hk hx)))
  ·cases hk
 case pick c x y =>
  simp only[kOk] at hk;split at hk
  ·rename_i c' x' y' hop;simp only[Bool.and_eq_true] at hk;obtain⟨⟨h1, h2⟩, h3⟩ := hk;simp only[evK] at hev;split at hev
   ·rename_i hc;simp only[Option.map_eq_some_iff] at hev;obtain⟨v, hv, he⟩ := hev;cases he;have hcr := Q9 h h1 hc;generalize hcv : a.eval c' = cv at hcr;cases hcr;exact Z5 (v := a.eval x') (by simp[execOp, hop, hcv, asBool]) (hK _ _ (h.put (Zo hkd hro) (Q9 h h2 hv)))
   ·rename_i hc;simp only[Option.map_eq_some_iff] at hev;obtain⟨v, hv, he⟩ := hev;cases he;have hcr := Q9 h h1 hc;generalize hcv : a.eval c' = cv at hcr;cases hcr;exact Z5 (v := a.eval y') (by simp[execOp, hop, hcv, asBool]) (hK _ _ (h.put (Zo hkd hro) (Q9 h h3 hv)))
   ·cases hev
  ·cases hk
 case bin op x y =>
  simp only[kOk] at hk;split at hk
  ·rename_i op' t x' y' t' hop;simp only[Bool.and_eq_true, beq_iff_eq] at hk;obtain⟨⟨rfl, h1⟩, h2⟩ := hk;simp only[evK] at hev;split at hev
   ·rename_i xa ya hx hy;simp only[Option.map_eq_some_iff] at hev;obtain⟨z, hz, he⟩ := hev;cases he;have hxr := Q9 h h1 hx;have hyr := Q9 h h2 hy;generalize hxv : a.eval x' = xv at hxr;generalize hyv : a.eval y' = yv at hyr;cases xa <;> cases ya <;> simp only[Zcb] at hz <;> try cases hz
    cases hxr;cases hyr;obtain⟨v, hrun, hr⟩ := Zq9 (P := P) (w := w) (t := t) (Y := Y) (X := fun b => X0 b ∨ XS s a.tmps b) (by simpa only [Zcb] using hz);exact Z5 (v := v) (by simp[execOp, hop, hxv, hyv, B7, hrun]) (hK _ _ (h.put (Zo hkd hro) hr))
   ·cases hev
  ·cases hk
 case eqb neg x y =>
  simp only[kOk] at hk;split at hk
  ·rename_i op' t x' y' t' hop;simp only[Bool.and_eq_true, beq_iff_eq] at hk;obtain⟨⟨⟨rfl, h0⟩, h1⟩, h2⟩ := hk;simp only[evK] at hev;split at hev
   ·rename_i xa ya hx hy;cases hev;have hxr := Q9 h h1 hx;have hyr := Q9 h h2 hy;generalize hxv : a.eval x' = xv at hxr;generalize hyv : a.eval y' = yv at hyr;cases hxr;cases hyr;have ht : P.underlying t = some .bool := by
     unfold Zff at h0;split at h0
     ·assumption
     ·cases h0
    have heq : (Op.equal t (.bool xa) (.bool ya)).run P w = .ok (xa == ya) w := run_equalIn_bool' w 9999 t xa ya ht;refine Z5 (v := .bool (if neg then !(xa == ya) else xa == ya)) ?_ (hK _ _ (h.put (Zo hkd hro) (.bool _)));cases neg
    ·simp only[Bool.false_eq_true, if_false, execOp, hop, hxv, hyv, Sem.run_bind, Ka, Result.andThen_ok, binOp, heq, Sem.run_pure]
    ·simp only[if_true, execOp, hop, hxv, hyv, Sem.run_bind, Ka, Result.andThen_ok, binOp, heq, Sem.run_pure]
   ·cases hev
  ·cases hk
 case un op x =>
  simp only[kOk] at hk;split at hk
  ·rename_i op' t x' hop;simp only[Bool.and_eq_true, beq_iff_eq] at hk;obtain⟨rfl, h1⟩ := hk;simp only[evK] at hev;split at hev
   ·rename_i xa hx;simp only[Option.map_eq_some_iff] at hev;obtain⟨z, hz, he⟩ := hev;cases he;obtain⟨v, hrun, hr⟩ := unA_ok (P := P) (Q9 h h1 hx) hz;exact Z5 (v := v) (by simp[execOp, hop, hrun]) (hK _ _ (h.put (Zo hkd hro) hr))
   ·cases hev
  ·cases hk
 case cv k x =>
  simp only[kOk] at hk;split at hk
  ·rename_i src dst x' hop;simp only[Bool.and_eq_true] at hk;obtain⟨⟨h0, h1⟩, h2⟩ := hk;simp only[evK] at hev;split at hev
   ·rename_i k' n hx;cases hev;have hxr := Q9 h h2 hx;generalize hxv : a.eval x' = xv at hxr;cases hxr;split at h1
    ·rename_i k'' hd;simp only[beq_iff_eq] at h1;subst h1;unfold Zo2 at h0;split at h0
     ·rename_i ks hs;exact Z5 (v := .int k'' (k''.wrap n)) (by simp[execOp, hop, hxv, convert, run_underlying hs, run_underlying hd, Conv.intToInt]) (hK _ _ (h.put (Zo hkd hro) (.int _ _)))
     ·cases h0
    ·cases h1
   ·cases hev
  ·cases hk
 case new z ks =>
  simp only[kOk] at hk;split at hk
  ·rename_i t hop;cases hev;obtain⟨v, hz, hc⟩ := H8 hk;obtain⟨h1, h2⟩ := Nk hro;simp only[Oper.wp];have hrun : (execOp a.eval o).run P w = .ok (.value (.pointer (some ⟨w.heap.size, 0, none⟩))) (w.alloc (.cells v.cells t)) := by
    simp[execOp, hop, Instr.alloc, hz, newVar, newRow]
   rw[hrun];exact hK _ _ (Rel.newBox h h2 h1 (hc _ _ _))
  ·cases hk
 case box x ks =>
  simp only[kOk] at hk;split at hk
  ·rename_i t x' hop;obtain⟨h1, h2⟩ := Nk hro;have hrun : (execOp a.eval o).run P w = .ok (.value (.pointer (some ⟨w.heap.size, 0, none⟩))) (w.alloc (.cells (a.eval x').cells t)) := by
    simp[execOp, hop, Instr.box, newVar, newRow]
   simp only[Oper.wp, hrun];simp only[evK] at hev;split at hev
   ·rename_i cs hx;cases hev;have hc := (Fh (n := cs.length) (ys := cs) (Q9 h hk hx) (by simp[Vz])).2;exact hK _ _ (Rel.newBox h h2 h1 hc)
   ·rename_i y hy hx;split at hev
    ·rename_i hd;cases hev;have hc := (Fh (n := 1) (ys := [y]) (Q9 h hk hx) (by cases y <;> first | rfl | cases hd)).2
     exact hK _ _ (Rel.newBox h h2 h1 hc)
    ·cases hev
   ·cases hev
  ·cases hk
 case bld z ps =>
  simp only[kOk] at hk;split at hk
  ·rename_i t parts hop;simp only[evK, Option.map_eq_some_iff] at hev;obtain⟨cs, hcs, he⟩ := hev;cases he;simp only[bldOk, Bool.and_eq_true] at hk;obtain⟨hz, hk⟩ := hk;obtain⟨v, hzv, hc⟩ := H8 hz;split at hk
   ·rename_i fs hfs;simp only[Bool.and_eq_true] at hk;obtain⟨hall, hp⟩ := hk;have hplaces : (fs.mapM fun f => do pure (f.offset, ← sizeOf f.type) : Sem (Array (Nat × Nat))).run P w = .ok (fs.map fun f => (f.offset, P.cellsOf f.type)) w := by
     have key : ∀ (l : List Field), (∀ f ∈ l, (P.info? f.type).isSome = true) → (l.mapM fun f => do pure (f.offset, ← sizeOf f.type) : Sem (List (Nat × Nat))).run P w = .ok (l.map fun f => (f.offset, P.cellsOf f.type)) w := by
      intro l;induction l with
      | nil => intro _; rfl
      | cons f l ih =>
       intro hl;obtain⟨i, hi⟩ := Option.isSome_iff_exists.1 (hl f (List.mem_cons_self ..));have hsz : (sizeOf f.type).run P w = .ok (P.cellsOf f.type) w := by simp[sizeOf, typeInfo, program, Sem.run, hi, Program.cellsOf]
       simp only[List.mapM_cons, Sem.run_bind, hsz, Result.andThen_ok, Sem.run_pure, ih (fun g hg => hl g (List.mem_cons_of_mem _ hg)), List.map_cons]
     have := key fs.toList (fun f hf => by simp only[Array.all_eq_true_iff_forall_mem] at hall; exact hall f (by simpa using hf));rw[Array.mapM_eq_mapM_toList];simp only[Sem.run_map, this, Result.andThen_ok];congr 1;apply Array.ext';simp
    obtain⟨cells', e1, e2⟩ := A5 h (place := fun i => (fs.map fun f => (f.offset, P.cellsOf f.type))[i]?) (pl := Gl P fs) (fun i off n hi => by
     unfold Gl at hi;split at hi
     ·rename_i f hf;simp only[Bool.and_eq_true, beq_iff_eq] at hi;obtain⟨rfl, hsz⟩ := hi;unfold Hz at hsz;split at hsz
      ·rename_i ii hii;simp only[beq_iff_eq] at hsz;simp[hf, Program.cellsOf, hii, hsz]
      ·cases hsz
     ·cases hi) hp (hc _ _ w) hcs
    have e1' : Instr.fill (fun i => (fs.map fun f => (f.offset, P.cellsOf f.type))[i]?) v.cells (parts.map fun p => (p.1, a.eval p.2)).toList = some cells' := by rw[Array.toList_map]; exact e1
    refine Z5 (v := .agg cells') ?_ (hK _ _ (h.put (Zo hkd hro) (.agg cells' cs e2.1 e2.2.1 e2.2.2)));simp only[execOp, hop, Instr.build, Sem.run_bind, hzv, Result.andThen_ok, run_underlying hfs, hplaces, e1', Sem.run_pure]
   ·rename_i ln e hfs;simp only[Bool.and_eq_true] at hk;obtain⟨hall, hp⟩ := hk;obtain⟨ii, hii⟩ := Option.isSome_iff_exists.1 hall;have hsz : (sizeOf e).run P w = .ok (P.cellsOf e) w := by simp[sizeOf, typeInfo, program, Sem.run, hii, Program.cellsOf]
    obtain⟨cells', e1, e2⟩ := A5 h (place := fun i => some (i * P.cellsOf e, P.cellsOf e)) (fun i off n hi => by
     simp only[Bool.and_eq_true, beq_iff_eq] at hi;rw[hi.1, hi.2]) hp (hc _ _ w) hcs
    have e1' : Instr.fill (fun i => some (i * P.cellsOf e, P.cellsOf e)) v.cells (parts.map fun p => (p.1, a.eval p.2)).toList = some cells' := by rw[Array.toList_map]; exact e1
    refine Z5 (v := .agg cells') ?_ (hK _ _ (h.put (Zo hkd hro) (.agg cells' cs e2.1 e2.2.1 e2.2.2)));simp only[execOp, hop, Instr.build, Sem.run_bind, hzv, Result.andThen_ok, run_underlying hfs, hsz, e1', Sem.run_pure]
   ·cases hk
  ·cases hk
 case bls n z ps =>
  simp only[kOk] at hk;split at hk
  ·rename_i t len parts hop;simp only[evK, Option.map_eq_some_iff] at hev;obtain⟨cs, hcs, he⟩ := hev;cases he;simp only[Zkw, Bool.and_eq_true, beq_iff_eq] at hk;obtain⟨rfl, hk⟩ := hk;split at hk
   ·rename_i e hu;split at hk
    ·rename_i ii hii;simp only[Bool.and_eq_true, decide_eq_true_eq] at hk;obtain⟨⟨⟨h1, h2⟩, h3⟩, hp⟩ := hk;split at h3
     ·rename_i zv hzv;simp only[Bool.and_eq_true, decide_eq_true_eq, beq_iff_eq] at h3;obtain⟨⟨h3, h4⟩, h5⟩ := h3;have hz0 : 0 < zv.cells.toList.length := by simp only[Array.length_toList]; omega
      have hzl : zv.cells.toList.length = ii.size := by simp only[Array.length_toList]; exact h3
      obtain⟨hd, hg⟩ := Ga (Y := Y) (X := fun b => X0 b ∨ XS s a.tmps b) (w := w) hz0 len z h5 (by rw[h4, hzl]);have hszr : (sizeOf e).run P w = .ok ii.size w := by simp[sizeOf, typeInfo, program, Sem.run, hii]
      have hzr : (zeroValue e).run P w = .ok zv w := by simp[zeroValue, typeInfo, program, Sem.run, hii, hzv]
      have hc0 : Q7 Y (fun b => X0 b ∨ XS s a.tmps b) w ((Array.range (len * ii.size)).map fun j => zv.cells[j % zv.cells.size]!) z := by
       refine⟨hd, by simp[h4], fun i g1 g2 => ?_⟩;obtain⟨u, hu1, hu2⟩ := hg i g2;have e1 : zv.cells[i % zv.cells.size]! = u := by
        have : zv.cells[i % zv.cells.size]? = some u := by simpa using hu1
        simp[getElem!_def, this]
       simp only[Array.getElem_map, Array.getElem_range, e1];exact hu2
      obtain⟨cells', e1, e2⟩ := A5 h (place := fun i => some (i * ii.size, ii.size)) (fun i off n hi => by
       simp only[Bool.and_eq_true, beq_iff_eq] at hi;rw[hi.1, hi.2]) hp hc0 hcs
      have e1' : Instr.fill (fun i => some (i * ii.size, ii.size)) ((Array.range (len * ii.size)).map fun j => zv.cells[j % zv.cells.size]!) (parts.map fun p => (p.1, a.eval p.2)).toList = some cells' := by rw[Array.toList_map]; exact e1
      have e3 : len * ii.size = 0 → (Array.range (len * ii.size)).map (fun j => (#[] : Array Value)[j % (#[] : Array Value).size]!) = (Array.range (len * ii.size)).map fun j => zv.cells[j % zv.cells.size]! := fun hh => by rw[hh]; simp
      have hl1 : ¬ len * ii.size > 2 ^ 24 := by omega
      simp only[Uk, Bool.and_eq_true] at hro;obtain⟨d, hdst⟩ := Option.isSome_iff_exists.1 hro.2;have hrun : (execOp a.eval o).run P w = .ok (.value (.slice (some ⟨w.heap.size, 0, none⟩) len len)) (w.alloc (.cells cells' e)) := by
       by_cases hl0 : len * ii.size = 0
       ·simp only[execOp, hop, Instr.buildSlice, Sem.run_bind, run_underlying hu, Result.andThen_ok, hszr, hl1, if_false, if_pos hl0, Sem.run_pure, e3 hl0, e1', newRow, run_newObj_alloc]
       ·simp only[execOp, hop, Instr.buildSlice, Sem.run_bind, run_underlying hu, Result.andThen_ok, hszr, hl1, if_false, hl0, Sem.run_pure, hzr, e1', newRow, run_newObj_alloc]
      simp only[Oper.wp, hrun];refine hK _ _ ?_;rw[hdst];refine Rel.write (ks := []) h ((Below.refl _ _).alloc (Nat.le_refl _) _) (fun u hu => .inr (Zo hkd hro.1 d hdst u hu)) (fun he => (by cases he)) (fun X g1 g2 => ?_);have hc' := (e2.mono (X' := X) (fun b hb => (g1 b hb).imp id And.left)).world (w' := w.alloc (.cells cells' e)) (fun b _ hb => Below.heap_alloc _ _ _ hb);refine .sl w.heap.size 0 len len cs (fun i => cells'.getD i Go.undef) hc'.1 (Nat.le_refl _) (fun _ hx => ?_) (fun _ hy => Nat.lt_irrefl _ (h.lowYw _ hy)) (fun i hi => ?_) (fun i hi => ?_)
      ·exact Nat.lt_irrefl _ (h.lowX _ (g2 rfl _ hx))
      ·have hi2 : i < cells'.size := by rw[hc'.2.1]; exact hi
       have hb : (w.alloc (.cells cells' e)).heap[w.heap.size]? = some (.cells cells' e) := by show (w.heap.push _)[w.heap.size]? = _; simp
       rw[Fi hb];simp[hi2]
      ·have hi2 : i < cells'.size := by rw[hc'.2.1]; exact hi
       have := hc'.2.2 i hi2 hi;simpa [hi2] using this
     ·cases h3
    ·cases hk
   ·cases hk
  ·cases hk
 case adr x d off =>
  simp only[kOk] at hk;split at hk
  ·rename_i t x' fi hop;simp only[Bool.and_eq_true] at hk;obtain⟨h1, hk⟩ := hk;split at hk
   ·rename_i fs hfs;split at hk
    ·rename_i f hf;simp only[Bool.and_eq_true, beq_iff_eq, Bool.not_eq_true'] at hk;obtain⟨⟨rfl, h2⟩, h3⟩ := hk;simp only[Uk, Bool.and_eq_true] at hro;obtain⟨ii, hii⟩ := Option.isSome_iff_exists.1 h3;have hsz : ∀ w, (sizeOf f.type).run P w = .ok ii.size w := fun w => by simp[sizeOf, typeInfo, program, Sem.run, hii]
     have hne : ¬ ii.size = 0 := by
      intro e0;simp[Hz, hii, e0] at h2
     have hx' : a.eval x' = a.tmps.getD x Go.undef := by
      cases x' <;> simp only[Ja] at h1 <;> try cases h1
      simp only[beq_iff_eq] at h1;subst h1;rfl
     have hrun : ∀ b o0, a.eval x' = .pointer (some ⟨b, o0, none⟩) → (execOp a.eval o).run P w = .ok (.value (.pointer (some ⟨b, o0 + f.offset, none⟩))) w := by
      intro b o0 he;simp only[execOp, hop, Instr.fieldAt, Sem.run_bind, run_underlying hfs, Result.andThen_ok, hf, he, Instr.sureAddr, Sem.run_pure, fieldPlace, hsz, hne, if_false, Vp]
     have h0 := h.reg x;simp only[evK] at hev;cases hr : Z7 s x with
     | box cs =>
      rw[hr] at h0 hev;dsimp only at hev;split at hev
      ·rename_i hxd;subst hxd;cases hev;obtain⟨b, e1, _, _⟩ := h0;have := hrun b 0 (by rw[hx', e1]);refine Z5 this (hK _ _ ?_);exact Rel.putPtr (p := ⟨b, 0, none⟩) h (Zo hkd hro.1) (Hl hro.2) (by rw[e1]; rfl) rfl
      ·cases hev
     | ptr d' o0 =>
      rw[hr] at h0 hev;dsimp only at hev;split at hev
      ·rename_i hxd;subst hxd;cases hev;obtain⟨_, p, e1, e2, e3⟩ := h0;have := hrun p.block (p.off + o0) (by rw[hx', e3]);refine Z5 this (hK _ _ ?_);have hp := Rel.putPtr (off := o0 + f.offset) h (Zo hkd hro.1) (Hl hro.2) e1 e2;rw[← Nat.add_assoc] at hp;exact hp
      ·cases hev
     | mem cs =>
      rw[hr] at h0 hev;cases hev;obtain⟨b, o0, e1, e2, e3⟩ := h0;have := hrun b o0 (by rw[hx', e1]);refine Z5 this (hK _ _ ?_);refine Rel.putMem h (Zo hkd hro.1) (fun hne => e2 (fun hn => hne (by rw[hn]; simp))) (e3.drop _)
     | val x => rw[hr] at hev; cases hev
     | own _ _ _ => rw[hr] at hev; cases hev
     | agn _ _ _ _ => rw[hr] at hev; cases hev
     | bxl _ => rw[hr] at hev; cases hev
     | dup d => rw[hr] at hev; cases hev
     | sub _ _ _ _ => rw[hr] at hev; cases hev
     | dead => rw[hr] at hev; cases hev
    ·cases hk
   ·cases hk
  ·cases hk
 case ld x d n one =>
  simp only[kOk] at hk;split at hk
  ·rename_i t x' hop;simp only[Bool.and_eq_true] at hk;obtain⟨h1, h2⟩ := hk;have hx' : a.eval x' = a.tmps.getD x Go.undef := by
    cases x' <;> simp only[Ja] at h1 <;> try cases h1
    simp only[beq_iff_eq] at h1;subst h1;rfl
   have h0 := h.reg x;have fin : ∀ (b base off : Nat) (cs : List AV) (y : AV), a.eval x' = .pointer (some ⟨b, base + off, none⟩) → V0 Y (fun b => X0 b ∨ XS s a.tmps b) w b base cs → Qg cs off n one = some y →
     (∀ a' w', Rel Y X0 roots w0 (Wb s o.dst (.val y)) a' w' → K' a' w') → o.wp P a w K' Q := by
    intro b base off cs y he hm ht hK';obtain⟨v, hrun, hr⟩ := Ze1 (P := P) h2 hm ht;refine Z5 (v := v) ?_ (hK' _ _ (h.put (Zo hkd hro) hr));simp only[execOp, hop, Instr.loadAt, he, Instr.sureAddr, Sem.run_bind, Sem.run_pure, Result.andThen_ok, hrun]
   simp only[evK] at hev;cases hr : Z7 s x with
   | box cs =>
    rw[hr] at h0 hev;dsimp only at hev;split at hev
    ·simp only[Option.map_eq_some_iff] at hev;obtain⟨y, hy, he⟩ := hev;cases he;obtain⟨b, e1, _, e3⟩ := h0;exact fin b 0 0 cs y (by rw[hx', e1]) e3.mem hy hK
    ·cases hev
   | ptr d' off =>
    rw[hr] at h0 hev;dsimp only at hev;split at hev
    ·rename_i hd;subst hd;have h3 := h.reg d';cases hr2 : Z7 s d' with
     | box cs =>
      rw[hr2] at h3 hev;simp only[Option.map_eq_some_iff] at hev;obtain⟨y, hy, he⟩ := hev;cases he;obtain⟨b, e1, _, e3⟩ := h3;obtain⟨_, p, g1, g2, g3⟩ := h0;rw[e1] at g1;cases g1;exact fin b 0 off cs y (by rw[hx', g3]) e3.mem hy hK
     | val x => rw[hr2] at hev; cases hev
     | ptr _ _ => rw[hr2] at hev; cases hev
     | mem _ => rw[hr2] at hev; cases hev
     | own k n cs =>
      rw[hr2] at h3 hev;simp only[Option.map_eq_some_iff] at hev;obtain⟨y, hy, he⟩ := hev;cases he;obtain⟨_, p, g1, g2, g3⟩ := h0;rcases h3 with ⟨e1, _⟩ | ⟨b, cap, e1, _, _, _, e3, _⟩
      ·rw[e1] at g1; cases g1
      ·rw[e1] at g1;cases g1;exact fin b 0 off cs y (by rw[hx', g3]) e3.mem hy hK
     | agn _ _ _ _ => rw[hr2] at hev; cases hev
     | bxl _ => rw[hr2] at hev; cases hev
     | dup d => rw[hr2] at hev; cases hev
     | sub _ _ _ _ => rw[hr2] at hev; cases hev
     | dead => rw[hr2] at hev; cases hev
    ·cases hev
   | mem cs =>
    rw[hr] at h0 hev;simp only[Option.map_eq_some_iff] at hev;obtain⟨y, hy, he⟩ := hev;cases he;obtain⟨b, off, e1, _, e3⟩ := h0;exact fin b off 0 cs y (by simp[hx', e1]) e3 hy hK
   | val x => rw[hr] at hev; cases hev
   | own _ _ _ => rw[hr] at hev; cases hev
   | agn _ _ _ _ => rw[hr] at hev; cases hev
   | bxl _ => rw[hr] at hev; cases hev
   | dup d => rw[hr] at hev; cases hev
   | sub _ _ _ _ => rw[hr] at hev; cases hev
   | dead => rw[hr] at hev; cases hev
  ·cases hk
 case st x d n v =>
  simp only[kOk] at hk;split at hk
  ·rename_i t x' v' hop;simp only[Bool.and_eq_true] at hk;obtain⟨⟨h1, h2⟩, h3⟩ := hk;have hx' : a.eval x' = a.tmps.getD x Go.undef := by
    cases x' <;> simp only[Ja] at h1 <;> try cases h1
    simp only[beq_iff_eq] at h1;subst h1;rfl
   have hdst : o.dst = none := by simpa [Uk] using hro
   have h0 := h.reg x;simp only[evK] at hev;split at hev
   ·cases hev
   ·rename_i va hva;split at hev
    ·cases hev
    ·rename_i ys hys;obtain⟨hn, hc⟩ := Fh (Q9 h h3 hva) hys;have fin : ∀ (b off : Nat) (cs cs' : List AV), Z7 s d = .box cs → a.tmps.getD d Go.undef = .pointer (some ⟨b, 0, none⟩) → a.eval x' = .pointer (some ⟨b, off, none⟩) → U4 cs off ys = some cs' →
       (∀ a' w', Rel Y X0 roots w0 (s.set d (.box cs')) a' w' → K' a' w') → o.wp P a w K' Q := by
      intro b off cs cs' hrd hvd he hl hK';have h4 := h.reg d;rw[hrd] at h4;obtain⟨b', e1, hB, e3⟩ := h4;rw[hvd] at e1;cases e1;have hX : (fun b => X0 b ∨ XS s a.tmps b) b := .inr ⟨d, by rw[hrd]; rfl, by rw[hvd]; rfl⟩;obtain⟨w', hrun, g1, g2, g3, g4, g5, g6, g7⟩ := Ts (P := P) (Ww h2) e3 hX hc hn hl;have hrun' : (execOp a.eval o).run P w = .ok .skip w' := by
       simp only[execOp, hop, Instr.storeAt, he, Instr.sureAddr, Sem.run_bind, Sem.run_pure, Result.andThen_ok, hrun]
      simp only[Oper.wp, hrun', Oper.upon];rw[hdst];refine hK' _ _ (Rel.store h hrd rfl rfl (by rw[hvd]; rfl) hB g1 g2 g3 g4 g5 (fun X hX => ?_));exact⟨b, hvd, hB, g6.mono fun c hc => .inl ((hX c).1 hc)⟩
     have finO : ∀ (b off k m : Nat) (cs cs' : List AV), Z7 s d = .own k m cs → Z3 (a.tmps.getD d Go.undef) = some b → a.eval x' = .pointer (some ⟨b, off, none⟩) → U4 cs off ys = some cs' →
       (∀ a' w', Rel Y X0 roots w0 (s.set d (.own k m cs')) a' w' → K' a' w') → o.wp P a w K' Q := by
      intro b off k m cs cs' hrd hvd he hl hK';obtain⟨b', cap, e1, e2, e3, e4, e5, e6, hXb⟩ := (h.ownLow hrd).resolve_left (fun hh => by rw[hh.1] at hvd; cases hvd);have hbb : b' = b := by rw[e1] at hvd; simpa [Z3, Kc] using hvd
      subst hbb;obtain⟨w', hrun, g1, g2, g3, g4, g5, g6, g7⟩ := Ts (P := P) (Ww h2) e5 (.inr hXb) hc hn hl;have hrun' : (execOp a.eval o).run P w = .ok .skip w' := by
       simp only[execOp, hop, Instr.storeAt, he, Instr.sureAddr, Sem.run_bind, Sem.run_pure, Result.andThen_ok, hrun]
      simp only[Oper.wp, hrun', Oper.upon];rw[hdst];refine hK' _ _ (Rel.store h hrd rfl rfl hvd e4 g1 g2 g3 g4 g5 (fun X hX => ?_));refine .inr ⟨b', cap, e1, e2, by rw[(Da hl).2.1]; exact e3, e4, g6.mono fun c hc => .inl ((hX c).1 hc), g7 _ e6⟩
     rw[hdst] at hK;cases hr : Z7 s x with
     | box cs =>
      rw[hr] at h0 hev;dsimp only at hev;split at hev
      ·rename_i hxd;subst hxd;simp only[Option.map_eq_some_iff] at hev;obtain⟨cs', hl, he⟩ := hev;cases he;obtain⟨b, e1, _, _⟩ := h0;exact fin b 0 cs cs' hr e1 (by rw[hx', e1]) hl hK
      ·cases hev
     | ptr d' off =>
      rw[hr] at h0 hev;dsimp only at hev;split at hev
      ·rename_i hd;subst hd;have h5 := h.reg d';cases hr2 : Z7 s d' with
       | box cs =>
        rw[hr2] at h5 hev;simp only[Option.map_eq_some_iff] at hev;obtain⟨cs', hl, he⟩ := hev;cases he;obtain⟨b, e1, _, e3⟩ := h5;obtain⟨_, p, g1, g2, g3⟩ := h0;rw[e1] at g1;cases g1;exact fin b off cs cs' hr2 e1 (by rw[hx', g3]; simp) hl hK
       | val x => rw[hr2] at hev; cases hev
       | ptr _ _ => rw[hr2] at hev; cases hev
       | mem _ => rw[hr2] at hev; cases hev
       | own k m cs =>
        rw[hr2] at h5 hev;simp only[Option.map_eq_some_iff] at hev;obtain⟨cs', hl, he⟩ := hev;cases he;obtain⟨_, p, g1, g2, g3⟩ := h0;rcases h5 with ⟨e1, _⟩ | ⟨b, cap, e1, _, _, _, e3, _⟩
        ·rw[e1] at g1; cases g1
        ·rw[e1] at g1;cases g1;exact finO b off k m cs cs' hr2 (by rw[e1]; rfl) (by rw[hx', g3]; simp) hl hK
       | agn _ _ _ _ => rw[hr2] at hev; cases hev
       | bxl _ => rw[hr2] at hev; cases hev
       | dup d => rw[hr2] at hev; cases hev
       | sub _ _ _ _ => rw[hr2] at hev; cases hev
       | dead => rw[hr2] at hev; cases hev
      ·cases hev
     | val x => rw[hr] at hev; cases hev
     | mem _ => rw[hr] at hev; cases hev
     | own _ _ _ => rw[hr] at hev; cases hev
     | agn _ _ _ _ => rw[hr] at hev; cases hev
     | bxl _ => rw[hr] at hev; cases hev
     | dup d => rw[hr] at hev; cases hev
     | sub _ _ _ _ => rw[hr] at hev; cases hev
     | dead => rw[hr] at hev; cases hev
  ·cases hk
 case fld x off n one =>
  simp only[kOk] at hk;split at hk
  ·rename_i t x' fi hop;simp only[Bool.and_eq_true] at hk;obtain⟨h1, hk⟩ := hk;split at hk
   ·rename_i fs hfs;split at hk
    ·rename_i f hf;simp only[Bool.and_eq_true, beq_iff_eq] at hk;obtain⟨rfl, h2⟩ := hk;simp only[evK] at hev;split at hev
     ·rename_i cs hx;simp only[Option.map_eq_some_iff] at hev;obtain⟨y, hy, he⟩ := hev;cases he;have hxr := Q9 h h1 hx;generalize hxv : a.eval x' = xv at hxr;cases hxr with
      | agg vs _ hd hs hr =>
       obtain⟨v, hrun, hr⟩ := Zqi (P := P) h2 ⟨hd, hs, hr⟩ hy;refine Z5 (v := v) ?_ (hK _ _ (h.put (Zo hkd hro) hr));simp only[execOp, hop, Instr.field, Sem.run_bind, run_underlying hfs, Result.andThen_ok, hf, hxv, asAgg, Sem.run_pure, hrun]
     ·cases hev
    ·cases hk
   ·cases hk
  ·cases hk
 case ixa x i k =>
  simp only[kOk] at hk;split at hk
  ·rename_i t x' i' hop;simp only[Bool.and_eq_true] at hk;obtain⟨⟨h1, h2⟩, hk⟩ := hk;split at hk
   ·rename_i e hu;simp only[evK] at hev;split at hev
    ·rename_i ki iv hi;have hir := Q9 h h2 hi;generalize hiv : a.eval i' = ivv at hir;cases hir;have hx' : a.eval x' = a.tmps.getD x Go.undef := by
      cases x' <;> simp only[Ja] at h1 <;> try cases h1
      simp only[beq_iff_eq] at h1;subst h1;rfl
     have h0 := h.reg x;split at hev
     ·rename_i n cs hr;rw[hr] at h0;split at hev
      ·rename_i hb;cases hev;rw[← hx'] at h0;generalize hxv : a.eval x' = xv at h0;cases h0 with
       | nil0 => exact absurd hb (by omega)
       | e0 _ _ => exact absurd hb (by omega)
       | sl b off _ cap _ f hd hn hX hY hcell hrr =>
        have hmem : V0 Y (fun b => X0 b ∨ XS s a.tmps b) w b off cs := ⟨hd, fun j hj => ⟨f j, hcell j hj, hrr j hj⟩⟩;refine Z5 (v := .pointer (some ⟨b, off + iv.toNat * k, none⟩)) ?_ (hK _ _ ?_)
        ·simp only[execOp, hop, Instr.indexAt, Sem.run_bind, hiv, asIntOf, Sem.run_pure, Result.andThen_ok, run_underlying hu, hxv, hb, and_self, if_true, Ww hk, Vp]
        ·refine Rel.putMem h (Zo hkd hro) (fun hne => hX (fun hn => hne (by rw[hn]; simp))) (hmem.drop _)
      ·cases hev
     ·cases hev
    ·cases hev
   ·cases hk
  ·cases hk
 case six x i =>
  simp only[kOk] at hk;split at hk
  ·rename_i t x' i' hop;simp only[Bool.and_eq_true] at hk;obtain⟨⟨h1, h2⟩, hk⟩ := hk;split at hk
   ·rename_i hu;simp only[evK] at hev;split at hev
    ·rename_i bs ki iv hx hi;simp only[Option.map_eq_some_iff] at hev;obtain⟨c, hc, he⟩ := hev;cases he;have hir := Q9 h h2 hi;generalize hiv : a.eval i' = ivv at hir;cases hir;have hxr := Q9 h h1 hx;generalize hxv : a.eval x' = xv at hxr;cases hxr;refine Z5 (v := .int .u8 c.toNat) ?_ (hK _ _ (h.put (Zo hkd hro) (.int _ _)));simp only[execOp, hop, Instr.index, Sem.run_bind, hiv, asIntOf, Sem.run_pure, Result.andThen_ok, run_underlying hu, hxv, hc]
    ·cases hev
   ·cases hk
  ·cases hk
 case ext x i =>
  simp only[kOk] at hk;split at hk
  ·rename_i x' i' hop;simp only[Bool.and_eq_true, beq_iff_eq] at hk;obtain⟨h1, rfl⟩ := hk;simp only[evK] at hev;split at hev
   ·rename_i vs hx;simp only[Option.map_eq_some_iff] at hev;obtain⟨y, hy, he⟩ := hev;cases he;have hxr := Q9 h h1 hx;generalize hxv : a.eval x' = xv at hxr;cases hxr with
    | tup us _ hs hr =>
     obtain⟨hlt, hyy⟩ := List.getElem?_eq_some_iff.1 hy;have hlt2 : i' < us.size := by omega
     refine Z5 (v := us[i']) ?_ (hK _ _ (h.put (Zo hkd hro) (hyy ▸ hr i' hlt2 hlt)));simp only[execOp, hop, Instr.extract, hxv, Array.getElem?_eq_getElem hlt2, Sem.run_bind, Sem.run_pure, Result.andThen_ok]
   ·cases hev
  ·cases hk
 case len x =>
  simp only[kOk] at hk;split at hk
  ·rename_i args ts hop;unfold Zj7 at hk;split at hk
   ·rename_i x' t hargs hts;simp only[Bool.and_eq_true] at hk;obtain⟨h1, h2⟩ := hk;have e1 : args = #[x'] := by rw[← Array.toArray_toList (xs := args), hargs]
    have e2 : ts = #[t] := by rw[← Array.toArray_toList (xs := ts), hts]
    subst e1 e2;split at h2
    ·rename_i e hu;simp only[evK] at hev;have fin : ∀ (base : Option Addr) (n c : Nat), a.eval x' = .slice base n c → (∀ a' w', Rel Y X0 roots w0 (Wb s o.dst (.val (.int .i64 n))) a' w' → K' a' w') → o.wp P a w K' Q := by
      intro base n c he hK';refine Z5 (v := .int .i64 n) ?_ (hK' _ _ (h.put (Zo hkd hro) (.int _ _)));simp[execOp, hop, resolve, invoke, builtin, Builtin.len_, he, run_underlying hu, goInt]
     split at hev
     ·rename_i hx;cases hev;have hxr := Q9 h h1 hx;generalize hxv : a.eval x' = xv at hxr;cases hxr;exact fin _ _ _ hxv hK
     ·rename_i n cs hx;cases hev;have hxr := Q9 h h1 hx;generalize hxv : a.eval x' = xv at hxr;cases hxr <;> exact fin _ _ _ hxv hK
     ·cases hev
    ·cases h2
   ·cases hk
  ·cases hk
 case mx xs =>
  simp only[kOk] at hk;split at hk
  ·rename_i args ts hop;simp only[evK] at hev;split at hev
   ·rename_i k n l hx;simp only[Option.map_eq_some_iff] at hev;obtain⟨m, hm, he⟩ := hev;cases he;obtain⟨e1, e2⟩ := F6 h hk hx;cases hal : args.toList with
    | nil => rw[hal] at e1; simp at e1
    | cons x0 rest =>
     have e1' : rest.length = l.length := by rw[hal] at e1; simpa using e1
     have h0 := e2 0 (by rw[hal]; simp) (by simp);simp only[hal, List.getElem_cons_zero] at h0;generalize hxv : a.eval x0 = xv at h0;cases h0;have hfold := Ze0 (P := P) (Y := Y) (X := fun b => X0 b ∨ XS s a.tmps b) (w := w) (vs := rest.map a.eval) (l := l) (by simpa using e1') (fun i g1 g2 => by
      have := e2 (i + 1) (by rw[hal]; simp at g1 ⊢; omega) (by simp; omega);simpa [hal] using this) hm
     refine Z5 (v := .int k m) ?_ (hK _ _ (h.put (Zo hkd hro) (.int _ _)));have hmap : (args.map a.eval).toList = .int k n :: rest.map a.eval := by rw[Array.toList_map, hal, List.map_cons, hxv]
     simp only[execOp, hop, resolve, invoke, builtin, Builtin.max_, Sem.run_bind, Sem.run_pure, Result.andThen_ok, hmap, hfold]
   ·cases hev
  ·cases hk
 case mn xs =>
  simp only[kOk] at hk;split at hk
  ·rename_i args ts hop;simp only[evK] at hev;split at hev
   ·rename_i k n l hx;simp only[Option.map_eq_some_iff] at hev;obtain⟨m, hm, he⟩ := hev;cases he;obtain⟨e1, e2⟩ := F6 h hk hx;cases hal : args.toList with
    | nil => rw[hal] at e1; simp at e1
    | cons x0 rest =>
     have e1' : rest.length = l.length := by rw[hal] at e1; simpa using e1
     have h0 := e2 0 (by rw[hal]; simp) (by simp);simp only[hal, List.getElem_cons_zero] at h0;generalize hxv : a.eval x0 = xv at h0;cases h0;have hfold := Zex (P := P) (Y := Y) (X := fun b => X0 b ∨ XS s a.tmps b) (w := w) (vs := rest.map a.eval) (l := l) (by simpa using e1') (fun i g1 g2 => by
      have := e2 (i + 1) (by rw[hal]; simp at g1 ⊢; omega) (by simp; omega);simpa [hal] using this) hm
     refine Z5 (v := .int k m) ?_ (hK _ _ (h.put (Zo hkd hro) (.int _ _)));have hmap : (args.map a.eval).toList = .int k n :: rest.map a.eval := by rw[Array.toList_map, hal, List.map_cons, hxv]
     simp only[execOp, hop, resolve, invoke, builtin, Builtin.min_, Sem.run_bind, Sem.run_pure, Result.andThen_ok, hmap, hfold]
   ·cases hev
  ·cases hk
 case call f xs =>
  simp only[kOk] at hk;split at hk
  ·rename_i f' args ts hop;simp only[Bool.and_eq_true, beq_iff_eq] at hk;obtain⟨⟨rfl, h1⟩, h2⟩ := hk;simp only[evK] at hev;split at hev
   ·rename_i vs hx;simp only[Option.map_eq_some_iff] at hev;obtain⟨y, hy, he⟩ := hev;cases he;obtain⟨e1, e2⟩ := F6 h h1 hx;split at h2
    ·rename_i fn hfn;simp only[Bool.and_eq_true, Bool.not_eq_true'] at h2;obtain⟨hbody, hname⟩ := h2;have hbn : ¬ fn.body = none := by intro e0; rw[e0] at hbody; cases hbody
     have hnm : ¬ fn.name = "runtime.NumGoroutine" := by simpa using hname
     have hrun : (execOp a.eval o).run P w = .ok (.enter f' (args.map a.eval)) w := by
      simp[execOp, hop, resolve, Deferred.ofValue, Act.eval, invoke, callFunc, program, Sem.run, hfn, hnm, hbn]
     have hcall := hF f' vs y hy Y (fun b => X0 b ∨ XS s a.tmps b) w (args.map a.eval) h.lowX h.lowYw (by simpa using e1) (fun i g1 g2 => by
      have := e2 i (by simpa using g1) g2;simpa using this)
     simp only[Oper.wp, hrun, Oper.upon];refine hcall.mono fun e w' ⟨v, he, hb, hr⟩ => ?_;subst he;refine hK _ _ ?_;cases hdst : o.dst with
     | none =>
      refine⟨h.dfr, h.size, h.below.trans (hb.mono h.below.size), h.low, h.lowY, fun t => ?_, h.inj⟩;exact Hf.world (h.reg t) hb
     | some d =>
      refine Rel.write (ks := []) h hb (fun u hu => .inr (Zo hkd hro d hdst u hu)) (fun he => (by cases he)) (fun X _ g2 => ?_);exact (hr.thawed h.lowX h.lowYw).mono fun b hb => .inl (g2 rfl b hb)
    ·cases h2
   ·cases hev
  ·cases hk
 case clo f xs =>
  simp only[kOk] at hk;split at hk
  ·rename_i f' args ts hop;simp only[Bool.and_eq_true, beq_iff_eq] at hk;obtain⟨⟨rfl, h1⟩, h2⟩ := hk;simp only[evK] at hev;split at hev
   ·rename_i vs hx;simp only[Option.map_eq_some_iff] at hev;obtain⟨y, hy, he⟩ := hev;cases he;obtain⟨e1, e2⟩ := F6 h h1 hx;split at h2
    ·rename_i fn hfn;simp only[Bool.and_eq_true, Bool.not_eq_true'] at h2;obtain⟨hbody, hname⟩ := h2;have hbn : ¬ fn.body = none := by intro e0; rw[e0] at hbody; cases hbody
     have hnm : ¬ fn.name = "runtime.NumGoroutine" := by simpa using hname
     have hrun : (execOp a.eval o).run P w = .ok (.enter f' (args.map a.eval)) w := by
      simp[execOp, hop, resolve, Deferred.ofValue, Act.eval, invoke, callFunc, program, Sem.run, hfn, hnm, hbn]
     have hcall := hF f' vs y hy Y (fun b => X0 b ∨ XS s a.tmps b) w (args.map a.eval) h.lowX h.lowYw (by simpa using e1) (fun i g1 g2 => by
      have := e2 i (by simpa using g1) g2;simpa using this)
     simp only[Oper.wp, hrun, Oper.upon];refine hcall.mono fun e w' ⟨v, he, hb, hr⟩ => ?_;subst he;refine hK _ _ ?_;simp only[Uk, Bool.and_eq_true] at hro;obtain⟨d, hdst⟩ := Option.isSome_iff_exists.1 hro.2;rw[hdst];cases y
     case fresh k n cs =>
      simp only[Dl] at hr;refine Rel.write (ks := []) h hb (fun u hu => .inr (Zo hkd hro.1 d hdst u hu)) (fun _ b hb => (Jr.block hr hb).1) (fun X g1 _ => ?_);exact Bf h.below.size hr g1
     case frs bb k n cs =>
      simp only[Dl] at hr;refine Rel.write (ks := []) h hb (fun u hu => .inr (Zo hkd hro.1 d hdst u hu)) (fun _ b hb => (Ua.block hr hb).1) (fun X g1 _ => ?_);obtain⟨u, rfl, hr⟩ := hr;rw[X5 _ hr] at g1;refine⟨u, rfl, Bf h.below.size ?_ g1⟩;rw[X5 _ hr] at hr;exact hr
     all_goals
      refine Rel.write (ks := []) h hb (fun u hu => .inr (Zo hkd hro.1 d hdst u hu)) (fun he => (by cases he)) (fun X _ g2 => ?_);exact Rd.mono hr fun b hb => .inl (g2 rfl b hb)
    ·cases h2
   ·cases hev
  ·cases hk
 case brw f x d =>
  simp only[kOk] at hk;split at hk
  ·rename_i f' args ts hop;simp only[Bool.and_eq_true, beq_iff_eq] at hk;obtain⟨⟨rfl, h1⟩, h2⟩ := hk;simp only[evK] at hev;split at hev
   ·rename_i d' hrx;split at hev
    ·rename_i hdd;subst hdd;split at hev
     ·rename_i k n cs hrd;split at hev
      ·rename_i hni;split at hev
       ·rename_i y hy;split at hev
        ·rename_i hio;cases hev;have hvx := h.reg x;rw[hrx] at hvx;have hev : a.tmps.getD x Go.undef = a.tmps.getD d' Go.undef := hvx.2;have hown := h.reg d';rw[hrd] at hown;have hXd : ∀ b, Z3 (a.tmps.getD d' Go.undef) = some b → (X0 b ∨ XS s a.tmps b) := fun b hb => .inr ⟨d', by rw[hrd]; rfl, hb⟩;obtain⟨o1, ho1, hox⟩ : ∃ o1, args.toList = [o1] ∧ Ja o1 (.t x) = true := by
          cases hal : args.toList with
          | nil => rw[hal] at h1; cases h1
          | cons o1 l =>
           rw[hal] at h1;simp only[H1, Bool.and_eq_true] at h1;cases l with
           | nil => exact⟨o1, rfl, h1.1⟩
           | cons _ _ => cases h1.2
         have hoe : a.eval o1 = a.tmps.getD d' Go.undef := by
          cases o1 <;> first | (cases hox; done) | skip
          rename_i m;simp only[Ja, beq_iff_eq] at hox;subst hox;rw[← hev]; rfl
         split at h2
         ·rename_i fn hfn;simp only[Bool.and_eq_true, Bool.not_eq_true'] at h2;obtain⟨hbody, hname⟩ := h2;have hbn : ¬ fn.body = none := by intro e0; rw[e0] at hbody; cases hbody
          have hnm : ¬ fn.name = "runtime.NumGoroutine" := by simpa using hname
          have hrun : (execOp a.eval o).run P w = .ok (.enter f' (args.map a.eval)) w := by
           simp[execOp, hop, resolve, Deferred.ofValue, Act.eval, invoke, callFunc, program, Sem.run, hfn, hnm, hbn]
          have hargs : args = #[o1] := by
           apply Array.toList_inj.1;rw[ho1]
          have hlent : Rd (fun c => Y c ∨ Z3 (a.tmps.getD d' Go.undef) = some c) (fun c => (X0 c ∨ XS s a.tmps c) ∧ ¬ Z3 (a.tmps.getD d' Go.undef) = some c) w (a.tmps.getD d' Go.undef) (.sl n cs) :=
           Jr.lent hown (fun b hb => hb.1) (fun b hb => hb.imp id (hXd b)) (fun b hb hx => hx.2 hb) hni
          have hcall := hF f' [.sl n cs] y hy (fun c => Y c ∨ Z3 (a.tmps.getD d' Go.undef) = some c) (fun c => (X0 c ∨ XS s a.tmps c) ∧ ¬ Z3 (a.tmps.getD d' Go.undef) = some c) w (args.map a.eval)
           (fun b hb => h.lowX b hb.1) (fun b hb => hb.elim (h.lowYw b) (fun hb => h.lowX b (hXd b hb))) (by rw[hargs]; simp) (fun i g1 g2 => by
            have hi : i = 0 := by simp at g2; exact g2
            subst hi;subst hargs;simp only[List.map_toArray, List.map_cons, List.map_nil, List.getElem_toArray, List.getElem_cons_zero];rw[hoe];exact hlent)
          simp only[Oper.wp, hrun, Oper.upon];refine hcall.mono fun e w' ⟨v, he, hb, hr⟩ => ?_;subst he;refine hK _ _ ?_;have hback : Rd Y (fun b => X0 b ∨ XS s a.tmps b) w' v (Rq y) := by
           refine (hr.thawed (fun b hb => h.lowX b hb.1) (fun b hb => hb.elim (h.lowYw b) (fun hb => h.lowX b (hXd b hb)))).back hio (fun b hb => ?_) (fun b hb => .inl hb);by_cases hq : Z3 (a.tmps.getD d' Go.undef) = some b
           ·exact .inr (.inr hq)
           ·exact .inl ⟨hb, hq⟩
          cases hdst : o.dst with
          | none =>
           refine⟨h.dfr, h.size, h.below.trans (hb.mono h.below.size), h.low, h.lowY, fun t => ?_, h.inj⟩;exact Hf.world (h.reg t) hb
          | some d =>
           refine Rel.write (ks := []) h hb (fun u hu => .inr (Zo hkd hro d hdst u hu)) (fun he => (by cases he)) (fun X _ g2 => ?_);exact hback.mono fun b hb => .inl (g2 rfl b hb)
         ·cases h2
        ·cases hev
       ·cases hev
      ·cases hev
     ·cases hev
    ·cases hev
   ·cases hev
  ·cases hk
 case cpy x =>
  have hx := F7 (a := a) (P := P) (w := w) hk;simp only[Uk, Bool.and_eq_true] at hro;simp only[evK] at hev;have h0 := h.reg x;split at hev
  ·rename_i v hr;cases hev;rw[hr] at h0;exact Z5 hx (hK _ _ (h.put (Zo hkd hro.1) h0))
  ·cases hev;exact Z5 hx (hK _ _ (h.putDup (Zo hkd hro.1) (Hl hro.2)))
  ·cases hev
 case tra x =>
  have hx := F7 (a := a) (P := P) (w := w) hk;simp only[Uk, Bool.and_eq_true] at hro;simp only[evK] at hev;have h0 := h.reg x;split at hev
  ·rename_i v hr;cases hev;rw[hr] at h0;exact Z5 hx (hK _ _ (h.put (Zo hkd hro.1) h0))
  ·rename_i k n cs hr;cases hev;obtain⟨d, hdst⟩ := Option.isSome_iff_exists.1 hro.2;refine Z5 hx (hK _ _ ?_);rw[hdst];rcases h.ownLow hr with ⟨e1, rfl, rfl⟩ | ⟨b, cap, e1, e2, e3, e4, e5, e6, hXb⟩
   ·rw[e1];exact G4 (ow := true) (ks := [x]) h (fun u hu => .inr (Zo hkd hro.1 d hdst u hu))
   refine Rel.shift h hr (b := b) (by rw[e1]; rfl) (fun u hu => Zo hkd hro.1 d hdst u hu) rfl rfl rfl rfl (fun _ _ => rfl) (fun _ => by rw[e1]; rfl) (fun X g1 _ => ?_);exact .inr ⟨b, cap, e1, e2, e3, e4, e5.mono fun c hc => .inl (g1 c hc), e6⟩
  ·rename_i b k n cs hr;cases hev;obtain⟨d, hdst⟩ := Option.isSome_iff_exists.1 hro.2;rw[hr] at h0;refine Z5 hx (hK _ _ ?_);rw[hdst];exact h.pass (by rw[hr]; rfl) rfl (fun u hu => Zo hkd hro.1 d hdst u hu) (fun X g1 => Ua.mono h0 fun c hc => .inl (g1 c hc))
  ·cases hev
 case frz x =>
  have hx := F7 (a := a) (P := P) (w := w) hk;simp only[evK] at hev;have h0 := h.reg x;split at hev
  ·rename_i v hr;cases hev;rw[hr] at h0;exact Z5 hx (hK _ _ (h.put (Zo hkd hro) h0))
  ·rename_i k n cs hr;cases hev;have hf := h.freeze hr;have h1 := hf.reg x;have hlt : x < s.length := by
    rcases Nat.lt_or_ge x s.length with hlt | hge
    ·exact hlt
    ·simp only[Z7, List.getD_eq_getElem?_getD, List.getElem?_eq_none hge] at hr; cases hr
   rw[Jk, if_pos ⟨rfl, hlt⟩] at h1;refine Z5 hx (hK _ _ (hf.put (fun d hd t ht => ?_) h1));have hfree := Zo hkd hro d hd t ht;rw[Jk];split
   ·rfl
   ·exact hfree
  ·cases hev
 case mks z n =>
  simp only[kOk] at hk;split at hk
  ·rename_i t l c hop;simp only[Bool.and_eq_true] at hk;obtain⟨⟨⟨h1, h2⟩, h3⟩, h4⟩ := hk;simp only[Uk, Bool.and_eq_true] at hro;obtain⟨d, hdst⟩ := Option.isSome_iff_exists.1 hro.2;simp only[evK] at hev;split at hev
   ·rename_i kk m hn;split at hev
    ·rename_i hb;cases hev;have hl := Q9 h h1 hn;have hc := Q9 h h2 hn;generalize hlv : a.eval l = lv at hl;generalize hcv : a.eval c = cv at hc;cases hl;cases hc;obtain⟨e, cells, hrun, hcells⟩ := Zqm (P := P) (Y := Y) (X := fun b => X0 b ∨ XS s a.tmps b) (w := w) (kl := kk) (kc := kk) h3 h4 hb.1 hb.2;have hrun' : (execOp a.eval o).run P w = .ok (.value (.slice (some ⟨w.heap.size, 0, none⟩) m.toNat m.toNat)) (w.alloc (.cells cells e)) := by
      simp only[execOp, hop, hlv, hcv, Sem.run_bind, hrun, Result.andThen_ok, Sem.run_pure]
     simp only[Oper.wp, hrun', Oper.upon];refine hK _ _ ?_;rw[hdst];exact Zeo h (fun u hu => Zo hkd hro.1 d hdst u hu) hcells (Kp z m.toNat)
    ·cases hev
   ·cases hev
  ·cases hk
 case blo k n z ps =>
  simp only[kOk] at hk;split at hk
  ·rename_i t len parts hop;simp only[Bool.and_eq_true] at hk;obtain⟨hk, hel⟩ := hk;simp only[evK, Option.map_eq_some_iff] at hev;obtain⟨cs, hcs, he⟩ := hev;cases he;simp only[Zkw, Bool.and_eq_true, beq_iff_eq] at hk;obtain⟨rfl, hk⟩ := hk;obtain⟨e', i', zv', hu', hi', hs', hk', _, _, _⟩ := J6 hel;split at hk
   ·rename_i e hu;split at hk
    ·rename_i ii hii;obtain rfl : e = e' := by rw[hu] at hu'; cases hu'; rfl
     obtain rfl : ii = i' := by rw[hii] at hi'; cases hi'; rfl
     simp only[Bool.and_eq_true, decide_eq_true_eq] at hk;obtain⟨⟨⟨h1, h2⟩, h3⟩, hp⟩ := hk;split at h3
     ·rename_i zv hzv;simp only[Bool.and_eq_true, decide_eq_true_eq, beq_iff_eq] at h3;obtain⟨⟨h3, h4⟩, h5⟩ := h3;have hz0 : 0 < zv.cells.toList.length := by simp only[Array.length_toList]; omega
      have hzl : zv.cells.toList.length = ii.size := by simp only[Array.length_toList]; exact h3
      obtain⟨hd, hg⟩ := Ga (Y := Y) (X := fun b => X0 b ∨ XS s a.tmps b) (w := w) hz0 len z h5 (by rw[h4, hzl]);have hszr : (sizeOf e).run P w = .ok ii.size w := by simp[sizeOf, typeInfo, program, Sem.run, hii]
      have hzr : (zeroValue e).run P w = .ok zv w := by simp[zeroValue, typeInfo, program, Sem.run, hii, hzv]
      have hc0 : Q7 Y (fun b => X0 b ∨ XS s a.tmps b) w ((Array.range (len * ii.size)).map fun j => zv.cells[j % zv.cells.size]!) z := by
       refine⟨hd, by simp[h4], fun i g1 g2 => ?_⟩;obtain⟨u, hu1, hu2⟩ := hg i g2;have e1 : zv.cells[i % zv.cells.size]! = u := by
        have : zv.cells[i % zv.cells.size]? = some u := by simpa using hu1
        simp[getElem!_def, this]
       simp only[Array.getElem_map, Array.getElem_range, e1];exact hu2
      obtain⟨cells', e1, e2⟩ := A5 h (place := fun i => some (i * ii.size, ii.size)) (fun i off n hi => by
       simp only[Bool.and_eq_true, beq_iff_eq] at hi;rw[hi.1, hi.2]) hp hc0 hcs
      have e1' : Instr.fill (fun i => some (i * ii.size, ii.size)) ((Array.range (len * ii.size)).map fun j => zv.cells[j % zv.cells.size]!) (parts.map fun p => (p.1, a.eval p.2)).toList = some cells' := by rw[Array.toList_map]; exact e1
      have e3 : len * ii.size = 0 → (Array.range (len * ii.size)).map (fun j => (#[] : Array Value)[j % (#[] : Array Value).size]!) = (Array.range (len * ii.size)).map fun j => zv.cells[j % zv.cells.size]! := fun hh => by rw[hh]; simp
      have hl1 : ¬ len * ii.size > 2 ^ 24 := by omega
      simp only[Uk, Bool.and_eq_true] at hro;obtain⟨d, hdst⟩ := Option.isSome_iff_exists.1 hro.2;have hrun : (execOp a.eval o).run P w = .ok (.value (.slice (some ⟨w.heap.size, 0, none⟩) len len)) (w.alloc (.cells cells' e)) := by
       by_cases hl0 : len * ii.size = 0
       ·simp only[execOp, hop, Instr.buildSlice, Sem.run_bind, run_underlying hu, Result.andThen_ok, hszr, hl1, if_false, if_pos hl0, Sem.run_pure, e3 hl0, e1', newRow, run_newObj_alloc]
       ·simp only[execOp, hop, Instr.buildSlice, Sem.run_bind, run_underlying hu, Result.andThen_ok, hszr, hl1, if_false, hl0, Sem.run_pure, hzr, e1', newRow, run_newObj_alloc]
      simp only[Oper.wp, hrun, Oper.upon];refine hK _ _ ?_;rw[hdst];refine Zeo h (fun u hu => Zo hkd hro.1 d hdst u hu) e2 ?_;rw[Ds hcs, h4, hs']
     ·cases h3
    ·cases hk
   ·cases hk
  ·cases hk
 case apd ow x y k B =>
  simp only[kOk] at hk;split at hk
  ·rename_i args ts hop;unfold apdOk at hk;split at hk
   ·rename_i x' y' t t' hargs hts;simp only[Bool.and_eq_true] at hk;obtain⟨⟨⟨⟨h1, h2⟩, h3⟩, h4⟩, h5⟩ := hk;have e1 : args = #[x', y'] := by rw[← Array.toArray_toList (xs := args), hargs]
    have e2 : ts = #[t, t'] := by rw[← Array.toArray_toList (xs := ts), hts]
    subst e1 e2;simp only[Uk, Bool.and_eq_true] at hro;obtain⟨d, hdst⟩ := Option.isSome_iff_exists.1 hro.2;have hfr : ∀ u, (u, d) ∈ roots → Vc (Z7 s u) = false := fun u hu => Zo hkd hro.1 d hdst u hu;have hrunO : ∀ {v : Value} {w' : World}, (Builtin.append_ #[t, t'] o.type #[a.eval x', a.eval y']).run P w = .ok v w' → (execOp a.eval o).run P w = .ok (.value v) w' := by
     intro v w' hh;simp[execOp, hop, resolve, invoke, builtin, hh]
    simp only[evK] at hev;split at hev
    ·-- nothing to append
     rename_i hy;have hyr := Q9 h h2 hy;generalize hyv : a.eval y' = yv at hyr hrunO;cases hyr;split at hev
     ·rename_i hxr;cases hev;have hxx := Q9 h h1 (Zow hxr);generalize hxv : a.eval x' = xv at hxx hrunO;cases hxx;have hr := hrunO (append_nil (P := P) (w := w) (ty := o.type) h3 h4);exact Z5 hr (hK _ _ (h.put (Zo hkd hro.1) .nil))
     ·rename_i k' n cs hxr;obtain⟨nx, rfl⟩ := Zd5 hxr;simp only[Opd.reg] at hxr;split at hev
      ·rename_i hkk;subst hkk;cases hev;rcases h.ownLow hxr with ⟨e1, rfl, rfl⟩ | ⟨b, cap, e1, e2, e3, e4, e5, e6, hXb⟩
       ·have hxv : a.eval x' = .slice none 0 0 := by rw[Xk h1, e1]
        rw[hxv] at hrunO;have hr := hrunO (append_nil (P := P) (w := w) (ty := o.type) h3 h4);refine Z5 hr (hK _ _ ?_);rw[hdst];exact G4 (ks := [nx]) h (fun u hu => .inr (hfr u hu))
       have hxv : a.eval x' = .slice (some ⟨b, 0, none⟩) n cap := by rw[Xk h1, e1]
       rw[hxv] at hrunO;have hr := hrunO (Ed (P := P) (w := w) (ty := o.type) h3 h4 e2);refine Z5 hr (hK _ _ ?_);rw[hdst];refine Rel.shift h hxr (b := b) (by rw[e1]; rfl) hfr rfl rfl rfl rfl (fun _ _ => rfl) (fun _ => rfl) (fun X g1 g2 => ?_);exact Zaa (.inr ⟨b, cap, rfl, e2, e3, e4, e5.mono fun c hc => .inl (g1 c hc), e6⟩) (fun he => by subst he; exact fun c hc => by cases hc; exact g2 rfl) h.lowY
      ·cases hev
     ·cases hev
    ·rename_i m ys hy;have hyr := slr_of (Q9 h h2 hy);split at hev
     ·rename_i hylen;have fromNil : a.eval x' = .slice none 0 0 → m ≤ B → ∀ ks : List Nat, (∀ a' w', Rel Y X0 roots w0 (Wb (Qx s (ks.map fun u => (u, Reg.dead))) (some d) (if ow then .own k m ys else .val (.sl m ys))) a' w' → K' a' w') → o.wp P a w K' Q := by
       intro hxv hm2 ks hK';rw[hxv] at hrunO;rcases Nat.eq_zero_or_pos m with hm | hm
       ·subst hm;have hy0 : ys = [] := List.eq_nil_of_length_eq_zero (by simpa using hylen);subst hy0;have hr : (execOp a.eval o).run P w = .ok (.value (.slice none 0 0)) w := by
         rcases hyr with ⟨_, _, hyv | ⟨p, c, hyv⟩⟩ | ⟨b, off, cap, hyv, _⟩
         ·rw[hyv] at hrunO;exact hrunO (append_nil (P := P) (w := w) (ty := o.type) h3 h4)
         ·rw[hyv] at hrunO;exact hrunO (Ee (P := P) (w := w) (ty := o.type) h3 h4)
         ·rw[hyv] at hrunO;exact hrunO (Ee (P := P) (w := w) (ty := o.type) h3 h4)
        refine Z5 hr (hK' _ _ ?_);rw[hdst];exact G4 (ks := ks) h (fun u hu => .inr (hfr u hu))
       ·obtain⟨v', w', hrun, hbel, hown⟩ := Ef (P := P) (ty := o.type) (n := 0) (cs := []) h3 h4 h5 (.inl ⟨rfl, rfl, rfl, hm⟩) (by simp) hyr hm hylen (by omega);have hr := hrunO hrun;simp only[Oper.wp, hr, Oper.upon];refine hK' _ _ ?_;rw[hdst];simp only[Nat.zero_add, List.nil_append] at hown;exact Ak (ks := ks) h hbel (fun u hu => .inr (hfr u hu)) hown
      split at hev
      ·rename_i hxr;have hxx := Q9 h h1 (Zow hxr);generalize hxv : a.eval x' = xv at hxx;cases hxx;split at hev
       ·rename_i hm2;cases hev;rw[hdst] at hK;exact fromNil hxv hm2 [] hK
       ·cases hev
      ·rename_i k' n cs hxr;obtain⟨nx, rfl⟩ := Zd5 hxr;simp only[Opd.reg] at hxr;split at hev
       ·rename_i hkk;obtain⟨rfl, hnm⟩ := hkk;cases hev;rcases h.ownLow hxr with ⟨e1, rfl, rfl⟩ | ⟨b, cap, e1, e2, e3, e4, e5, e6, hXb⟩
        ·rw[hdst] at hK;simp only[Nat.zero_add, List.nil_append] at hK;exact fromNil (by rw[Xk h1, e1]) (by omega) [nx] hK
        have hxv : a.eval x' = .slice (some ⟨b, 0, none⟩) n cap := by rw[Xk h1, e1]
        rw[hxv] at hrunO;by_cases hyn : m = 0
        ·subst hyn;have hy0 : ys = [] := List.eq_nil_of_length_eq_zero (by simpa using hylen);subst hy0;have hr : (execOp a.eval o).run P w = .ok (.value (.slice (some ⟨b, 0, none⟩) n cap)) w := by
          rcases hyr with ⟨_, _, hyv | ⟨p, c, hyv⟩⟩ | ⟨b', off', cap', hyv, _⟩
          ·rw[hyv] at hrunO;exact hrunO (Ed (P := P) (w := w) (ty := o.type) h3 h4 e2)
          ·rw[hyv] at hrunO;exact hrunO (Dw (P := P) (w := w) (ty := o.type) h3 h4 e2)
          ·rw[hyv] at hrunO;exact hrunO (Dw (P := P) (w := w) (ty := o.type) h3 h4 e2)
         refine Z5 hr (hK _ _ ?_);rw[hdst];refine Rel.shift h hxr (b := b) (by rw[e1]; rfl) hfr rfl rfl rfl rfl (fun _ _ => rfl) (fun _ => rfl) (fun X g1 g2 => ?_);simp only[Nat.add_zero, List.append_nil] at g2 ⊢;exact Zaa (.inr ⟨b, cap, rfl, e2, e3, e4, e5.mono fun c hc => .inl (g1 c hc), e6⟩) (fun he => by subst he; exact fun c hc => by cases hc; exact g2 rfl) h.lowY
        by_cases hroom : n + m ≤ cap
        ·obtain⟨w', hrun, g1, g2, g3, g4, g5, g6, g7⟩ := Sv (P := P) (ty := o.type) h3 h4 hroom (Y := Y) (X := fun b => X0 b ∨ XS s a.tmps b) (.inr hXb) e5 e6 e3 hyr hyn hylen;have hr := hrunO hrun;simp only[Oper.wp, hr, Oper.upon];refine hK _ _ ?_;rw[hdst];refine Rel.shift h hxr (b := b) (by rw[e1]; rfl) hfr g1 g2 g3 g4 g5 (fun _ => rfl) (fun X q1 q2 => ?_);exact Zaa (.inr ⟨b, cap, rfl, hroom, by rw[List.length_append, e3, hylen, Nat.add_mul], e4, g6.mono fun c hc => .inl (q1 c hc), g7⟩) (fun he => by subst he; exact fun c hc => by cases hc; exact q2 rfl) h.lowY
        ·obtain⟨v', w', hrun, hbel, hown⟩ := Ef (P := P) (ty := o.type) h3 h4 h5 (.inr ⟨b, cap, rfl, by omega, e5.mem⟩) e3 hyr (by omega) hylen hnm;have hr := hrunO hrun;simp only[Oper.wp, hr, Oper.upon];refine hK _ _ ?_;rw[hdst];exact Ak (ks := [nx]) h hbel (fun u hu => .inr (hfr u hu)) hown
       ·cases hev
      ·cases hev
     ·cases hev
    ·cases hev
   ·cases hk
  ·cases hk
 case sli x lo hi mx k =>
  simp only[kOk] at hk;split at hk
  ·rename_i t x' lo' hi' mx' hop;simp only[Bool.and_eq_true] at hk;obtain⟨⟨⟨⟨h1, h2⟩, h3⟩, h4⟩, h5⟩ := hk;have hrunO : ∀ {v : Value}, (Instr.sliceAt t (a.eval x') (lo'.map a.eval) (hi'.map a.eval) (mx'.map a.eval)).run P w = .ok v w → (execOp a.eval o).run P w = .ok (.value v) w := by
    intro v hh;simp only[execOp, hop, Sem.run_bind, hh, Result.andThen_ok, Sem.run_pure]
   simp only[evK] at hev;split at hev
   ·rename_i hx;have hxr := Q9 h h1 hx;generalize hxv : a.eval x' = xv at hxr hrunO;cases hxr;split at hev
    ·rename_i b1 b2 b3;split at hev
     ·rename_i c4;cases hev;have hb := Fj (P := P) (w := w) (len := 0) (cap := 0) (m := 0) (h := 0) (l := 0) (bnd_mx h h4 b1 rfl (Nat.le_refl _)) (bnd_h h h3 h4 b2 c4 (fun _ => Nat.le_refl _) (fun _ => Nat.le_refl _)) (Zpd h h2 b3 (Nat.le_refl _));have hr := hrunO (Gz h5 hb);exact Z5 hr (hK _ _ (h.put (Zo hkd hro) .nil))
     ·cases hev
    ·cases hev
   ·rename_i n cs hx;have hxr := Q9 h h1 hx;split at hev
    ·rename_i m hh l b1 b2 b3;split at hev
     ·rename_i hc;cases hev;obtain⟨c1, c2, c3, c4⟩ := hc;obtain⟨ad, cap, hv, hcap, hres, hnone⟩ := Zjg (k := k) (m := if mx.isSome then m else cap0 (a.eval x')) hxr c1 (by omega);rw[hv] at hrunO hres;have hb := Fj (P := P) (w := w) (len := n) (cap := cap) (m := if mx.isSome then m else cap) (h := hh) (l := l) (bnd_m h h4 b1 (by omega)) (bnd_h h h3 h4 b2 c4 (fun hs => by rw[if_pos hs]; exact c2) (fun hs => by rw[if_neg hs]; omega)) (Zpd h h2 b3 c1);have hr := hrunO (Gz h5 hb);refine Z5 hr (hK _ _ (h.put (Zo hkd hro) (hres ?_ (fun hn => ?_))))
      ·simp only[cap0];split
       ·exact c2
       ·omega
      ·have h0 := hnone hn;simp only[cap0];split
       ·omega
       ·exact h0
     ·cases hev
    ·cases hev
   ·cases hev
  ·cases hk
 case nlo k =>
  simp only[kOk] at hk;simp only[evK] at hev;cases hev;simp only[Uk, Bool.and_eq_true] at hro;obtain⟨d, hdst⟩ := Option.isSome_iff_exists.1 hro.2;have hr : (execOp a.eval o).run P w = .ok (.value (.slice none 0 0)) w := by
   split at hk
   ·rename_i hop; simp[execOp, hop, Act.eval]
   ·rename_i hop; simp[execOp, hop, Act.eval]
   ·cases hk
  refine Z5 hr (hK _ _ ?_);rw[hdst];exact G4 (ow := true) (ks := []) h (fun u hu => .inr (Zo hkd hro.1 d hdst u hu))
 case bdo y x ls =>
  simp only[kOk] at hk;split at hk
  ·rename_i t parts hop;obtain⟨a', x', hparts, h1, h2, hrun⟩ := Zkz hk;simp only[Uk, Bool.and_eq_true] at hro;obtain⟨d, hdst⟩ := Option.isSome_iff_exists.1 hro.2;simp only[evK] at hev;split at hev
   ·rename_i b hb;split at hev
    ·rename_i k n cs hr;split at hev
     case isFalse => cases hev
     rename_i hls;cases hev;have hkd' : ∀ t ∈ oks ++ ls, Vc (Z7 s t) = false := Nh hkd hls;have hbr := Q9 h h1 hb;generalize hbv : a.eval a' = bv at hbr;cases hbr;have hx' := Xk (a := a) h2;have h0 := h.reg x;rw[hr] at h0;have hcell : (a.tmps.getD x Go.undef).cells = #[a.tmps.getD x Go.undef] := by
      rcases h0 with ⟨e, _⟩ | ⟨_, _, e, _⟩ <;> rw[e] <;> rfl
     have hpe : (parts.map fun p => (p.1, a.eval p.2)) = #[(0, .bool b), (1, a.tmps.getD x Go.undef)] := by
      apply Array.toList_inj.1;rw[Array.toList_map, hparts];simp[hbv, hx']
     refine Z5 (v := .agg #[.bool b, a.tmps.getD x Go.undef]) ?_ (hK _ _ ?_)
     ·simp only[execOp, hop, Sem.run_bind];rw[show (parts.map fun x : Nat × Operand => match x with | (i, x) => (i, a.eval x)) = (parts.map fun p => (p.1, a.eval p.2)) from rfl, hpe, hrun b _ hcell w]
      rfl
     ·rw[hdst];exact h.pass (by rw[hr]; rfl) (X5 (.st b) h0) (fun u hu => Zo hkd' hro.1 d hdst u hu) (fun X g1 => ⟨_, rfl, Jr.mono h0 fun c hc => .inl (g1 c hc)⟩)
    ·cases hev
   ·cases hev
  ·cases hk
 case stl x v =>
  simp only[kOk] at hk;split at hk
  ·rename_i t x' v' hop;simp only[Bool.and_eq_true] at hk;obtain⟨⟨h1, h2⟩, h3⟩ := hk;simp only[Uk, Bool.and_eq_true, Option.isNone_iff_eq_none, List.contains_eq_mem, decide_eq_true_eq] at hro;obtain⟨hdst, hroot⟩ := hro;simp only[evK] at hev;split at hev
   ·rename_i cs hr;split at hev
    ·rename_i bb k n ds hrv;split at hev
     ·rename_i hcs;cases hev;have hx' := Xk (a := a) h1;have hv' := Xk (a := a) h3;have h0 := h.reg x;rw[hr] at h0;obtain⟨b, e1, hB, hd, vs, T, e2, e3, _⟩ := h0;have h5 := h.reg v;rw[hrv] at h5;obtain⟨u, hu, h5⟩ := h5;have hcell : u.oneCell' = true := by
       rcases h5 with ⟨e, _⟩ | ⟨_, _, e, _⟩ <;> rw[e] <;> rfl
      have hsz := Ww h2;have hrow := run_storeCells_at (P := P) b 0 T [.bool bb, u] 0 vs w e2 (by simp; omega) (by
       intro y hy;simp only[List.mem_cons, List.not_mem_nil, or_false] at hy;rcases hy with rfl | rfl
       ·rfl
       ·exact hcell)
      have hrun' : (execOp a.eval o).run P w = .ok .skip (w.setRow b (vs.toList.take (0 + 0) ++ [.bool bb, u] ++ vs.toList.drop (0 + 0 + [Value.bool bb, u].length)).toArray) := by
       have hcells : (Value.agg #[.bool bb, u]).cells = #[.bool bb, u] := rfl;simp only[execOp, hop, Instr.storeAt, hx', e1, hv', hu, tagV, Instr.sureAddr, Sem.run_bind, Sem.run_pure, Result.andThen_ok, storeVar, hsz, hcells];simp only[List.size_toArray, List.length_cons, List.length_nil, ne_eq, not_true_eq_false, if_false];rw[hrow];rfl
      simp only[Oper.wp, hrun', Oper.upon];rw[hdst] at hK ⊢;refine hK _ _ (Rel.store (w' := w.setRow b _) h hr rfl rfl (by rw[e1]; rfl) hB rfl rfl rfl (Wx _ _ _) (fun c hc => U9 _ _ _ _ hc) (fun X hX => ?_));have hlt : b < w.heap.size := (Array.getElem?_eq_some_iff.1 e2).1;refine⟨hroot, b, e1, hB, by rw[Wx]; exact hlt, fun i hi => ?_⟩;rw[Fi (setRow_heap w b vs _ T (0, 0) e2), hu];match i, hi with
      | 0, _ => rfl
      | 1, _ => rfl
     ·cases hev
    ·cases hev
   ·cases hev
  ·cases hk
 case cln f xs ls =>
  simp only[kOk] at hk;split at hk
  ·rename_i f' args ts hop;simp only[Bool.and_eq_true, beq_iff_eq] at hk;obtain⟨⟨rfl, h1⟩, h2⟩ := hk;simp only[evK] at hev;split at hev
   ·rename_i vs hx;split at hev
    case isFalse => cases hev
    rename_i hls;have hkd' : ∀ t ∈ oks ++ ls, Vc (Z7 s t) = false := Nh hkd hls;simp only[Option.map_eq_some_iff] at hev;obtain⟨y, hy, he⟩ := hev;cases he;obtain⟨e1, e2⟩ := F6 h h1 hx;unfold Zpc at h2;split at h2
    ·rename_i fn hfn;simp only[Bool.and_eq_true, Bool.not_eq_true'] at h2;obtain⟨hbody, hname⟩ := h2;have hbn : ¬ fn.body = none := by intro e0; rw[e0] at hbody; cases hbody
     have hnm : ¬ fn.name = "runtime.NumGoroutine" := by simpa using hname
     have hrun : (execOp a.eval o).run P w = .ok (.enter f' (args.map a.eval)) w := by
      simp[execOp, hop, resolve, Deferred.ofValue, Act.eval, invoke, callFunc, program, Sem.run, hfn, hnm, hbn]
     have hcall := hF f' vs y hy Y (fun b => X0 b ∨ XS s a.tmps b) w (args.map a.eval) h.lowX h.lowYw (by simpa using e1) (fun i g1 g2 => by
      have := e2 i (by simpa using g1) g2;simpa using this)
     simp only[Oper.wp, hrun, Oper.upon];refine hcall.mono fun e w' ⟨v, he, hb, hr⟩ => ?_;subst he;refine hK _ _ ?_;simp only[Uk, Bool.and_eq_true] at hro;obtain⟨d, hdst⟩ := Option.isSome_iff_exists.1 hro.2;rw[hdst];cases y
     case fresh k n cs =>
      simp only[Dl] at hr;refine Rel.write (ks := []) h hb (fun u hu => .inr (Zo hkd' hro.1 d hdst u hu)) (fun _ b hb => (Jr.block hr hb).1) (fun X g1 _ => ?_);exact Bf h.below.size hr g1
     case frs bb k n cs =>
      simp only[Dl] at hr;refine Rel.write (ks := []) h hb (fun u hu => .inr (Zo hkd' hro.1 d hdst u hu)) (fun _ b hb => (Ua.block hr hb).1) (fun X g1 _ => ?_);obtain⟨u, rfl, hr⟩ := hr;rw[X5 _ hr] at g1;refine⟨u, rfl, Bf h.below.size ?_ g1⟩;rw[X5 _ hr] at hr;exact hr
     all_goals
      refine Rel.write (ks := []) h hb (fun u hu => .inr (Zo hkd' hro.1 d hdst u hu)) (fun he => (by cases he)) (fun X _ g2 => ?_);exact Rd.mono hr fun b hb => .inl (g2 rfl b hb)
    ·cases h2
   ·cases hev
  ·cases hk
 case fdo x =>
  simp only[kOk] at hk;split at hk
  ·rename_i t x' hop;simp only[Bool.and_eq_true] at hk;obtain⟨h1, h2⟩ := hk;simp only[Uk, Bool.and_eq_true] at hro;obtain⟨d, hdst⟩ := Option.isSome_iff_exists.1 hro.2;simp only[evK] at hev;split at hev
   ·rename_i b k n cs hr;cases hev;have hx' := Xk (a := a) h1;have h0 := h.reg x;rw[hr] at h0;obtain⟨u, hu, h0⟩ := h0;refine Z5 (v := u) ?_ (hK _ _ ?_)
    ·simp only[execOp, hop, Sem.run_bind, hx', hu, tagV, Zkl h2 b u w];rfl
    ·rw[hdst];exact h.pass (by rw[hr]; rfl) (by rw[hu]; exact (X5 (.st b) h0).symm) (fun u hu => Zo hkd hro.1 d hdst u hu) (fun X g1 => Jr.mono h0 fun c hc => .inl (g1 c hc))
   ·cases hev
  ·cases hk
 case exo x =>
  simp only[kOk] at hk;split at hk
  ·rename_i x' hop;simp only[Uk, Bool.and_eq_true] at hro;obtain⟨d, hdst⟩ := Option.isSome_iff_exists.1 hro.2;simp only[evK] at hev;split at hev
   ·rename_i b k n cs hr;cases hev;have hx' := Xk (a := a) hk;have h0 := h.reg x;rw[hr] at h0;obtain⟨u, hu, h0⟩ := h0;have hrd : ∀ X, Rd Y X w u (.sl n []) := by
     intro X;rcases h0 with ⟨rfl, rfl, _⟩ | ⟨c, cap, rfl, hle, _⟩
     ·exact .nil0
     ·exact .sl c 0 n cap [] (fun _ => Go.undef) (by intro y hy; cases hy) hle (fun hne => absurd rfl hne) (fun ⟨y, hy, _⟩ => by cases hy) (fun i hi => by simp at hi) (fun i hi => by simp at hi)
    refine Z5 (v := u) ?_ (hK _ _ ?_)
    ·simp only[execOp, hop, Instr.extract, hx', hu, tagV, Sem.run_bind, Sem.run_pure];rfl
    ·rw[hdst];have hp := h.pass (r := .own k n cs) (v := u) (by rw[hr]; rfl) (by rw[hu]; exact (X5 (.tp b) h0).symm) (fun u hu => Zo hkd hro.1 d hdst u hu) (fun X g1 => Jr.mono h0 fun c hc => .inl (g1 c hc));by_cases hxd : x = d
     ·subst hxd;simp only[Wb, Qx, List.set_set] at hp ⊢;exact hp
     ·simp only[Wb, Qx] at hp ⊢;have e1 : ((s.set x (.val (.tup [.sl n [], .bool b]))).set d (.own k n cs)) = (((s.set x .dead).set d (.own k n cs)).set x (.val (.tup [.sl n [], .bool b]))) := by
       rw[List.set_comm (i := x) (j := d) _ _ hxd, List.set_comm (i := x) (j := d) _ _ hxd, List.set_set]
      rw[e1];refine hp.wake ?_ ?_
      ·rw[Jk, if_neg (fun g => hxd g.1.symm), Jk];split
       ·rfl
       ·rename_i g;simp only[true_and, Nat.not_lt] at g;simp only[Z7, List.getD_eq_getElem?_getD, List.getElem?_eq_none g];rfl
      ·have e2 : (a.put (some d) u).tmps.getD x Go.undef = .tuple #[u, .bool b] := by
        show (a.tmps.setIfInBounds d u).getD x Go.undef = _;rw[G8, if_neg (fun g => hxd g.1.symm)];exact hu
       rw[e2];refine Rd.tup #[u, .bool b] [.sl n [], .bool b] rfl fun i h1 h2 => ?_;match i, h2 with
       | 0, _ => exact hrd _
       | 1, _ => exact Rd.bool b
   ·cases hev
  ·cases hk
 case slo x hi k =>
  simp only[kOk] at hk;split at hk
  ·rename_i t x' hi' hop;simp only[Bool.and_eq_true] at hk;obtain⟨⟨h1, h2⟩, h5⟩ := hk;simp only[Uk, Bool.and_eq_true] at hro;obtain⟨d, hdst⟩ := Option.isSome_iff_exists.1 hro.2;simp only[evK] at hev;split at hev
   ·rename_i ki iv hiv;split at hev
    ·rename_i k' n cs hr;split at hev
     ·rename_i hc;obtain⟨rfl, c1, c2⟩ := hc;cases hev;have hbr := Q9 h h2 hiv;generalize hbv : a.eval hi' = bv at hbr;cases hbr;have hx' := Xk (a := a) h1;have h0 := h.reg x;rw[hr] at h0;have hle : iv.toNat ≤ n := by omega
      rcases h0 with ⟨e, rfl, rfl⟩ | ⟨b, cap, e, e2, e3, e4, e5, e6⟩
      ·have hb := Fj (P := P) (w := w) (len := 0) (cap := 0) (m := 0) (h := iv.toNat) (l := 0) (lo := none) (hi := some (.int ki iv)) (mx := none) (.inl ⟨rfl, rfl⟩) (.inr ⟨ki, iv, rfl, c1, rfl, hle⟩) (.inl ⟨rfl, rfl⟩);have hz : iv.toNat = 0 := by omega
       refine Z5 (v := .slice none 0 0) ?_ (hK _ _ ?_)
       ·simp only[execOp, hop, Sem.run_bind, hx', e, Option.map_none, Option.map_some, hbv, Gz h5 hb, hz];rfl
       ·rw[hdst, hz];simpa using G4 (ow := true) (ks := [x]) h (fun u hu => .inr (Zo hkd hro.1 d hdst u hu))
      ·have hb := Fj (P := P) (w := w) (len := n) (cap := cap) (m := cap) (h := iv.toNat) (l := 0) (lo := none) (hi := some (.int ki iv)) (mx := none) (.inl ⟨rfl, rfl⟩) (.inr ⟨ki, iv, rfl, c1, rfl, by omega⟩) (.inl ⟨rfl, rfl⟩);refine Z5 (v := .slice (some ⟨b, 0, none⟩) iv.toNat cap) ?_ (hK _ _ ?_)
       ·simp only[execOp, hop, Sem.run_bind, hx', e, Option.map_none, Option.map_some, hbv, Gz h5 hb, Nat.zero_mul, Nat.sub_zero, Vp, ite_self];rfl
       ·rw[hdst];refine h.pass (by rw[hr]; rfl) (by rw[e]; rfl) (fun u hu => Zo hkd hro.1 d hdst u hu) (fun X g1 => .inr ⟨b, cap, rfl, by omega, ?_, e4, ?_, e6⟩)
        ·rw[List.length_take, e3, Nat.min_eq_left (Nat.mul_le_mul_right _ hle)]
        ·obtain⟨q1, vs, T, q2, q3, q4⟩ := e5.mono (X' := X) fun c hc => .inl (g1 c hc);refine⟨fun y hy => q1 y (List.mem_of_mem_take hy), vs, T, q2, ?_, fun i hi => ?_⟩
         ·have : (cs.take (iv.toNat * k')).length ≤ cs.length := by rw[List.length_take]; exact Nat.min_le_right _ _
          omega
         ·obtain⟨v, r1, r2⟩ := q4 i (by simp at hi; omega);exact⟨v, r1, by simpa using r2⟩
     ·cases hev
    ·cases hev
   ·cases hev
  ·cases hk
 case ixo x d i k =>
  simp only[kOk] at hk;split at hk
  ·rename_i t x' i' hop;simp only[Bool.and_eq_true] at hk;obtain⟨⟨h1, h2⟩, hk⟩ := hk;obtain⟨e, ii, zv, hu, hii, hs, hk0, _, _, _⟩ := J6 hk;have hsz : (sizeOf e).run P w = .ok k w := by simp[sizeOf, typeInfo, program, Sem.run, hii, hs]
   simp only[Uk, Bool.and_eq_true] at hro;simp only[evK] at hev;split at hev
   ·rename_i ki iv hi;have hir := Q9 h h2 hi;generalize hiv : a.eval i' = ivv at hir;cases hir;have hx' := Xk (a := a) h1;have h0 := h.reg x;split at hev
    ·rename_i n cs hr;rw[hr] at h0;split at hev
     ·rename_i hb;cases hev;rw[← hx'] at h0;generalize hxv : a.eval x' = xv at h0;cases h0 with
      | nil0 => exact absurd hb (by omega)
      | e0 _ _ => exact absurd hb (by omega)
      | sl b off _ cap _ f hd hn hX hY hcell hrr =>
       have hmem : V0 Y (fun b => X0 b ∨ XS s a.tmps b) w b off cs := ⟨hd, fun j hj => ⟨f j, hcell j hj, hrr j hj⟩⟩;refine Z5 (v := .pointer (some ⟨b, off + iv.toNat * k, none⟩)) ?_ (hK _ _ ?_)
       ·simp only[execOp, hop, Instr.indexAt, Sem.run_bind, hiv, asIntOf, Sem.run_pure, Result.andThen_ok, run_underlying hu, hxv, hb, and_self, if_true, hsz, Vp]
       ·refine Rel.putMem h (Zo hkd hro.1) (fun hne => hX (fun hn => hne (by rw[hn]; simp))) (hmem.drop _)
     ·cases hev
    ·rename_i d' hr;split at hev
     ·rename_i hd;subst hd;split at hev
      ·rename_i k' n cs hr2;split at hev
       ·rename_i hb;obtain⟨rfl, hb⟩ := hb;cases hev;rw[hr] at h0;obtain⟨b, cap, e1, _⟩ := (h.ownLow hr2).resolve_left (fun hh => by omega);have hxv : a.eval x' = .slice (some ⟨b, 0, none⟩) n cap := by rw[hx', h0.2, e1]
        refine Z5 (v := .pointer (some ⟨b, 0 + iv.toNat * k', none⟩)) ?_ (hK _ _ ?_)
        ·simp only[execOp, hop, Instr.indexAt, Sem.run_bind, hiv, asIntOf, Sem.run_pure, Result.andThen_ok, run_underlying hu, hxv, hb, and_self, if_true, hsz, Vp]
        ·exact Rel.putPtr (p := ⟨b, 0, none⟩) h (Zo hkd hro.1) (Hl hro.2) (by rw[e1]; rfl) rfl
       ·cases hev
      ·cases hev
     ·cases hev
    ·cases hev
   ·cases hev
  ·cases hk
 case lno x d =>
  simp only[kOk] at hk;split at hk
  ·rename_i args ts hop;unfold Zj7 at hk;split at hk
   ·rename_i x' t hargs hts;simp only[Bool.and_eq_true] at hk;obtain⟨h1, h2⟩ := hk;have e1 : args = #[x'] := by rw[← Array.toArray_toList (xs := args), hargs]
    have e2 : ts = #[t] := by rw[← Array.toArray_toList (xs := ts), hts]
    subst e1 e2;split at h2
    ·rename_i e hu;simp only[evK] at hev;have fin : ∀ (base : Option Addr) (n c : Nat), a.eval x' = .slice base n c → (∀ a' w', Rel Y X0 roots w0 (Wb s o.dst (.val (.int .i64 n))) a' w' → K' a' w') → o.wp P a w K' Q := by
      intro base n c he hK';refine Z5 (v := .int .i64 n) ?_ (hK' _ _ (h.put (Zo hkd hro) (.int _ _)));simp[execOp, hop, resolve, invoke, builtin, Builtin.len_, he, run_underlying hu, goInt]
     have hx' := Xk (a := a) h1;have h0 := h.reg x;split at hev
     ·rename_i hr;cases hev;rw[hr, ← hx'] at h0;generalize hxv : a.eval x' = xv at h0;cases h0;exact fin _ _ _ hxv hK
     ·rename_i n cs hr;cases hev;rw[hr, ← hx'] at h0;generalize hxv : a.eval x' = xv at h0;cases h0 <;> exact fin _ _ _ hxv hK
     ·rename_i d' hr;split at hev
      ·rename_i hd;subst hd;split at hev
       ·rename_i k n cs hr2;cases hev;rw[hr] at h0;rcases h.ownLow hr2 with ⟨e1, rfl, _⟩ | ⟨b, cap, e1, _⟩
        ·exact fin _ _ _ (by rw[hx', h0.2, e1]) hK
        ·exact fin _ _ _ (by rw[hx', h0.2, e1]) hK
       ·cases hev
      ·cases hev
     ·cases hev
    ·cases h2
   ·cases hk
  ·cases hk
end
end Go.Ai

namespace Go.Ai
open Go.IntKind (i64 u64 u32)
open Go.RowKit
def Sj (ops:Array Oper):Option (Nat × Bool)->Option (Nat × Bool)->Bool
 | none,none=>true
 | some (j,b),some (t,b')=>(ops[j]?).bind (·.dst)==some t&&b==b'
 | _,_=>false
def Zos (roots:List (Nat × Nat)) (io:IOp):Bool:=io.g.isNone || W1 roots io.ks io.dst
def oOk (P:Program) (roots:List (Nat × Nat)) (ops:Array Oper) (o:Oper) (io:IOp):Bool :=
 kOk P o.op io.k&&o.dst==io.dst&&Uk roots io.ks io.dst io.k&&Sj ops o.guard io.g&&Zos roots io
section
variable {P:Program} {Y X0:Nat->Prop} {roots:List (Nat × Nat)} {w0 w:World} {s:Zg} {a:Act} {Q:Exit->Act->World->Prop}
theorem Tk (h:Rel Y X0 roots w0 s a w) {ops:Array Oper} {o:Oper} {g:Option (Nat × Bool)} {b:Bool} (hg:Sj ops o.guard g=true) (hw:Kn s g=some b):Region.wanted o (yielded ops a.tmps)=b:=by
 unfold Sj at hg;split at hg
 ·rename_i h1;simp only[Kn,Option.some.injEq] at hw;subst hw;simp[Region.wanted,h1]
 ·rename_i j b1 t b2 h1;simp only[Bool.and_eq_true,beq_iff_eq] at hg;obtain⟨h2,rfl⟩:=hg;have h0:=h.reg t;simp only[Kn] at hw;simp only[Region.wanted,h1,yielded,h2,Option.bind_some];have hlt:∀ v,a.tmps.getD t Go.undef=v->v ≠ Go.undef->a.tmps[t]?=some v:=by
   intro v hv hne;rw[Array.getD_eq_getD_getElem?] at hv;cases hh:a.tmps[t]? with
   | none=>rw[hh] at hv;exact absurd hv.symm hne
   | some u=>rw[hh] at hv;simp at hv;rw[hv]
  cases hr:Z7 s t with
  | val x =>
   rw[hr] at hw h0;generalize hv:a.tmps.getD t Go.undef=v at h0;cases h0 with
   | bool c =>
    dsimp only at hw;rw[hlt _ hv (by nofun)];simp only[Option.some.injEq] at hw;rw[<- hw];cases c <;> cases b1 <;> rfl
   | undef =>
    dsimp only at hw;simp only[Option.some.injEq] at hw;rw[<- hw];rw[Array.getD_eq_getD_getElem?] at hv;cases hh:a.tmps[t]? with
    | none=>simp
    | some u=>rw[hh] at hv;simp at hv;rw[hv];simp[Go.undef]
   | int _ _=>cases hw
   | str _=>cases hw
   | agg _ _ _ _ _=>cases hw
   | tup _ _ _ _=>cases hw
   | nil=>cases hw
   | nil0=>cases hw
   | e0 _ _=>cases hw
   | sl _ _ _ _ _ _ _ _ _ _ _=>cases hw
   | pt _ _ _ _ _ _ _ _=>cases hw
   | fnc _ _ _ _=>cases hw
  | box _=>rw[hr] at hw;cases hw
  | ptr _ _=>rw[hr] at hw;cases hw
  | mem _=>rw[hr] at hw;cases hw
  | own _ _ _=>rw[hr] at hw;cases hw
  | agn _ _ _ _=>rw[hr] at hw;cases hw
  | bxl _=>rw[hr] at hw;cases hw
  | dup _=>rw[hr] at hw;cases hw
  | sub _ _ _ _=>rw[hr] at hw;cases hw
  | dead=>rw[hr] at hw;cases hw
 ·cases hg
theorem simOp {ops:Array Oper} {i:Nat} {o:Oper} {io:IOp} {F:Qd} {s':Zg} {K':Act->World->Prop} (h:Rel Y X0 roots w0 s a w) (hF:D1 P F) (hi:ops[i]?=some o) (ho:oOk P roots ops o io=true)
  (hev:Df F io s=some s') (hK:∀ a' w',Rel Y X0 roots w0 s' a' w'->K' a' w'):wpOp P ops Q i K' a w:=by
 simp only[oOk,Bool.and_eq_true,beq_iff_eq] at ho;obtain⟨⟨⟨⟨h1,h2⟩,h3⟩,h4⟩,h5⟩:=ho;simp only[Df,Ff] at hev;have hkd:∀ t∈io.ks,Vc (Z7 (kill s io.ks) t)=false:=fun t ht=>by rw[Xn,if_pos ht];rfl
 have h:=h.kill io.ks;generalize kill s io.ks=s at *
 simp only[wpOp,hi];split at hev
 ·cases hev
 ·rename_i hw;cases hev;rw[Tk h h4 hw];simp only[Bool.false_eq_true,if_false];rw[h2];refine hK _ _ (h.put ?_ .undef);simp only[Zos,Bool.or_eq_true] at h5;rcases h5 with h5 | h5
  ·cases hg:io.g with
   | none=>rw[hg] at hw;cases hw
   | some p=>rw[hg] at h5;cases h5
  ·exact Zo hkd h5
 ·rename_i hw;rw[Tk h h4 hw];simp only[if_true];split at hev
  ·cases hev
  ·rename_i r l hk;cases hev;rw[<- h2] at hK h3;exact .inl (simK h hF h1 hkd h3 hk hK)
def Mn (P:Program) (roots:List (Nat × Nat)) (ops:Array Oper):List Oper->List IOp->Bool
 | [],[]=>true
 | o::l,io::m=>oOk P roots ops o io&&Mn P roots ops l m
 | _,_=>false
theorem Al {ops:Array Oper}:∀ {l:List Oper} {m:List IOp},Mn P roots ops l m=true->l.length=m.length/\∀ (i:Nat) (o:Oper) (io:IOp),l[i]?=some o->m[i]?=some io->oOk P roots ops o io=true
 | [],[],_=>⟨rfl,fun i o io h=>(by simp at h)⟩
 | o::l,io::m,h=>by
  simp only[Mn,Bool.and_eq_true] at h;obtain⟨e1,e2⟩:=Al h.2;refine⟨by simp[e1],fun i o' io' h1 h2 => ?_⟩;cases i with
  | zero=>simp at h1 h2;subst h1 h2;exact h.1
  | succ i=>simp at h1 h2;exact e2 i o' io' h1 h2
 | [],_::_,h=>by cases h
 | _::_,[],h=>by cases h
theorem Zot {ops:Array Oper} {F:Qd} (hF:D1 P F):∀ {l:List Oper} {m:List IOp} {k:Nat} {s s':Zg} {a:Act} {w:World},(∀ j,l[j]?=ops[k+j]?)->Mn P roots ops l m=true->Rel Y X0 roots w0 s a w ->
  Up F m s=some s'->(∀ a' w',Rel Y X0 roots w0 s' a' w'->Q .normal a' w')->wpOps P ops Q (List.range' k l.length) a w
 | [],[],k,s,s',a,w,_,_,h,hev,hQ=>by
  simp only[Up,Option.some.injEq] at hev;subst hev;exact hQ _ _ h
 | o::l,io::m,k,s,s',a,w,hl,hok,h,hev,hQ=>by
  simp only[Mn,Bool.and_eq_true] at hok;simp only[Up] at hev;cases h1:Df F io s with
  | none=>rw[h1] at hev;cases hev
  | some s1 =>
   rw[h1] at hev;have hi:ops[k]?=some o:=by simpa using (hl 0).symm
   rw[List.length_cons,List.range'_succ,wpOps_cons];exact simOp h hF hi hok.1 h1 fun a' w' h'=>Zot hF (fun j=>by have:=hl (j+1);simpa [Nat.add_assoc,Nat.add_comm 1 j] using this) hok.2 h' hev hQ
 | [],_::_,_,_,_,_,_,_,hok,_,_,_=>by cases hok
 | _::_,[],_,_,_,_,_,_,hok,_,_,_=>by cases hok
def Hw (o:Oper):List Nat:=(o.after.toList.filter (Region.binds .any)).map (·.on)
def Pv:List Oper->List (List Nat)->List (List Nat)
 | [],acc=>acc
 | o::l,acc=>Pv l (acc++[((Hw o)++(Hw o).flatMap fun p=>acc.getD p []).eraseDups])
theorem Zcd:∀ (l done:List Oper) (acc:List (List Nat)),acc.length=done.length ->
  (∀ (i j:Nat),j∈acc.getD i []->∃ o,done[i]?=some o/\∃ p∈Hw o,j=p\/(p<i/\j∈acc.getD p [])) ->
  ∀ (i j:Nat),j∈(Pv l acc).getD i []->∃ o,(done++l)[i]?=some o/\∃ p∈Hw o,j=p\/(p<i/\j∈(Pv l acc).getD p []):=by
 intro l;induction l with
 | nil=>intro done acc _ h i j hj;simpa [Pv] using h i j hj
 | cons o l ih =>
  intro done acc hlen h i j hj;simp only[Pv] at hj |-;have:=ih (done++[o]) (acc++[((Hw o)++(Hw o).flatMap fun p=>acc.getD p []).eraseDups]) (by simp[hlen]) (fun i j hj => ?_) i j hj
  ·simpa using this
  ·have lt_of:∀ (q x:Nat),x∈acc.getD q []->q<acc.length:=by
    intro q x hx;rcases Nat.lt_or_ge q acc.length with h1 | h1
    ·exact h1
    ·rw[List.getD_eq_getElem?_getD,List.getElem?_eq_none h1] at hx;cases hx
   have keep:∀ (q x:Nat),x∈acc.getD q []->x∈(acc++[((Hw o)++(Hw o).flatMap fun p=>acc.getD p []).eraseDups]).getD q []:=by
    intro q x hx;rw[List.getD_eq_getElem?_getD,List.getElem?_append_left (lt_of q x hx),<- List.getD_eq_getElem?_getD];exact hx
   rcases Nat.lt_or_ge i acc.length with h1 | h1
   ·rw[List.getD_eq_getElem?_getD,List.getElem?_append_left h1,<- List.getD_eq_getElem?_getD] at hj;obtain⟨o',e1,p,hp,e2⟩:=h i j hj;refine⟨o',by rw[List.getElem?_append_left (by omega)];exact e1,p,hp,?_⟩;rcases e2 with e2 | ⟨e2,e3⟩
    ·exact .inl e2
    ·exact .inr ⟨e2,keep p j e3⟩
   ·have hi:i=acc.length:=by
     rcases Nat.lt_or_ge acc.length i with h2 | h2
     ·rw[List.getD_eq_getElem?_getD,List.getElem?_eq_none (by simp;omega)] at hj;cases hj
     ·omega
    subst hi;rw[List.getD_eq_getElem?_getD,List.getElem?_append_right (Nat.le_refl _)] at hj;simp only[Nat.sub_self,List.getElem?_cons_zero,Option.getD_some,List.mem_eraseDups,List.mem_append,List.mem_flatMap] at hj;refine⟨o,by rw[hlen,List.getElem?_append_right (Nat.le_refl _)];simp,?_⟩;rcases hj with hj | ⟨p,hp,hj⟩
    ·exact⟨j,hj,.inl rfl⟩
    ·exact⟨p,hp,.inr ⟨lt_of p j hj,keep p j hj⟩⟩
def Zen (anc:List (List Nat)) (io:List IOp):Bool :=
 io.zipIdx.all fun (b,i)=>(io.take i).zipIdx.all fun (a,j)=>Si a b || (anc.getD i []).contains j
def Zpf (ops:List Oper):Bool:=ops.zipIdx.all fun (o,i)=>(Hw o).all fun p=>decide (p<i)
def Pj (ops:Array Oper) (io:List IOp):Bool:=Zpf ops.toList&&Zen (Pv ops.toList []) io
theorem Sr {ops:Array Oper} {io:List IOp} (h:Pj ops io=true) :
  (∀ (i:Nat) (o:Oper),ops[i]?=some o->∀ p∈Hw o,p<i) /\
  ∀ (i j:Nat) (a b:IOp),j<i->io[j]?=some a->io[i]?=some b->Si a b=true\/j∈(Pv ops.toList []).getD i []:=by
 simp only[Pj,Bool.and_eq_true] at h;constructor
 ·intro i o ho p hp;have h1:=h.1;simp only[Zpf,List.all_eq_true,Prod.forall] at h1;have:=h1 o i (by rw[List.mem_zipIdx_iff_getElem?];simpa using ho) p hp;simpa using this
 ·intro i j x b hji hj hi;have h1:=h.2;simp only[Zen,List.all_eq_true,Prod.forall] at h1;have h2:=h1 b i (by rw[List.mem_zipIdx_iff_getElem?];simpa using hi);have:=h2 x j (by rw[List.mem_zipIdx_iff_getElem?,List.getElem?_take_of_lt hji];simpa using hj);simpa using this
end
end Go.Ai
