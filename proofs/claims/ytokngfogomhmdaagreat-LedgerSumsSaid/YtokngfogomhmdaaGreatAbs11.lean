/- A region that draws its order: every order comes to the same end. -/
import Derived.Test.YtokngfogomhmdaaGreatAbs10
namespace Go.Ai
open Go.RowKit

section
variable {P : Program} {Y X0 : Nat → Prop} {roots : List (Nat × Nat)} {w0 : Base} {Q : Exit → Act → World → Prop}

/-- The operations that have not come up yet, in the order of the text. -/
def openIx (n : Nat) (listed : Array Bool) : List Nat := (List.range n).filter fun i => !listed.getD i true

theorem mem_openIx {n i : Nat} {listed : Array Bool} : i ∈ openIx n listed ↔ i < n ∧ listed.getD i true = false := by
  simp [openIx]

theorem getD_sets (listed : Array Bool) (i j : Nat) (d : Bool) : (listed.setIfInBounds i true).getD j d = if i = j ∧ i < listed.size then true else listed.getD j d := by
  simp only [Array.getD_eq_getD_getElem?, Array.getElem?_setIfInBounds]
  by_cases h : i = j
  · subst h
    by_cases h2 : i < listed.size <;> simp [h2]
  · simp [h]

theorem filter_split {l : List Nat} (hs : l.Pairwise (· < ·)) {i : Nat} (hi : i ∈ l) : ∃ pre post, l = pre ++ i :: post ∧ (∀ j ∈ pre, j < i) ∧ l.filter (fun j => decide (j ≠ i)) = pre ++ post := by
  induction l with
  | nil => cases hi
  | cons k l ih =>
    rw [List.pairwise_cons] at hs
    by_cases hk : k = i
    · subst hk
      refine ⟨[], l, rfl, fun j hj => (by cases hj), ?_⟩
      simp only [List.nil_append]
      rw [List.filter_cons_of_neg (by simp)]
      refine List.filter_eq_self.2 fun j hj => ?_
      have := hs.1 j hj
      simp
      omega
    · have hi' : i ∈ l := by
        cases hi with
        | head => exact absurd rfl hk
        | tail _ h => exact h
      obtain ⟨pre, post, e1, e2, e3⟩ := ih hs.2 hi'
      refine ⟨k :: pre, post, by rw [e1]; rfl, fun j hj => ?_, ?_⟩
      · cases hj with
        | head => exact hs.1 i hi'
        | tail _ h => exact e2 j h
      · rw [List.filter_cons_of_pos (by simp [hk]), e3]; rfl

theorem openIx_sorted (n : Nat) (listed : Array Bool) : (openIx n listed).Pairwise (· < ·) := List.Pairwise.filter _ List.pairwise_lt_range

theorem openIx_set {n i : Nat} {listed : Array Bool} (hi : i < listed.size) : openIx n (listed.setIfInBounds i true) = (openIx n listed).filter fun j => decide (j ≠ i) := by
  unfold openIx
  rw [List.filter_filter]
  apply List.filter_congr
  intro j _
  rw [getD_sets]
  by_cases h : i = j
  · subst h; simp [hi]
  · have h' : ¬ j = i := fun e => h e.symm
    simp [h, h']

def ioAt (io : List IOp) (i : Nat) : IOp := io.getD i ⟨none, .mov (.c .undef), none, []⟩

/-- What has come up is closed: whoever has come up, those for whom he waited have. -/
def Closed (ops : Array Oper) (listed : Array Bool) : Prop := ∀ (i : Nat) (o : Oper), ops[i]? = some o → listed.getD i false = true → ∀ p ∈ preds o, listed.getD p false = true

theorem anc_listed {ops : Array Oper} {listed : Array Bool} (hc : Closed ops listed) : ∀ (i : Nat) (o : Oper), ops[i]? = some o → (∀ p ∈ preds o, listed.getD p false = true) → ∀ j ∈ (ancGo ops.toList []).getD i [], listed.getD j false = true := by
  intro i
  induction i using Nat.strongRecOn with
  | _ i ih =>
    intro o ho hp j hj
    obtain ⟨o', e1, p, hpp, e2⟩ := ancGo_spec ops.toList [] [] rfl (fun i j h => (by simp at h)) i j hj
    simp only [List.nil_append, Array.getElem?_toList] at e1
    rw [ho] at e1
    cases e1
    rcases e2 with rfl | ⟨hlt, e3⟩
    · exact hp _ hpp
    · have hl := hp p hpp
      have hps : p < ops.size := by
        have := (Array.getElem?_eq_some_iff.1 ho).1
        omega
      exact ih p hlt ops[p] (by simp [hps]) (hc p ops[p] (by simp [hps]) hl) j e3

theorem simAny {ops : Array Oper} {io : List IOp} {F : Caller} {sf : State} (hF : CallOk P F) (hok : opsOk P roots ops ops.toList io = true) (hdr : drawOk ops io = true) (hQ : ∀ a' w', Rel Y X0 roots w0 sf a' w' → Q .normal a' w') :
    ∀ (fuel : Nat) (listed : Array Bool) (s : State) (a : Act) (w : World), listed.size = ops.size → Closed ops listed → (openIx ops.size listed).length ≤ fuel → Rel Y X0 roots w0 s a w →
      evOps F ((openIx ops.size listed).map (ioAt io)) s = some sf → wpAny P .any ops Q fuel listed a w := by
  obtain ⟨hback, hpairs⟩ := drawOk_spec hdr
  obtain ⟨hlen, hget⟩ := opsOk_get hok
  have hlen' : io.length = ops.size := by simpa using hlen.symm
  -- nobody may come up: all have
  have stop : ∀ (listed : Array Bool), listed.size = ops.size → Region.ready .any ops listed = [] → openIx ops.size listed = [] := by
    intro listed hsz hr
    cases hop : openIx ops.size listed with
    | nil => rfl
    | cons i rest =>
      exfalso
      have hi := mem_openIx.1 (hop ▸ List.mem_cons_self : i ∈ openIx ops.size listed)
      have hs := openIx_sorted ops.size listed
      rw [hop, List.pairwise_cons] at hs
      have hready : i ∈ Region.ready .any ops listed := by
        rw [mem_ready]
        refine ⟨hi.2, ops[i], by simp [hi.1], fun e he hb => ?_⟩
        have hp : e.on ∈ preds ops[i] := by
          simp only [preds, List.mem_map, List.mem_filter]
          exact ⟨e, ⟨by simpa using he, hb⟩, rfl⟩
        have hlt := hback i ops[i] (by simp [hi.1]) e.on hp
        cases hh : listed.getD e.on true with
        | false =>
          have : e.on ∈ openIx ops.size listed := mem_openIx.2 ⟨by omega, hh⟩
          rw [hop] at this
          cases this with
          | head => omega
          | tail _ h => have := hs.1 _ h; omega
        | true =>
          have hsz' : e.on < listed.size := by omega
          simp only [Array.getD_eq_getD_getElem?, Array.getElem?_eq_getElem hsz', Option.getD_some] at hh ⊢
          exact hh
      rw [hr] at hready
      cases hready
  intro fuel
  induction fuel with
  | zero =>
    intro listed s a w hsz hc hl h hev
    have h0 : openIx ops.size listed = [] := List.eq_nil_of_length_eq_zero (by omega)
    rw [h0] at hev
    simp only [List.map_nil, evOps, Option.some.injEq] at hev
    subst hev
    refine ⟨?_, hQ _ _ h⟩
    cases hr : Region.ready .any ops listed with
    | nil => rfl
    | cons i rest =>
      have hi : i ∈ Region.ready .any ops listed := by rw [hr]; exact List.mem_cons_self
      rw [mem_ready] at hi
      obtain ⟨h1, o, h2, _⟩ := hi
      have : i ∈ openIx ops.size listed := mem_openIx.2 ⟨(Array.getElem?_eq_some_iff.1 h2).1, h1⟩
      rw [h0] at this
      cases this
  | succ fuel ih =>
    intro listed s a w hsz hc hl h hev
    refine ⟨fun hr => ?_, fun i hi => ?_⟩
    · rw [stop listed hsz hr] at hev
      simp only [List.map_nil, evOps, Option.some.injEq] at hev
      subst hev
      exact hQ _ _ h
    · rw [mem_ready] at hi
      obtain ⟨h1, o, h2, h3⟩ := hi
      have hin : i < ops.size := (Array.getElem?_eq_some_iff.1 h2).1
      have hmem : i ∈ openIx ops.size listed := mem_openIx.2 ⟨hin, h1⟩
      obtain ⟨pre, post, e1, e2, e3⟩ := filter_split (openIx_sorted _ _) hmem
      have hpr : ∀ p ∈ preds o, listed.getD p false = true := by
        intro p hp
        simp only [preds, List.mem_map, List.mem_filter] at hp
        obtain ⟨e, ⟨he, hb⟩, rfl⟩ := hp
        exact h3 e (by simpa using he) hb
      have hioi : io[i]? = some (ioAt io i) := by
        simp only [ioAt, List.getD_eq_getElem?_getD, List.getElem?_eq_getElem (hlen' ▸ hin), Option.getD_some]
      have hind : ∀ q ∈ pre.map (ioAt io), indep q (ioAt io i) = true := by
        intro q hq
        rw [List.mem_map] at hq
        obtain ⟨j, hj, rfl⟩ := hq
        have hjlt := e2 j hj
        have hjop : j ∈ openIx ops.size listed := by rw [e1]; exact List.mem_append_left _ hj
        have hj2 := mem_openIx.1 hjop
        have hioj : io[j]? = some (ioAt io j) := by
          simp only [ioAt, List.getD_eq_getElem?_getD, List.getElem?_eq_getElem (hlen' ▸ hj2.1), Option.getD_some]
        rcases hpairs i j _ _ hjlt hioj hioi with hh | hh
        · exact hh
        · have hlj := anc_listed hc i o h2 hpr j hh
          have hsz' : j < listed.size := by omega
          simp only [Array.getD_eq_getD_getElem?, Array.getElem?_eq_getElem hsz', Option.getD_some] at hlj hj2
          rw [hlj] at hj2
          cases hj2.2
      rw [e1, List.map_append, List.map_cons] at hev
      obtain ⟨s1, hs1, hs2⟩ := evOps_first hind hev
      rw [← List.map_append, ← e3, ← openIx_set (by omega)] at hs2
      refine simOp h hF h2 (hget i o _ (by simpa using h2) hioi) hs1 fun a' w' h' => ?_
      refine ih (listed.setIfInBounds i true) s1 a' w' (by simpa using hsz) ?_ ?_ h' hs2
      · intro k ok hk hkl p hp
        rw [getD_sets] at hkl
        rw [getD_sets]
        split
        · rfl
        · split at hkl
          · rename_i hik
            obtain ⟨rfl, _⟩ := hik
            rw [h2] at hk
            cases hk
            exact hpr p hp
          · exact hc k ok hk hkl p hp
      · rw [openIx_set (by omega), e3]
        rw [e1] at hl
        simp at hl ⊢
        omega

/-- **A region that draws its order**: the abstract machine's run in the order of the text speaks of every order. -/
theorem simDrawn {ops : Array Oper} {io : List IOp} {F : Caller} {s sf : State} {a : Act} {w : World} {id : Nat} (hm : P.follows .mixedOrders = true) (hF : CallOk P F) (hok : opsOk P roots ops ops.toList io = true) (hdr : drawOk ops io = true)
    (h : Rel Y X0 roots w0 s a w) (hev : evOps F io s = some sf) (hQ : ∀ a' w', Rel Y X0 roots w0 sf a' w' → Q .normal a' w') : (Code.region id ops true).wp P Q a w := by
  have hlen := (opsOk_get hok).1
  refine wp_region_any hm ?_
  have hall : openIx ops.size (Array.replicate ops.size false) = List.range ops.size := by
    unfold openIx
    refine List.filter_eq_self.2 fun i hi => ?_
    have : i < ops.size := by simpa using hi
    simp [Array.getD_eq_getD_getElem?, this]
  refine simAny hF hok hdr hQ ops.size _ s a _ (by simp) ?_ (by rw [hall]; simp) ⟨h.dfr, h.size, ⟨h.below.os, h.below.tape, h.below.output, h.below.size, h.below.block⟩, h.low, h.lowY, fun t => RegOk.world (h.reg t) ⟨rfl, rfl, rfl, Nat.le_refl _, fun _ _ => rfl⟩, h.inj⟩ ?_
  · intro i o ho hl
    have hi := (Array.getElem?_eq_some_iff.1 ho).1
    simp [Array.getD_eq_getD_getElem?, hi] at hl
  · rw [hall]
    have : (List.range ops.size).map (ioAt io) = io := by
      apply List.ext_getElem?
      intro i
      have hl' : io.length = ops.size := by simpa using hlen.symm
      by_cases hi : i < ops.size
      · simp [hi, ioAt, List.getD_eq_getElem?_getD, List.getElem?_eq_getElem (hl' ▸ hi)]
      · rw [List.getElem?_eq_none (by simp; omega), List.getElem?_eq_none (by omega)]
    rw [this]
    exact hev

/-- A region in the order of the text. -/
theorem simPlain {ops : Array Oper} {io : List IOp} {F : Caller} {s sf : State} {a : Act} {w : World} {id : Nat} (hF : CallOk P F) (hok : opsOk P roots ops ops.toList io = true)
    (h : Rel Y X0 roots w0 s a w) (hev : evOps F io s = some sf) (hQ : ∀ a' w', Rel Y X0 roots w0 sf a' w' → Q .normal a' w') : (Code.region id ops false).wp P Q a w := by
  refine wp_region ?_
  have := simOps (Q := Q) hF (k := 0) (fun j => by simp) hok h hev hQ
  rw [List.range_eq_range']
  simpa using this

end
end Go.Ai
