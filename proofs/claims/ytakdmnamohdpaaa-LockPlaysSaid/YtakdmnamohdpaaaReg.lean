/- A region that draws its order, walked in one order of our choice: what yields its value in every world of which S is known is taken first; behind a call or an allocation more may be known. After Derived.OrdersHeld. -/
import Derived.OrdersHeld
import Derived.Deep.RegionHeld3
namespace Go.Proofs.Ytakdmnamohdpaaa

section
variable {P : Program} {Q : Exit → Act → World → Prop} {S S' : World → Prop} {l : List Oper}

/-- Knowing more does no harm. -/
theorem held_more (hSS : ∀ w, S' w → S w) : ∀ (fuel : Nat) (listed : Array Bool) (a : Act) (w : World), wpAnyH P .any l.toArray Q S' fuel listed a w → wpAnyH P .any l.toArray Q S fuel listed a w
  | 0, _, _, _, h => h
  | fuel + 1, _, _, _, h => ⟨h.1, fun i hi => wpOp_mono (fun a' w' h' => ⟨hSS w' h'.1, held_more hSS fuel _ a' w' h'.2⟩) (h.2 i hi)⟩

/-- Operation number i yields v in every world of which S is known: it is taken first. -/
theorem held_take (i : Nat) {oi : Oper} {fuel : Nat} {listed : Array Bool} {a : Act} {w : World} (v : Value) (hi : l[i]? = some oi) (hs : Region.noSelect l.toArray = true)
    (hf : Region.free .any l.toArray listed i = true) (hr : (Region.ready .any l.toArray listed).contains i = true) (hQ : ∀ c a w, Q (.panic c) (a.put oi.dst v) w → Q (.panic c) a w)
    (hw : Region.wanted oi (yielded l.toArray a.tmps) = true) (hy : ∀ w, S w → (execOp a.eval oi).run P w = .ok (.value v) w) (hS : S w)
    (h : wpAnyH P .any l.toArray Q S fuel (listed.setIfInBounds i true) (a.put oi.dst v) w) : wpAnyH P .any l.toArray Q S (fuel + 1) listed a w :=
  wpAnyH_take (by simpa using hi) hs hf hr hQ (.inl ⟨hw, hy⟩) hS h

/-- Operation number i is passed over by its guard. -/
theorem held_skip (i : Nat) {oi : Oper} {fuel : Nat} {listed : Array Bool} {a : Act} {w : World} (hi : l[i]? = some oi) (hs : Region.noSelect l.toArray = true)
    (hf : Region.free .any l.toArray listed i = true) (hr : (Region.ready .any l.toArray listed).contains i = true) (hQ : ∀ c a w, Q (.panic c) (a.put oi.dst undef) w → Q (.panic c) a w)
    (hw : Region.wanted oi (yielded l.toArray a.tmps) = false) (hS : S w)
    (h : wpAnyH P .any l.toArray Q S fuel (listed.setIfInBounds i true) (a.put oi.dst undef) w) : wpAnyH P .any l.toArray Q S (fuel + 1) listed a w :=
  wpAnyH_take (by simpa using hi) hs hf hr hQ (.inr ⟨hw, rfl⟩) hS h

/-- Operation number i alone may come up next; behind it S' is known. -/
theorem held_one (i : Nat) {oi : Oper} {fuel : Nat} {listed : Array Bool} {a : Act} {w : World} (hi : l[i]? = some oi) (hr : Region.ready .any l.toArray listed = [i])
    (hw : Region.wanted oi (yielded l.toArray a.tmps) = true)
    (h : ∀ K : Act → World → Prop, Shut (∀ (S' : World → Prop) a' w', (∀ w, S' w → S w) → S' w' → (S' w' → wpAnyH P .any l.toArray Q S' fuel (listed.setIfInBounds i true) a' w') → K a' w') → oi.wp P a w K Q) :
    wpAnyH P .any l.toArray Q S (fuel + 1) listed a w := by
  refine wpAnyH_all hr (by simp) fun j hj => ?_
  obtain rfl : j = i := by simpa using hj
  unfold wpOp
  have hi' : l.toArray[j]? = some oi := by simpa using hi
  simp only [hi', hw, if_true]
  exact .inl (h _ fun S' a' w' hSS hS' hr' => ⟨hSS w' hS', held_more hSS _ _ _ _ (hr' hS')⟩)

/-- One of two operations comes up next. -/
theorem held_two (i j : Nat) {oi oj : Oper} {fuel : Nat} {listed : Array Bool} {a : Act} {w : World} (hi : l[i]? = some oi) (hj : l[j]? = some oj) (hr : Region.ready .any l.toArray listed = [i, j])
    (hwi : Region.wanted oi (yielded l.toArray a.tmps) = true) (hwj : Region.wanted oj (yielded l.toArray a.tmps) = true)
    (h1 : ∀ K : Act → World → Prop, Shut (∀ (S' : World → Prop) a' w', (∀ w, S' w → S w) → S' w' → (S' w' → wpAnyH P .any l.toArray Q S' fuel (listed.setIfInBounds i true) a' w') → K a' w') → oi.wp P a w K Q)
    (h2 : ∀ K : Act → World → Prop, Shut (∀ (S' : World → Prop) a' w', (∀ w, S' w → S w) → S' w' → (S' w' → wpAnyH P .any l.toArray Q S' fuel (listed.setIfInBounds j true) a' w') → K a' w') → oj.wp P a w K Q) :
    wpAnyH P .any l.toArray Q S (fuel + 1) listed a w := by
  refine wpAnyH_all hr (by simp) fun k hk => ?_
  have hi' : l.toArray[i]? = some oi := by simpa using hi
  have hj' : l.toArray[j]? = some oj := by simpa using hj
  rcases List.mem_cons.1 hk with rfl | hk
  · unfold wpOp
    simp only [hi', hwi, if_true]
    exact .inl (h1 _ fun S' a' w' hSS hS' hr' => ⟨hSS w' hS', held_more hSS _ _ _ _ (hr' hS')⟩)
  · obtain rfl : k = j := by simpa using hk
    unfold wpOp
    simp only [hj', hwj, if_true]
    exact .inl (h2 _ fun S' a' w' hSS hS' hr' => ⟨hSS w' hS', held_more hSS _ _ _ _ (hr' hS')⟩)

/-- The beginning. -/
theorem held_begin {id : Nat} {a : Act} {w : World} (S : World → Prop) (hm : P.follows .mixedOrders = true) (hS : S w.drew)
    (h : wpAnyH P .any l.toArray (NoPanic Q) S l.toArray.size (Array.replicate l.toArray.size false) a w.drew) : (Code.region id l.toArray true).wp P Q a w :=
  wp_region_noPanic (wp_region_held_drew hm hS fun _ => h)
end
end Go.Proofs.Ytakdmnamohdpaaa
