/- Plain facts on the row of four holders: who holds which image's lock (-1: nobody). No program. -/
namespace Go.Proofs.Ytakdmnamohdpaaa

/-- The k-th number. -/
def nth (l : List Int) (k : Nat) : Int := l.getD k 0

/-- Who holds the lock; below 0: nobody, or no image. -/
def hold (t : List Int) (x : Int) : Int := if 0 ≤ x ∧ x < 4 then nth t x.toNat else -1
/-- The holder, or 0. -/
def heldBy (t : List Int) (x : Int) : Int := if 0 ≤ hold t x then hold t x else 0

/-- An image and a client? -/
def okB (i c : Int) : Bool := decide (0 ≤ i) && (decide (i < 4) && (decide (0 ≤ c) && decide (c < 8)))
/-- What a taker hears. -/
def busyE (t : List Int) (i c : Int) : Int := if 0 ≤ hold t i ∧ hold t i ≠ c then 130 else 0
/-- What a giver hears. -/
def holderE (t : List Int) (i c : Int) : Int := if 0 ≤ hold t i ∧ hold t i = c then 0 else 131

/-- Nobody holds any. -/
def noneT : List Int := [-1, -1, -1, -1]

structure GoodT (t : List Int) : Prop where
  len : t.length = 4
  lo : ∀ k, k < 4 → -1 ≤ nth t k
  hi : ∀ k, k < 4 → nth t k ≤ 7

theorem GoodT.none : GoodT noneT := by
  refine ⟨rfl, fun k hk => ?_, fun k hk => ?_⟩
  all_goals
    obtain rfl | rfl | rfl | rfl : k = 0 ∨ k = 1 ∨ k = 2 ∨ k = 3 := by omega
    all_goals decide

theorem GoodT.range {t : List Int} (h : GoodT t) (x : Int) : -1 ≤ hold t x ∧ hold t x ≤ 7 := by
  unfold hold
  split
  · exact ⟨h.lo _ (by omega), h.hi _ (by omega)⟩
  · omega

theorem hold_none (x : Int) : hold noneT x = -1 := by
  unfold hold
  split
  · rename_i h
    obtain ⟨k, rfl⟩ := Int.eq_ofNat_of_zero_le h.1
    obtain rfl | rfl | rfl | rfl : k = 0 ∨ k = 1 ∨ k = 2 ∨ k = 3 := by omega
    all_goals rfl
  · rfl

/-- With another holder. -/
def setT (t : List Int) (x v : Int) : List Int := t.set x.toNat v

theorem nth_set {t : List Int} {i k : Nat} {v : Int} (hi : i < t.length) : nth (t.set i v) k = if k = i then v else nth t k := by
  unfold nth
  simp only [List.getD_eq_getElem?_getD, List.getElem?_set]
  by_cases h : i = k
  · subst h; simp [hi]
  · have : ¬ k = i := fun e => h e.symm
    simp [h, this]

theorem hold_set {t : List Int} (h : GoodT t) {x : Int} (hx : 0 ≤ x ∧ x < 4) (v y : Int) : hold (setT t x v) y = if y = x then v else hold t y := by
  unfold hold setT
  by_cases hy : 0 ≤ y ∧ y < 4
  · rw [if_pos hy, if_pos hy, nth_set (by rw [h.len]; omega)]
    by_cases e : y = x
    · subst e; simp
    · rw [if_neg e, if_neg (by omega)]
  · rw [if_neg hy, if_neg hy, if_neg (by omega)]

theorem GoodT.set {t : List Int} (h : GoodT t) {x v : Int} (hx : 0 ≤ x ∧ x < 4) (hv : -1 ≤ v ∧ v ≤ 7) : GoodT (setT t x v) := by
  unfold setT
  refine ⟨by simp [h.len], fun k hk => ?_, fun k hk => ?_⟩
  all_goals
    rw [nth_set (by rw [h.len]; omega)]
    split
    · omega
    · first | exact h.lo k hk | exact h.hi k hk

end Go.Proofs.Ytakdmnamohdpaaa
