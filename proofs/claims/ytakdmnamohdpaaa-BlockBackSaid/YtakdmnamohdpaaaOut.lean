/- Plain facts on the list that eight bytes stand for. No program. -/
import Derived.Test.YtakdmnamohdpaaaPlain
namespace Go.Proofs.Ytakdmnamohdpaaa

/-- Behind a client's number: who of the first k has epoch e is appended. -/
def inn (bs : List Int) (e : Nat) (l : List Int) : Nat → List Int
  | 0 => l
  | k + 1 => if ith bs k = e then inn bs e l k ++ [(k : Int)] else inn bs e l k
/-- Those of the first e epochs. -/
def outl (bs : List Int) : Nat → List Int
  | 0 => []
  | e + 1 => inn bs (e + 1) (outl bs e) 8

theorem mem_inn {bs : List Int} {e : Nat} {l : List Int} {x : Int} : ∀ k, x ∈ inn bs e l k ↔ x ∈ l ∨ ∃ j : Nat, j < k ∧ x = j ∧ ith bs j = e
  | 0 => by simp [inn]
  | k + 1 => by
    unfold inn
    have ih := mem_inn (bs := bs) (e := e) (l := l) (x := x) k
    by_cases h : ith bs k = e
    · rw [if_pos h, List.mem_append, ih]
      constructor
      · rintro ((h1 | ⟨j, hj, hx⟩) | h1)
        · exact .inl h1
        · exact .inr ⟨j, by omega, hx⟩
        · exact .inr ⟨k, by omega, by simpa using h1, h⟩
      · rintro (h1 | ⟨j, hj, hx, he⟩)
        · exact .inl (.inl h1)
        · by_cases hjk : j = k
          · subst hjk; exact .inr (by simpa using hx)
          · exact .inl (.inr ⟨j, by omega, hx, he⟩)
    · rw [if_neg h, ih]
      constructor
      · rintro (h1 | ⟨j, hj, hx⟩)
        · exact .inl h1
        · exact .inr ⟨j, by omega, hx⟩
      · rintro (h1 | ⟨j, hj, hx, he⟩)
        · exact .inl h1
        · by_cases hjk : j = k
          · subst hjk; exact absurd he h
          · exact .inr ⟨j, by omega, hx, he⟩

theorem mem_outl {bs : List Int} {x : Int} : ∀ e : Nat, x ∈ outl bs e ↔ ∃ j : Nat, j < 8 ∧ x = j ∧ 1 ≤ ith bs j ∧ ith bs j ≤ e
  | 0 => by
    simp only [outl]
    constructor
    · intro h; cases h
    · rintro ⟨j, _, _, h1, h2⟩; omega
  | e + 1 => by
    have ih := mem_outl (bs := bs) (x := x) e
    simp only [outl]
    rw [mem_inn, ih]
    constructor
    · rintro (⟨j, h1, h2, h3, h4⟩ | ⟨j, h1, h2, h3⟩)
      · exact ⟨j, h1, h2, h3, by omega⟩
      · exact ⟨j, h1, h2, by omega, by omega⟩
    · rintro ⟨j, h1, h2, h3, h4⟩
      by_cases h5 : ith bs j = ((e + 1 : Nat) : Int)
      · exact .inr ⟨j, h1, h2, h5⟩
      · exact .inl ⟨j, h1, h2, h3, by omega⟩

theorem inn_fresh {bs : List Int} {e k : Nat} (h : ith bs k = ((e + 1 : Nat) : Int)) : snc (inn bs (e + 1) (outl bs e) k) k = 0 := by
  rcases Nat.eq_zero_or_pos (snc (inn bs (e + 1) (outl bs e) k) k) with h0 | h0
  · exact h0
  · have hm := snc_pos.1 h0
    rw [mem_inn, mem_outl] at hm
    rcases hm with ⟨j, h1, h2, h3, h4⟩ | ⟨j, h1, h2, h3⟩
    · obtain rfl : k = j := by omega
      omega
    · omega

theorem Good.snoc {l : List Int} (h : Good l) {k : Nat} (hk : k < 8) (h0 : snc l k = 0) : Good (l ++ [(k : Int)]) := by
  have := h.addl (k : Int)
  rwa [addl_new (by omega) (by omega) h0] at this

theorem inn_good {bs : List Int} {e : Nat} (h : Good (outl bs e)) : ∀ k, k ≤ 8 → Good (inn bs (e + 1) (outl bs e) k)
  | 0, _ => h
  | k + 1, hk => by
    have ih := inn_good h k (by omega)
    unfold inn
    split
    · rename_i he; exact ih.snoc (by omega) (inn_fresh he)
    · exact ih

theorem outl_good (bs : List Int) : ∀ e, Good (outl bs e)
  | 0 => Good.nil
  | e + 1 => inn_good (outl_good bs e) 8 (by omega)

/-- Do the list's epochs read as the eight bytes? -/
def same8 (l bs : List Int) : Bool := (((snc l 0 : Int) == ith bs 0) && (((snc l 1 : Int) == ith bs 1) && (((snc l 2 : Int) == ith bs 2) && (((snc l 3 : Int) == ith bs 3) && (((snc l 4 : Int) == ith bs 4) && (((snc l 5 : Int) == ith bs 5) && (((snc l 6 : Int) == ith bs 6) && ((snc l 7 : Int) == ith bs 7))))))))

theorem same8_iff {l bs : List Int} : same8 l bs = true ↔ ∀ j : Nat, j < 8 → (snc l j : Int) = ith bs j := by
  unfold same8
  simp only [Bool.and_eq_true, beq_iff_eq]
  constructor
  · rintro ⟨h0, h1, h2, h3, h4, h5, h6, h7⟩ j hj
    obtain rfl | rfl | rfl | rfl | rfl | rfl | rfl | rfl : j = 0 ∨ j = 1 ∨ j = 2 ∨ j = 3 ∨ j = 4 ∨ j = 5 ∨ j = 6 ∨ j = 7 := by omega
    all_goals assumption
  · intro h
    exact ⟨h 0 (by omega), h 1 (by omega), h 2 (by omega), h 3 (by omega), h 4 (by omega), h 5 (by omega), h 6 (by omega), h 7 (by omega)⟩

/-- One of the first k has the epoch: it alone is appended. -/
theorem inn_one {bs : List Int} {e : Nat} {l : List Int} {i : Nat} (hi : ith bs i = e) (hu : ∀ j : Nat, j < 8 → ith bs j = e → j = i) : ∀ k, k ≤ 8 → inn bs e l k = if i < k then l ++ [(i : Int)] else l
  | 0, _ => by simp [inn]
  | k + 1, hk => by
    have ih := inn_one (l := l) hi hu k (by omega)
    unfold inn
    rw [ih]
    by_cases h : ith bs k = e
    · obtain rfl := hu k (by omega) h
      simp [h]
    · rw [if_neg h]
      have hne : k ≠ i := fun e' => h (e' ▸ hi)
      by_cases hik : i < k
      · rw [if_pos hik, if_pos (by omega)]
      · rw [if_neg hik, if_neg (by omega)]

theorem inn_no {bs : List Int} {e : Nat} {l : List Int} (hu : ∀ j : Nat, j < 8 → ith bs j ≠ e) : ∀ k, k ≤ 8 → inn bs e l k = l
  | 0, _ => rfl
  | k + 1, hk => by unfold inn; rw [if_neg (hu k (by omega)), inn_no hu k (by omega)]

/-! ### What is packed is unpacked -/
theorem out_place {l : List Int} {x : Int} (h : 0 < snc l x) : ith l (snc l x - 1) = x := by
  unfold ith
  induction l with
  | nil => simp [snc] at h
  | cons a r ih =>
    simp only [snc] at h ⊢
    by_cases ha : a = x
    · simp [ha]
    · simp only [ha, if_false] at h ⊢
      by_cases h0 : snc r x = 0
      · simp [h0] at h
      · have := ih (by omega)
        simp only [h0, if_false]
        rw [show snc r x + 1 - 1 = (snc r x - 1) + 1 by omega]
        simpa using this

theorem out_ith {l : List Int} (h : Good l) {i : Nat} (hi : i < l.length) : snc l (ith l i) = i + 1 := by
  refine snc_found hi rfl fun j hj e => ?_
  unfold ith at e
  simp only [List.getD_eq_getElem?_getD, List.getElem?_eq_getElem hi, List.getElem?_eq_getElem (show j < l.length by omega), Option.getD_some] at e
  exact List.pairwise_iff_getElem.1 h.nodup j i (by omega) hi hj e

theorem outl_back {l bs : List Int} (h : Good l) (hb : ∀ j : Nat, j < 8 → ith bs j = snc l j) : ∀ e : Nat, outl bs e = l.take e
  | 0 => by simp [outl]
  | e + 1 => by
    have ih := outl_back h hb e
    simp only [outl]
    rw [ih]
    by_cases he : e < l.length
    · have hm : ith l e ∈ l := by
        unfold ith
        simp only [List.getD_eq_getElem?_getD, List.getElem?_eq_getElem he, Option.getD_some]
        exact List.getElem_mem he
      have h0 := h.lo _ hm
      have h7 := h.hi _ hm
      obtain ⟨i, hi⟩ := Int.eq_ofNat_of_zero_le h0
      have hs := out_ith h he
      rw [hi] at hs
      have hi8 : i < 8 := by omega
      have hbi : ith bs i = ((e + 1 : Nat) : Int) := by rw [hb i hi8, hs]
      have hu : ∀ j : Nat, j < 8 → ith bs j = ((e + 1 : Nat) : Int) → j = i := fun j hj hje => by
        rw [hb j hj] at hje
        have h1 := out_place (l := l) (x := (j : Int)) (by omega)
        rw [show snc l (j : Int) - 1 = e by omega, hi] at h1
        omega
      rw [inn_one hbi hu 8 (Nat.le_refl _), if_pos hi8, List.take_add_one, List.getElem?_eq_getElem he]
      have : l[e] = (i : Int) := by
        have := hi
        unfold ith at this
        simpa [List.getElem?_eq_getElem he] using this
      rw [this]
      rfl
    · rw [inn_no (fun j hj hje => by rw [hb j hj] at hje; have := snc_le l j; omega) 8 (Nat.le_refl _)]
      rw [List.take_of_length_le (by omega), List.take_of_length_le (by omega)]

theorem outl_all {l bs : List Int} (h : Good l) (hb : ∀ j : Nat, j < 8 → ith bs j = snc l j) : outl bs 8 = l := by
  rw [outl_back h hb 8, List.take_of_length_le h.length]

end Go.Proofs.Ytakdmnamohdpaaa
