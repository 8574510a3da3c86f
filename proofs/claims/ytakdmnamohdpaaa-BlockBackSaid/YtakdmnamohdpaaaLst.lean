/- The block list as a list of those who were blocked, in order: what each method does to it. -/
import Derived.Test.YtakdmnamohdpaaaBlk
namespace Go.Proofs.Ytakdmnamohdpaaa
open Go.RowKit

/-- The nine cells of a block list. -/
def lst (l : List Int) : Array Value := #[.int .u8 (snc l 0), .int .u8 (snc l 1), .int .u8 (snc l 2), .int .u8 (snc l 3), .int .u8 (snc l 4), .int .u8 (snc l 5), .int .u8 (snc l 6), .int .u8 (snc l 7), .int .i64 l.length]
/-- The eight bytes that it packs to. -/
def pck (l : List Int) : Array Value := #[.int .u8 (snc l 0), .int .u8 (snc l 1), .int .u8 (snc l 2), .int .u8 (snc l 3), .int .u8 (snc l 4), .int .u8 (snc l 5), .int .u8 (snc l 6), .int .u8 (snc l 7)]

/-- Block b is the block list of those. -/
structure IsList (w : World) (b : Nat) (l : List Int) : Prop where
  block : w.heap[b]? = some (.cells (lst l) 66 (0, 0))
  good : Good l

theorem IsList.lt {w : World} {b : Nat} {l : List Int} (h : IsList w b l) : b < w.heap.size := (Array.getElem?_eq_some_iff.1 h.block).1

theorem IsList.cell {w : World} {b : Nat} {l : List Int} (h : IsList w b l) (k : Nat) (hk : k < 8) : w.cell? ⟨b, k, none⟩ = some (.int .u8 (snc l k)) := by
  rw [cell_of_row _ _ _ _ _ _ h.block]
  obtain rfl | rfl | rfl | rfl | rfl | rfl | rfl | rfl : k = 0 ∨ k = 1 ∨ k = 2 ∨ k = 3 ∨ k = 4 ∨ k = 5 ∨ k = 6 ∨ k = 7 := by omega
  all_goals rfl

theorem IsList.cell8 {w : World} {b : Nat} {l : List Int} (h : IsList w b l) : w.cell? ⟨b, 8, none⟩ = some (.int .i64 l.length) := by
  rw [cell_of_row _ _ _ _ _ _ h.block]
  rfl

theorem IsList.free {w : World} {b : Nat} {l : List Int} (h : IsList w b l) (k : Nat) : w.frozen? ⟨b, k, none⟩ = false := frozen_of_row _ _ _ _ _ h.block

theorem IsList.of_block {w w' : World} {b : Nat} {l : List Int} (h : IsList w b l) (hb : w'.heap[b]? = w.heap[b]?) : IsList w' b l := ⟨hb.trans h.block, h.good⟩
theorem IsList.grown {w w' : World} {b : Nat} {l : List Int} {row : Option Nat} (h : IsList w b l) (hg : w.grownBy w' row) (hne : some b ≠ row) : IsList w' b l := h.of_block (hg.block b h.lt hne)
theorem IsList.drewN {w : World} {b : Nat} {l : List Int} (h : IsList w b l) (n : Nat) : IsList (w.drewN n) b l := ⟨h.block, h.good⟩

theorem snc_out {l : List Int} (h : Good l) {x : Int} (hx : x < 0 ∨ 7 < x) : snc l x = 0 := by
  rcases Nat.eq_zero_or_pos (snc l x) with h0 | h0
  · exact h0
  · have hm := snc_pos.1 h0
    have := h.lo x hm
    have := h.hi x hm
    omega

theorem lst_snoc {l : List Int} (k : Nat) (hk : k < 8) (h0 : snc l k = 0) : ((lst l).setIfInBounds 8 (.int .i64 (l.length + 1))).setIfInBounds k (.int .u8 (l.length + 1)) = lst (l ++ [(k : Int)]) := by
  have key : ∀ j : Int, snc (l ++ [(k : Int)]) j = if j = k then l.length + 1 else snc l j := fun j => by
    rw [snc_snoc]
    by_cases hj : j = k
    · subst hj; simp [h0]
    · have : ¬ (k : Int) = j := fun e => hj e.symm
      simp only [hj, this, if_false]
      split <;> omega
  unfold lst
  simp only [key, List.length_append, List.length_cons, List.length_nil]
  obtain rfl | rfl | rfl | rfl | rfl | rfl | rfl | rfl : k = 0 ∨ k = 1 ∨ k = 2 ∨ k = 3 ∨ k = 4 ∨ k = 5 ∨ k = 6 ∨ k = 7 := by omega
  all_goals simp

/-- Since. -/
theorem since_list {w : World} {b : Nat} {l : List Int} (h : IsList w b l) (x : Int) : Calls Try.prog 20 #[.pointer (some ⟨b, 0, none⟩), .int .i64 x] w fun e w' => e = .returned (.int .i64 (snc l x)) ∧ w = w' := by
  by_cases h0 : x < 0
  · rw [snc_out h.good (Or.inl h0)]; exact since_lo b x w h0
  · by_cases h1 : 8 ≤ x
    · rw [snc_out h.good (Or.inr (by omega))]; exact since_hi b x w h1
    · obtain ⟨k, rfl⟩ := Int.eq_ofNat_of_zero_le (Int.not_lt.1 h0)
      have := snc_le l k
      have := h.good.length
      exact since_at b k _ w (by omega) (h.cell k (by omega)) (by omega) (by omega)

theorem is_list {w : World} {b : Nat} {l : List Int} (h : IsList w b l) (x : Int) : Calls Try.prog 19 #[.pointer (some ⟨b, 0, none⟩), .int .i64 x] w fun e w' => e = .returned (.bool (decide (0 < (snc l x : Int)))) ∧ w = w' :=
  is_of _ x _ w (since_list h x)

theorem epoch_list {w : World} {b : Nat} {l : List Int} (h : IsList w b l) : Calls Try.prog 18 #[.pointer (some ⟨b, 0, none⟩)] w fun e w' => e = .returned (.int .i64 l.length) ∧ w = w' :=
  epoch_at b _ w h.cell8

theorem grownBy_setCell (w : World) (a : Addr) (v : Value) : w.grownBy (w.setCell a v) (some a.block) :=
  ⟨rfl, rfl, rfl, by simp [World.setCell], fun k _ hk => Below.heap_setCell _ _ _ _ (fun e => hk (by rw [e]))⟩
theorem grownBy_drew (w : World) (row : Option Nat) : w.grownBy w.drew row := ⟨rfl, rfl, rfl, Nat.le_refl _, fun _ _ _ => rfl⟩
theorem grownBy_refl (w : World) (row : Option Nat) : w.grownBy w row := ⟨rfl, rfl, rfl, Nat.le_refl _, fun _ _ _ => rfl⟩
theorem grownBy_trans {a b c : World} {row : Option Nat} (h : a.grownBy b row) (k : b.grownBy c row) : a.grownBy c row :=
  ⟨k.os.trans h.os, k.tape.trans h.tape, k.output.trans h.output, Nat.le_trans h.size k.size, fun i hi hne => (k.block i (Nat.lt_of_lt_of_le hi h.size) hne).trans (h.block i hi hne)⟩

/-- Add. -/
theorem add_list {w : World} {b : Nat} {l : List Int} (h : IsList w b l) (x : Int) : Calls Try.prog 15 #[.pointer (some ⟨b, 0, none⟩), .int .i64 x] w fun e w' =>
    e = .returned (.int .i64 (snc (addl l x) x)) ∧ IsList w' b (addl l x) ∧ w.grownBy w' (some b) := by
  by_cases h0 : x < 0
  · rw [snc_addl_of (Or.inl h0), snc_out h.good (Or.inl h0)]
    exact (add_lo b x w h0).mono fun e w' ⟨he, hw⟩ => ⟨he, hw ▸ h, hw ▸ grownBy_refl _ _⟩
  · by_cases h1 : 8 ≤ x
    · rw [snc_addl_of (Or.inr (Or.inl (by omega))), snc_out h.good (Or.inr (by omega))]
      exact (add_hi b x w h1).mono fun e w' ⟨he, hw⟩ => ⟨he, hw ▸ h, hw ▸ grownBy_refl _ _⟩
    · obtain ⟨k, rfl⟩ := Int.eq_ofNat_of_zero_le (Int.not_lt.1 h0)
      have hle := snc_le l k
      have hlen := h.good.length
      by_cases h2 : snc l k = 0
      · have hg := h.good.addl (k : Int)
        rw [addl_new (by omega) (by omega) h2] at hg ⊢
        have hc := h.cell k (by omega)
        rw [h2] at hc
        refine (add_new b k l.length w (by omega) hc h.cell8 (h.free k) (h.free 8) (by omega) (by omega)).mono fun e w' ⟨he, hw⟩ => ?_
        subst hw
        refine ⟨?_, ⟨?_, hg⟩, ?_⟩
        · rw [he, snc_snoc, h2]; simp
        · rw [← lst_snoc k (by omega) h2]
          exact heap_setCell_same _ b k _ 66 _ (heap_setCell_same _ b 8 _ 66 _ h.block)
        · exact grownBy_trans (grownBy_trans (grownBy_setCell w ⟨b, 8, none⟩ _) (grownBy_drew _ _)) (grownBy_setCell _ ⟨b, k, none⟩ _)
      · rw [snc_addl_of (Or.inr (Or.inr (by omega)))]
        exact (add_old b k _ w (by omega) (h.cell k (by omega)) (by omega) (by omega)).mono fun e w' ⟨he, hw⟩ => ⟨he, hw ▸ h, hw ▸ grownBy_refl _ _⟩

/-- Pack. -/
theorem pack_list {w : World} {b : Nat} {l : List Int} (h : IsList w b l) : Calls Try.prog 21 #[.pointer (some ⟨b, 0, none⟩)] w fun e w' =>
    e = .returned (.slice (some ⟨w.heap.size, 0, none⟩) 8 8) ∧ w' = w.alloc (.cells (pck l) 64) :=
  pack_at b _ _ _ _ _ _ _ _ w (h.cell 0 (by omega)) (h.cell 1 (by omega)) (h.cell 2 (by omega)) (h.cell 3 (by omega)) (h.cell 4 (by omega)) (h.cell 5 (by omega)) (h.cell 6 (by omega)) (h.cell 7 (by omega))

/-- New. -/
theorem new_isList (w : World) : Calls Try.prog 14 #[] w fun e w' => e = .returned (.pointer (some ⟨w.heap.size, 0, none⟩)) ∧ IsList w' w.heap.size [] ∧ w.grownBy w' none := by
  refine (new_list w).mono fun e w' ⟨he, hw⟩ => ?_
  subst hw
  exact ⟨he, ⟨heap_alloc_new _ _, Good.nil⟩, World.grownBy_alloc _ _ _⟩

end Go.Proofs.Ytakdmnamohdpaaa
