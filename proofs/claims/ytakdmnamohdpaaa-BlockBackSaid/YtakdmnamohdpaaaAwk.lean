/- The example that each statement of layer 12 asks first, walked. -/
import Derived.Test.YtakdmnamohdpaaaRef
import Derived.Test.YtakdmnamohdpaaaReg
namespace Go.Proofs.Ytakdmnamohdpaaa
open Go.RowKit

theorem IsList.drew {w : World} {b : Nat} {l : List Int} (h : IsList w b l) : IsList w.drew b l := ⟨h.block, h.good⟩
theorem IsList.alloc {w : World} {b : Nat} {l : List Int} (h : IsList w b l) (o : Obj) : IsList (w.alloc o) b l := h.grown (World.grownBy_alloc w o none) (by simp)

/-- The text of eight bytes: what a list packs to. -/
def txt (l : List Int) : ByteArray := strOfNums ((List.range 8).map fun j : Nat => (snc l j : Int))

theorem conv_at {w : World} {g : Nat} {l : List Int} {cap : Nat} (hc : ∀ j : Nat, j < 8 → w.cell? ⟨g, j, none⟩ = some (.int .u8 (snc l j))) :
    (convert 31 9 (.slice (some ⟨g, 0, none⟩) 8 cap)).run Try.prog w = .ok (.string (txt l)) w :=
  run_convert_bytes_arg w 31 5 Try.underlying31 Try.underlying5 g 0 8 cap ((List.range 8).map fun j : Nat => (snc l j : Int)) (by simp)
    (fun i hi => by rw [Nat.zero_add, hc i hi]; simp [List.getD, List.getElem?_map, List.getElem?_range hi]) 9 Try.underlying9

theorem blk_cell {w : World} {g : Nat} {l : List Int} {t : TypeId} (h : w.heap[g]? = some (.cells (pck l) t (0, 0))) (j : Nat) (hj : j < 8) : w.cell? ⟨g, j, none⟩ = some (.int .u8 (snc l j)) := by
  rw [cell_of_row _ _ _ _ _ _ h]
  obtain rfl | rfl | rfl | rfl | rfl | rfl | rfl | rfl : j = 0 ∨ j = 1 ∨ j = 2 ∨ j = 3 ∨ j = 4 ∨ j = 5 ∨ j = 6 ∨ j = 7 := by omega
  all_goals rfl

theorem conv_blk {w : World} {g : Nat} {l : List Int} {t : TypeId} (h : w.heap[g]? = some (.cells (pck l) t (0, 0))) (cap : Nat) :
    (convert 31 9 (.slice (some ⟨g, 0, none⟩) 8 cap)).run Try.prog w = .ok (.string (txt l)) w := conv_at (blk_cell h)

theorem add_is {w : World} {b : Nat} {l : List Int} (h : IsList w b l) (x : Int) (l' : List Int) (s : Int) (hl : addl l x = l') (hs : (snc l' x : Int) = s) : Calls Try.prog 15 #[.pointer (some ⟨b, 0, none⟩), .int .i64 x] w fun e w' =>
    e = .returned (.int .i64 s) ∧ IsList w' b l' ∧ w.grownBy w' (some b) := by
  subst hl hs
  exact add_list h x

theorem is_is {w : World} {b : Nat} {l : List Int} (h : IsList w b l) (x : Int) (s : Bool) (hs : decide (0 < (snc l x : Int)) = s) : Calls Try.prog 19 #[.pointer (some ⟨b, 0, none⟩), .int .i64 x] w fun e w' => e = .returned (.bool s) ∧ w = w' := by
  subst hs
  exact is_list h x

theorem epoch_is {w : World} {b : Nat} {l : List Int} (h : IsList w b l) (s : Int) (hs : (l.length : Int) = s) : Calls Try.prog 18 #[.pointer (some ⟨b, 0, none⟩)] w fun e w' => e = .returned (.int .i64 s) ∧ w = w' := by
  subst hs
  exact epoch_list h

set_option maxHeartbeats 1000000 in
theorem awake12 (w : World) : Calls Try.prog 13 #[] w fun e w' => e = .returned (.bool true) ∧ Below w.heap.size w w' := by
  go_enter Try.func13, Try.ntmps13
  go_wp2_with fail
  refine (new_isList w).mono ?_
  rintro e w1 ⟨rfl, h1, g1⟩
  have B1 := Lib.hid ((Below.refl _ _).grown g1 (Nat.le_refl _) (by simp))
  have H1 := Lib.hid h1
  clear h1 g1
  have hb0 : w.heap.size ≤ w.heap.size := Nat.le_refl _
  have hb1 := H1.out.lt
  generalize hb : w.heap.size = b at *
  have Hb := Lib.hid hb
  clear hb
  go_wp2_with fail
  refine (add_is H1.out 3 [3] 1 (by decide) (by decide)).mono ?_
  rintro e w2 ⟨rfl, h2, g2⟩
  have B2 := Lib.hid (B1.out.grown g2 (by omega) (by simp))
  have H2 := Lib.hid h2
  have hb2 := h2.lt
  clear h2 g2
  go_wp2_with fail
  refine (add_is H2.out 5 [3, 5] 2 (by decide) (by decide)).mono ?_
  rintro e w3 ⟨rfl, h3, g3⟩
  have B3 := Lib.hid (B2.out.grown g3 (by omega) (by simp))
  have H3 := Lib.hid h3
  have hb3 := h3.lt
  clear h3 g3
  go_wp2_with fail
  refine (add_is H3.out 3 [3, 5] 1 (by decide) (by decide)).mono ?_
  rintro e w4 ⟨rfl, h4, g4⟩
  have B4 := Lib.hid (B3.out.grown g4 (by omega) (by simp))
  have H4 := Lib.hid h4
  have hb4 := h4.lt
  clear h4 g4
  clear B1 B2 B3 H1 H2 H3 hb1 hb2 hb3
  go_wp2_with fail
  refine held_begin (fun w' => IsList w' b [3, 5]) (by kernel_rfl) H4.out.drew ?_
  have hS0 : (fun w' => IsList w' b [3, 5]) w4.drew := H4.out.drew
  refine held_take 0 ?_ rfl (by kernel_rfl) (by kernel_rfl) (by kernel_rfl) (fun _ _ _ h => h) (by rfl) ?_ hS0 ?_
  rotate_left
  · intro wS hSw; go_simp <;> with_reducible rfl
  simp only [Act.put, List.setIfInBounds_toArray, List.set_cons_zero, List.set_cons_succ]
  refine held_take 1 ?_ rfl (by kernel_rfl) (by kernel_rfl) (by kernel_rfl) (fun _ _ _ h => h) (by rfl) ?_ hS0 ?_
  rotate_left
  · intro wS hSw; go_simp <;> with_reducible rfl
  simp only [Act.put, List.setIfInBounds_toArray, List.set_cons_zero, List.set_cons_succ]
  refine held_take 2 ?_ rfl (by kernel_rfl) (by kernel_rfl) (by kernel_rfl) (fun _ _ _ h => h) (by rfl) ?_ hS0 ?_
  rotate_left
  · intro wS hSw; go_simp <;> with_reducible rfl
  simp only [Act.put, List.setIfInBounds_toArray, List.set_cons_zero, List.set_cons_succ]
  refine held_take 3 ?_ rfl (by kernel_rfl) (by kernel_rfl) (by kernel_rfl) (fun _ _ _ h => h) (by rfl) ?_ hS0 ?_
  rotate_left
  · intro wS hSw; go_simp <;> with_reducible rfl
  simp only [Act.put, List.setIfInBounds_toArray, List.set_cons_zero, List.set_cons_succ]
  refine held_take 4 ?_ rfl (by kernel_rfl) (by kernel_rfl) (by kernel_rfl) (fun _ _ _ h => h) (by rfl) ?_ hS0 ?_
  rotate_left
  · intro wS hSw; go_simp <;> with_reducible rfl
  simp only [Act.put, List.setIfInBounds_toArray, List.set_cons_zero, List.set_cons_succ]
  refine held_take 5 ?_ rfl (by kernel_rfl) (by kernel_rfl) (by kernel_rfl) (fun _ _ _ h => h) (by rfl) ?_ hS0 ?_
  rotate_left
  · intro wS hSw; go_simp <;> with_reducible rfl
  simp only [Act.put, List.setIfInBounds_toArray, List.set_cons_zero, List.set_cons_succ]
  refine held_take 6 ?_ rfl (by kernel_rfl) (by kernel_rfl) (by kernel_rfl) (fun _ _ _ h => h) (by rfl) ?_ hS0 ?_
  rotate_left
  · intro wS hSw; go_simp <;> with_reducible rfl
  simp only [Act.put, List.setIfInBounds_toArray, List.set_cons_zero, List.set_cons_succ]
  refine held_take 7 ?_ rfl (by kernel_rfl) (by kernel_rfl) (by kernel_rfl) (fun _ _ _ h => h) (by rfl) ?_ hS0 ?_
  rotate_left
  · intro wS hSw; go_simp <;> with_reducible rfl
  simp only [Act.put, List.setIfInBounds_toArray, List.set_cons_zero, List.set_cons_succ]
  refine held_take 8 ?_ rfl (by kernel_rfl) (by kernel_rfl) (by kernel_rfl) (fun _ _ _ h => h) (by rfl) ?_ hS0 ?_
  rotate_left
  · intro wS hSw; go_simp <;> with_reducible rfl
  simp only [Act.put, List.setIfInBounds_toArray, List.set_cons_zero, List.set_cons_succ]
  refine held_take 9 ?_ rfl (by kernel_rfl) (by kernel_rfl) (by kernel_rfl) (fun _ _ _ h => h) (by rfl) ?_ hS0 ?_
  rotate_left
  · intro wS hSw; go_simp <;> with_reducible rfl
  simp only [Act.put, List.setIfInBounds_toArray, List.set_cons_zero, List.set_cons_succ]
  refine held_take 10 ?_ rfl (by kernel_rfl) (by kernel_rfl) (by kernel_rfl) (fun _ _ _ h => h) (by rfl) ?_ hS0 ?_
  rotate_left
  · intro wS hSw; go_simp <;> with_reducible rfl
  simp only [Act.put, List.setIfInBounds_toArray, List.set_cons_zero, List.set_cons_succ]
  refine held_take 11 ?_ rfl (by kernel_rfl) (by kernel_rfl) (by kernel_rfl) (fun _ _ _ h => h) (by rfl) ?_ hS0 ?_
  rotate_left
  · intro wS hSw; go_simp <;> with_reducible rfl
  simp only [Act.put, List.setIfInBounds_toArray, List.set_cons_zero, List.set_cons_succ]
  refine held_one 12 rfl (by kernel_rfl) (by rfl) (fun K hK => ?_)
  go_simp
  refine (epoch_is (b := b) (l := [3, 5]) hS0 2 (by decide)).mono ?_
  rintro e wx ⟨rfl, rfl⟩
  refine hK.out _ _ _ (fun _ h => h) hS0 (fun _ => ?_)
  clear hK K
  refine held_take 13 ?_ rfl (by kernel_rfl) (by kernel_rfl) (by kernel_rfl) (fun _ _ _ h => h) (by rfl) ?_ hS0 ?_
  rotate_left
  · intro wS hSw; go_simp <;> with_reducible rfl
  simp only [Act.put, List.setIfInBounds_toArray, List.set_cons_zero, List.set_cons_succ]
  refine held_take 14 ?_ rfl (by kernel_rfl) (by kernel_rfl) (by kernel_rfl) (fun _ _ _ h => h) (by rfl) ?_ hS0 ?_
  rotate_left
  · intro wS hSw; go_simp <;> with_reducible rfl
  simp only [Act.put, List.setIfInBounds_toArray, List.set_cons_zero, List.set_cons_succ]
  refine held_take 15 ?_ rfl (by kernel_rfl) (by kernel_rfl) (by kernel_rfl) (fun _ _ _ h => h) (by rfl) ?_ hS0 ?_
  rotate_left
  · intro wS hSw; go_simp <;> with_reducible rfl
  simp only [Act.put, List.setIfInBounds_toArray, List.set_cons_zero, List.set_cons_succ]
  refine held_take 16 ?_ rfl (by kernel_rfl) (by kernel_rfl) (by kernel_rfl) (fun _ _ _ h => h) (by rfl) ?_ hS0 ?_
  rotate_left
  · intro wS hSw; go_simp <;> with_reducible rfl
  simp only [Act.put, List.setIfInBounds_toArray, List.set_cons_zero, List.set_cons_succ]
  refine held_one 17 rfl (by kernel_rfl) (by rfl) (fun K hK => ?_)
  go_simp
  refine (is_is (b := b) (l := [3, 5]) hS0 5 true (by decide)).mono ?_
  rintro e wx ⟨rfl, rfl⟩
  refine hK.out _ _ _ (fun _ h => h) hS0 (fun _ => ?_)
  clear hK K
  refine held_take 18 ?_ rfl (by kernel_rfl) (by kernel_rfl) (by kernel_rfl) (fun _ _ _ h => h) (by rfl) ?_ hS0 ?_
  rotate_left
  · intro wS hSw; go_simp <;> with_reducible rfl
  simp only [Act.put, List.setIfInBounds_toArray, List.set_cons_zero, List.set_cons_succ]
  refine held_take 19 ?_ rfl (by kernel_rfl) (by kernel_rfl) (by kernel_rfl) (fun _ _ _ h => h) (by rfl) ?_ hS0 ?_
  rotate_left
  · intro wS hSw; go_simp <;> with_reducible rfl
  simp only [Act.put, List.setIfInBounds_toArray, List.set_cons_zero, List.set_cons_succ]
  refine held_take 20 ?_ rfl (by kernel_rfl) (by kernel_rfl) (by kernel_rfl) (fun _ _ _ h => h) (by rfl) ?_ hS0 ?_
  rotate_left
  · intro wS hSw; go_simp <;> with_reducible rfl
  simp only [Act.put, List.setIfInBounds_toArray, List.set_cons_zero, List.set_cons_succ]
  refine held_one 21 rfl (by kernel_rfl) (by rfl) (fun K hK => ?_)
  go_simp
  refine (is_is (b := b) (l := [3, 5]) hS0 4 false (by decide)).mono ?_
  rintro e wx ⟨rfl, rfl⟩
  refine hK.out _ _ _ (fun _ h => h) hS0 (fun _ => ?_)
  clear hK K
  refine held_take 22 ?_ rfl (by kernel_rfl) (by kernel_rfl) (by kernel_rfl) (fun _ _ _ h => h) (by rfl) ?_ hS0 ?_
  rotate_left
  · intro wS hSw; go_simp <;> with_reducible rfl
  simp only [Act.put, List.setIfInBounds_toArray, List.set_cons_zero, List.set_cons_succ]
  refine held_take 23 ?_ rfl (by kernel_rfl) (by kernel_rfl) (by kernel_rfl) (fun _ _ _ h => h) (by rfl) ?_ hS0 ?_
  rotate_left
  · intro wS hSw; go_simp <;> with_reducible rfl
  simp only [Act.put, List.setIfInBounds_toArray, List.set_cons_zero, List.set_cons_succ]
  refine held_take 24 ?_ rfl (by kernel_rfl) (by kernel_rfl) (by kernel_rfl) (fun _ _ _ h => h) (by rfl) ?_ hS0 ?_
  rotate_left
  · intro wS hSw; go_simp <;> with_reducible rfl
  simp only [Act.put, List.setIfInBounds_toArray, List.set_cons_zero, List.set_cons_succ]
  refine held_take 25 ?_ rfl (by kernel_rfl) (by kernel_rfl) (by kernel_rfl) (fun _ _ _ h => h) (by rfl) ?_ hS0 ?_
  rotate_left
  · intro wS hSw; go_simp <;> with_reducible rfl
  simp only [Act.put, List.setIfInBounds_toArray, List.set_cons_zero, List.set_cons_succ]
  refine held_two 26 28 rfl rfl (by kernel_rfl) (by rfl) (by rfl) (fun K hK => ?_) (fun K hK => ?_)
  · go_simp
    refine (pack_list (b := b) (l := [3, 5]) hS0).mono ?_
    rintro e wx ⟨rfl, rfl⟩
    refine hK.out (fun w' => IsList w' b [3, 5] ∧ w'.heap[w4.heap.size]? = some (.cells (pck [3, 5]) 64 (0, 0))) _ _ (fun _ h => h.1) ⟨H4.out.drew.alloc _, Go.heap_alloc_new w4.drew _⟩ (fun hS1 => ?_)
    clear hK K
    refine held_take 27 ?_ rfl (by kernel_rfl) (by kernel_rfl) (by kernel_rfl) (fun _ _ _ h => h) (by rfl) ?_ hS1 ?_
    rotate_left
    · intro wS hSw; have hcv := conv_blk hSw.2 8; go_simp <;> with_reducible rfl
    simp only [Act.put, List.setIfInBounds_toArray, List.set_cons_zero, List.set_cons_succ]
    refine held_one 28 rfl (by kernel_rfl) (by rfl) (fun K hK => ?_)
    go_simp
    refine hK.out (fun w' => (IsList w' b [3, 5] ∧ w'.heap[w4.heap.size]? = some (.cells (pck [3, 5]) 64 (0, 0))) ∧ w'.heap[w4.heap.size + 1]? = some (.cells (pck [3, 5]) 5 (0, 0))) _ _ (fun _ h => h.1) ⟨⟨hS1.1.alloc _, (World.grownBy_alloc _ _ none).block _ (by simp) (by simp) |>.trans hS1.2⟩, Go.heap_alloc2_new w4 _ _⟩ (fun hS2 => ?_)
    clear hK K
    refine held_take 29 ?_ rfl (by kernel_rfl) (by kernel_rfl) (by kernel_rfl) (fun _ _ _ h => h) (by rfl) ?_ hS2 ?_
    rotate_left
    · intro wS hSw; have hcv := conv_blk hSw.2 8; go_simp <;> with_reducible rfl
    simp only [Act.put, List.setIfInBounds_toArray, List.set_cons_zero, List.set_cons_succ]
    refine held_take 30 ?_ rfl (by kernel_rfl) (by kernel_rfl) (by kernel_rfl) (fun _ _ _ h => h) (by rfl) ?_ hS2 ?_
    rotate_left
    · intro wS hSw; go_simp <;> with_reducible rfl
    simp only [Act.put, List.setIfInBounds_toArray, List.set_cons_zero, List.set_cons_succ]
    refine held_take 31 ?_ rfl (by kernel_rfl) (by kernel_rfl) (by kernel_rfl) (fun _ _ _ h => h) (by rfl) ?_ hS2 ?_
    rotate_left
    · intro wS hSw; go_simp <;> with_reducible rfl
    simp only [Act.put, List.setIfInBounds_toArray, List.set_cons_zero, List.set_cons_succ]
    refine held_take 32 ?_ rfl (by kernel_rfl) (by kernel_rfl) (by kernel_rfl) (fun _ _ _ h => h) (by rfl) ?_ hS2 ?_
    rotate_left
    · intro wS hSw; go_simp <;> with_reducible rfl
    simp only [Act.put, List.setIfInBounds_toArray, List.set_cons_zero]
    refine wpAnyH_done (by kernel_rfl) ?_ _
    refine NoPanic.normal ?_
    go_wp2
    go_ret
    exact ⟨rfl, Hb.out ▸ ((B4.out.drew.alloc (by simp; omega) _).alloc (by simp; omega) _)⟩
  · go_simp
    refine hK.out (fun w' => IsList w' b [3, 5] ∧ w'.heap[w4.heap.size]? = some (.cells (pck [3, 5]) 5 (0, 0))) _ _ (fun _ h => h.1) ⟨H4.out.drew.alloc _, Go.heap_alloc_new w4.drew _⟩ (fun hS1 => ?_)
    clear hK K
    refine held_take 29 ?_ rfl (by kernel_rfl) (by kernel_rfl) (by kernel_rfl) (fun _ _ _ h => h) (by rfl) ?_ hS1 ?_
    rotate_left
    · intro wS hSw; have hcv := conv_blk hSw.2 8; go_simp <;> with_reducible rfl
    simp only [Act.put, List.setIfInBounds_toArray, List.set_cons_zero, List.set_cons_succ]
    refine held_one 26 rfl (by kernel_rfl) (by rfl) (fun K hK => ?_)
    go_simp
    refine (pack_list (b := b) (l := [3, 5]) hS1.1).mono ?_
    rintro e wx ⟨rfl, rfl⟩
    refine hK.out (fun w' => (IsList w' b [3, 5] ∧ w'.heap[w4.heap.size]? = some (.cells (pck [3, 5]) 5 (0, 0))) ∧ w'.heap[w4.heap.size + 1]? = some (.cells (pck [3, 5]) 64 (0, 0))) _ _ (fun _ h => h.1) ⟨⟨hS1.1.alloc _, (World.grownBy_alloc _ _ none).block _ (by simp) (by simp) |>.trans hS1.2⟩, Go.heap_alloc2_new w4 _ _⟩ (fun hS2 => ?_)
    clear hK K
    refine held_take 27 ?_ rfl (by kernel_rfl) (by kernel_rfl) (by kernel_rfl) (fun _ _ _ h => h) (by rfl) ?_ hS2 ?_
    rotate_left
    · intro wS hSw; have hcv := conv_blk hSw.2 8; go_simp <;> with_reducible rfl
    simp only [Act.put, List.setIfInBounds_toArray, List.set_cons_zero, List.set_cons_succ]
    refine held_take 30 ?_ rfl (by kernel_rfl) (by kernel_rfl) (by kernel_rfl) (fun _ _ _ h => h) (by rfl) ?_ hS2 ?_
    rotate_left
    · intro wS hSw; go_simp <;> with_reducible rfl
    simp only [Act.put, List.setIfInBounds_toArray, List.set_cons_zero, List.set_cons_succ]
    refine held_take 31 ?_ rfl (by kernel_rfl) (by kernel_rfl) (by kernel_rfl) (fun _ _ _ h => h) (by rfl) ?_ hS2 ?_
    rotate_left
    · intro wS hSw; go_simp <;> with_reducible rfl
    simp only [Act.put, List.setIfInBounds_toArray, List.set_cons_zero, List.set_cons_succ]
    refine held_take 32 ?_ rfl (by kernel_rfl) (by kernel_rfl) (by kernel_rfl) (fun _ _ _ h => h) (by rfl) ?_ hS2 ?_
    rotate_left
    · intro wS hSw; go_simp <;> with_reducible rfl
    simp only [Act.put, List.setIfInBounds_toArray, List.set_cons_zero]
    refine wpAnyH_done (by kernel_rfl) ?_ _
    refine NoPanic.normal ?_
    go_wp2
    go_ret
    exact ⟨rfl, Hb.out ▸ ((B4.out.drew.alloc (by simp; omega) _).alloc (by simp; omega) _)⟩
end Go.Proofs.Ytakdmnamohdpaaa
