/- BlockPacks, walked: it returns true, and writes nothing that was there. -/
import Derived.Test.YtakdmnamohdpaaaRun
namespace Go.Proofs.Ytakdmnamohdpaaa
open Go.RowKit

theorem u8_range {n : Int} (h : (Lit.int .u8 n).wf = true) : 0 ≤ n ∧ n ≤ 255 := by
  simp only [Lit.wf, IntKind.min, IntKind.max, IntKind.signed, IntKind.bits, Bool.and_eq_true] at h
  simp at h
  omega

theorem IsRow.src {w : World} {a : Option Addr} {cap : Nat} {zs : List Int} (h : IsRow .u8 w a 8 cap zs) : ∃ b off, a = some ⟨b, off, none⟩ ∧ b < w.heap.size ∧ ∀ w', Below w.heap.size w w' → Src w' b off zs := by
  obtain ⟨b, off, rfl, hb, hc⟩ := h.at (by omega)
  refine ⟨b, off, rfl, hb, fun w' hw' => ⟨fun j hj => hc j hj w' hw', fun j hj => ?_⟩⟩
  rcases h with ⟨h1, _⟩ | ⟨_, _, h1, _, h3, _, hwf⟩
  · cases h1
  · unfold ith
    have hj' : j < zs.length := by omega
    simp only [List.getD_eq_getElem?_getD, List.getElem?_eq_getElem hj', Option.getD_some]
    exact u8_range (hwf _ (List.getElem_mem hj'))

/-- What the last test of BlockPacks rests on. -/
structure Packs (w : World) (lb lo b off : Nat) (v : Value) (l bs : List Int) (wr : World) : Prop where
  list : IsList wr lb l
  ints : Ints wr lo v l
  src : Src wr b off bs
  below : Below w.heap.size w wr

theorem Src.grown {w w' : World} {b off : Nat} {bs : List Int} {row : Option Nat} (h : Src w b off bs) (hg : w.grownBy w' row) (hr : some b ≠ row) : Src w' b off bs := ⟨fun j hj => hg.cell (h.cell j hj) hr, h.range⟩
theorem Packs.drew {w : World} {lb lo b off : Nat} {v : Value} {l bs : List Int} {wr : World} (h : Packs w lb lo b off v l bs wr) : Packs w lb lo b off v l bs wr.drew := ⟨h.list.drew, h.ints, ⟨h.src.cell, h.src.range⟩, h.below.drew⟩
theorem Packs.grown {w : World} {lb lo b off : Nat} {v : Value} {l bs : List Int} {wr w' : World} (h : Packs w lb lo b off v l bs wr) (hg : wr.grownBy w' none) : Packs w lb lo b off v l bs w' :=
  ⟨h.list.grown hg (by simp), h.ints.kept hg (by simp), h.src.grown hg (by simp), h.below.grown hg h.below.size (by simp)⟩

/-- More than a hundred bytes: not asked. -/
theorem packs_long (a0 : Option Addr) (len0 cap0 : Nat) (who : Int) (w : World) (h : 100 < len0) :
    Calls Try.prog 6 #[.slice a0 len0 cap0, .int .i64 who] w fun e w' => e = .returned (.bool true) ∧ Below w.heap.size w w' := by
  go_enter Try.func6, Try.ntmps6
  go_wp2_with fail
  refine (awake12 w).mono ?_
  rintro e w1 ⟨rfl, b1⟩
  have B1 := Lib.hid b1
  clear b1
  go_wp2_with fail
  go_ret
  exact ⟨rfl, B1.out⟩

set_option maxHeartbeats 1000000 in
/-- They are no list. -/
theorem packs_none (a0 : Option Addr) (len0 cap0 : Nat) (who : Int) (w : World) (h : ¬ 100 < len0)
    (hu : ∀ w1, Below w.heap.size w w1 → Calls Try.prog 23 #[.slice a0 len0 cap0] w1 fun e w' => e = .returned (.tuple #[.pointer none, .bool false]) ∧ Below w.heap.size w w')
    (hr : ∀ w1, Below w.heap.size w w1 → Calls Try.prog 24 #[.slice a0 len0 cap0] w1 fun e w' => e = .returned (.tuple #[.slice none 0 0, .bool false]) ∧ Below w.heap.size w w') :
    Calls Try.prog 6 #[.slice a0 len0 cap0, .int .i64 who] w fun e w' => e = .returned (.bool true) ∧ Below w.heap.size w w' := by
  have HU := Lib.hid hu
  have HR := Lib.hid hr
  clear hu hr
  go_enter Try.func6, Try.ntmps6
  go_wp2_with fail
  refine (awake12 w).mono ?_
  rintro e w1 ⟨rfl, b1⟩
  have B1 := Lib.hid b1
  clear b1
  go_wp2_with fail
  refine (HU.out w1 B1.out).mono ?_
  rintro e w2 ⟨rfl, b2⟩
  have B2 := Lib.hid b2
  clear b2
  go_wp2_with fail
  refine (HR.out w2 B2.out).mono ?_
  rintro e w3 ⟨rfl, b3⟩
  have B3 := Lib.hid b3
  clear b3
  go_wp2_with fail
  refine held_begin (fun w' => Below w.heap.size w w') (by kernel_rfl) B3.out.drew ?_
  have hS0 : (fun w' => Below w.heap.size w w') w3.drew := B3.out.drew
  refine held_take 0 ?_ rfl (by kernel_rfl) (by kernel_rfl) (by kernel_rfl) (fun _ _ _ h => h) (by rfl) ?_ hS0 ?_
  rotate_left
  · intro wS hSw; go_simp <;> with_reducible rfl
  simp only [Act.put, List.setIfInBounds_toArray, List.set_cons_zero, List.set_cons_succ]
  refine held_take 1 ?_ rfl (by kernel_rfl) (by kernel_rfl) (by kernel_rfl) (fun _ _ _ h => h) (by rfl) ?_ hS0 ?_
  rotate_left
  · intro wS hSw; go_simp <;> with_reducible rfl
  simp only [Act.put, List.setIfInBounds_toArray, List.set_cons_zero, List.set_cons_succ]
  refine held_take 2 ?_ rfl (by kernel_rfl) (by kernel_rfl) (by kernel_rfl) (fun _ _ _ h => h) (by rfl) ?_ hS0 ?_
  rotate_left
  · intro wS hSw; go_simp <;> with_reducible rfl
  simp only [Act.put, List.setIfInBounds_toArray, List.set_cons_zero, List.set_cons_succ]
  refine held_skip 3 rfl (by kernel_rfl) (by kernel_rfl) (by kernel_rfl) (fun _ _ _ h => h) (by rfl) hS0 ?_
  simp only [Act.put, List.setIfInBounds_toArray, List.set_cons_zero, List.set_cons_succ]
  refine held_skip 6 rfl (by kernel_rfl) (by kernel_rfl) (by kernel_rfl) (fun _ _ _ h => h) (by rfl) hS0 ?_
  simp only [Act.put, List.setIfInBounds_toArray, List.set_cons_zero, List.set_cons_succ]
  refine held_skip 7 rfl (by kernel_rfl) (by kernel_rfl) (by kernel_rfl) (fun _ _ _ h => h) (by rfl) hS0 ?_
  simp only [Act.put, List.setIfInBounds_toArray, List.set_cons_zero, List.set_cons_succ]
  refine held_skip 4 rfl (by kernel_rfl) (by kernel_rfl) (by kernel_rfl) (fun _ _ _ h => h) (by rfl) hS0 ?_
  simp only [Act.put, List.setIfInBounds_toArray, List.set_cons_zero, List.set_cons_succ]
  refine held_skip 5 rfl (by kernel_rfl) (by kernel_rfl) (by kernel_rfl) (fun _ _ _ h => h) (by rfl) hS0 ?_
  simp only [Act.put, List.setIfInBounds_toArray, List.set_cons_zero, List.set_cons_succ]
  refine held_skip 8 rfl (by kernel_rfl) (by kernel_rfl) (by kernel_rfl) (fun _ _ _ h => h) (by rfl) hS0 ?_
  simp only [Act.put, List.setIfInBounds_toArray, List.set_cons_zero, List.set_cons_succ]
  refine held_skip 9 rfl (by kernel_rfl) (by kernel_rfl) (by kernel_rfl) (fun _ _ _ h => h) (by rfl) hS0 ?_
  simp only [Act.put, List.setIfInBounds_toArray, List.set_cons_zero, List.set_cons_succ]
  refine held_skip 10 rfl (by kernel_rfl) (by kernel_rfl) (by kernel_rfl) (fun _ _ _ h => h) (by rfl) hS0 ?_
  simp only [Act.put, List.setIfInBounds_toArray, List.set_cons_zero, List.set_cons_succ]
  refine held_skip 12 rfl (by kernel_rfl) (by kernel_rfl) (by kernel_rfl) (fun _ _ _ h => h) (by rfl) hS0 ?_
  simp only [Act.put, List.setIfInBounds_toArray, List.set_cons_zero, List.set_cons_succ]
  refine held_skip 13 rfl (by kernel_rfl) (by kernel_rfl) (by kernel_rfl) (fun _ _ _ h => h) (by rfl) hS0 ?_
  simp only [Act.put, List.setIfInBounds_toArray, List.set_cons_zero, List.set_cons_succ]
  refine held_skip 11 rfl (by kernel_rfl) (by kernel_rfl) (by kernel_rfl) (fun _ _ _ h => h) (by rfl) hS0 ?_
  simp only [Act.put, List.setIfInBounds_toArray, List.set_cons_zero, List.set_cons_succ]
  refine held_skip 14 rfl (by kernel_rfl) (by kernel_rfl) (by kernel_rfl) (fun _ _ _ h => h) (by rfl) hS0 ?_
  simp only [Act.put, List.setIfInBounds_toArray, List.set_cons_zero, List.set_cons_succ]
  refine held_skip 15 rfl (by kernel_rfl) (by kernel_rfl) (by kernel_rfl) (fun _ _ _ h => h) (by rfl) hS0 ?_
  simp only [Act.put, List.setIfInBounds_toArray, List.set_cons_zero, List.set_cons_succ]
  refine held_skip 16 rfl (by kernel_rfl) (by kernel_rfl) (by kernel_rfl) (fun _ _ _ h => h) (by rfl) hS0 ?_
  simp only [Act.put, List.setIfInBounds_toArray, List.set_cons_zero, List.set_cons_succ]
  refine held_skip 17 rfl (by kernel_rfl) (by kernel_rfl) (by kernel_rfl) (fun _ _ _ h => h) (by rfl) hS0 ?_
  simp only [Act.put, List.setIfInBounds_toArray, List.set_cons_zero, List.set_cons_succ]
  refine held_skip 18 rfl (by kernel_rfl) (by kernel_rfl) (by kernel_rfl) (fun _ _ _ h => h) (by rfl) hS0 ?_
  simp only [Act.put, List.setIfInBounds_toArray, List.set_cons_zero, List.set_cons_succ]
  refine held_skip 20 rfl (by kernel_rfl) (by kernel_rfl) (by kernel_rfl) (fun _ _ _ h => h) (by rfl) hS0 ?_
  simp only [Act.put, List.setIfInBounds_toArray, List.set_cons_zero, List.set_cons_succ]
  refine held_skip 21 rfl (by kernel_rfl) (by kernel_rfl) (by kernel_rfl) (fun _ _ _ h => h) (by rfl) hS0 ?_
  simp only [Act.put, List.setIfInBounds_toArray, List.set_cons_zero, List.set_cons_succ]
  refine held_skip 19 rfl (by kernel_rfl) (by kernel_rfl) (by kernel_rfl) (fun _ _ _ h => h) (by rfl) hS0 ?_
  simp only [Act.put, List.setIfInBounds_toArray, List.set_cons_zero, List.set_cons_succ]
  refine held_skip 22 rfl (by kernel_rfl) (by kernel_rfl) (by kernel_rfl) (fun _ _ _ h => h) (by rfl) hS0 ?_
  simp only [Act.put, List.setIfInBounds_toArray, List.set_cons_zero, List.set_cons_succ]
  refine held_skip 23 rfl (by kernel_rfl) (by kernel_rfl) (by kernel_rfl) (fun _ _ _ h => h) (by rfl) hS0 ?_
  simp only [Act.put, List.setIfInBounds_toArray, List.set_cons_zero, List.set_cons_succ]
  refine held_skip 24 rfl (by kernel_rfl) (by kernel_rfl) (by kernel_rfl) (fun _ _ _ h => h) (by rfl) hS0 ?_
  simp only [Act.put, List.setIfInBounds_toArray, List.set_cons_zero, List.set_cons_succ]
  refine held_take 25 ?_ rfl (by kernel_rfl) (by kernel_rfl) (by kernel_rfl) (fun _ _ _ h => h) (by rfl) ?_ hS0 ?_
  rotate_left
  · intro wS hSw; go_simp <;> with_reducible rfl
  simp only [Act.put, List.setIfInBounds_toArray, List.set_cons_zero, List.set_cons_succ]
  refine held_take 26 ?_ rfl (by kernel_rfl) (by kernel_rfl) (by kernel_rfl) (fun _ _ _ h => h) (by rfl) ?_ hS0 ?_
  rotate_left
  · intro wS hSw; go_simp <;> with_reducible rfl
  simp only [Act.put, List.setIfInBounds_toArray, List.set_cons_zero, List.set_cons_succ]
  refine wpAnyH_done (by kernel_rfl) ?_ _
  refine NoPanic.normal ?_
  have HS := Lib.hid hS0
  clear hS0
  go_wp2
  go_ret
  exact ⟨rfl, HS.out⟩

set_option maxHeartbeats 1000000 in
/-- They are a list. -/
theorem packs_list (b off cap0 : Nat) (bs : List Int) (who : Int) (w : World) (hsrc : ∀ w', Below w.heap.size w w' → Src w' b off bs) (hm : same8 (outl bs 8) bs = true) :
    Calls Try.prog 6 #[.slice (some ⟨b, off, none⟩) 8 cap0, .int .i64 who] w fun e w' => e = .returned (.bool true) ∧ Below w.heap.size w w' := by
  have HSrc := Lib.hid hsrc
  have Hm := Lib.hid hm
  clear hsrc hm
  go_enter Try.func6, Try.ntmps6
  go_wp2_with fail
  refine (awake12 w).mono ?_
  rintro e w1 ⟨rfl, b1⟩
  have B1 := Lib.hid b1
  have hs1 := b1.size
  clear b1
  go_wp2_with fail
  refine (unpack_good (HSrc.out w1 B1.out)).mono ?_
  rintro e w2 ⟨lb, rfl, h2, hlb, g2⟩
  have B2 := Lib.hid (B1.out.grown g2 hs1 (by simp))
  have H2 := Lib.hid h2
  have hs2 := g2.size
  clear h2 g2
  rw [Hm.out]
  go_wp2_with fail
  refine (refUnpack_good (HSrc.out w2 B2.out)).mono ?_
  rintro e w3 ⟨v, rfl, h3, _, b3⟩
  have hi := h3 Hm.out
  have hs3 := b3.size
  have g3 := grown_of_below b3
  obtain ⟨a4, cap4, rfl⟩ := hi.slice
  have P3 := Lib.hid (Packs.mk (H2.out.grown g3 (by simp)) hi (HSrc.out w3 (B2.out.grown g3 (by omega) (by simp))) (B2.out.grown g3 (by omega) (by simp)))
  clear h3 b3 g3 hi
  rw [Hm.out]
  have hlist : listOr true lb = .pointer (some ⟨lb, 0, none⟩) := rfl
  have hstr := str_same (l := outl bs 8) (bs := bs) (by have := (outl_good bs 8).length; omega) P3.out.src.range
  rw [Hm.out] at hstr
  have Hstr := Lib.hid hstr
  clear hstr
  go_wp2_with fail
  refine held_begin (fun w' => Packs w lb w2.heap.size b off (.slice a4 (outl bs 8).length cap4) (outl bs 8) bs w') (by kernel_rfl) P3.out.drew ?_
  have hS0 : (fun w' => Packs w lb w2.heap.size b off (.slice a4 (outl bs 8).length cap4) (outl bs 8) bs w') w3.drew := P3.out.drew
  refine held_take 0 ?_ rfl (by kernel_rfl) (by kernel_rfl) (by kernel_rfl) (fun _ _ _ h => h) (by rfl) ?_ hS0 ?_
  rotate_left
  · intro wS hSw; go_simp <;> with_reducible rfl
  simp only [Act.put, List.setIfInBounds_toArray, List.set_cons_zero, List.set_cons_succ]
  refine held_take 1 ?_ rfl (by kernel_rfl) (by kernel_rfl) (by kernel_rfl) (fun _ _ _ h => h) (by rfl) ?_ hS0 ?_
  rotate_left
  · intro wS hSw; go_simp <;> with_reducible rfl
  simp only [Act.put, List.setIfInBounds_toArray, List.set_cons_zero, List.set_cons_succ]
  refine held_take 2 ?_ rfl (by kernel_rfl) (by kernel_rfl) (by kernel_rfl) (fun _ _ _ h => h) (by rfl) ?_ hS0 ?_
  rotate_left
  · intro wS hSw; go_simp <;> with_reducible rfl
  simp only [Act.put, List.setIfInBounds_toArray, List.set_cons_zero, List.set_cons_succ]
  refine held_take 3 ?_ rfl (by kernel_rfl) (by kernel_rfl) (by kernel_rfl) (fun _ _ _ h => h) (by rfl) ?_ hS0 ?_
  rotate_left
  · intro wS hSw; go_simp <;> with_reducible rfl
  simp only [Act.put, List.setIfInBounds_toArray, List.set_cons_zero, List.set_cons_succ]
  refine held_take 6 ?_ rfl (by kernel_rfl) (by kernel_rfl) (by kernel_rfl) (fun _ _ _ h => h) (by rfl) ?_ hS0 ?_
  rotate_left
  · intro wS hSw; go_simp <;> with_reducible rfl
  simp only [Act.put, List.setIfInBounds_toArray, List.set_cons_zero, List.set_cons_succ]
  refine held_take 7 ?_ rfl (by kernel_rfl) (by kernel_rfl) (by kernel_rfl) (fun _ _ _ h => h) (by rfl) ?_ hS0 ?_
  rotate_left
  · intro wS hSw; (have hcv := conv_src hSw.src cap0; go_simp) <;> with_reducible rfl
  simp only [Act.put, List.setIfInBounds_toArray, List.set_cons_zero, List.set_cons_succ]
  refine held_one 4 rfl (by kernel_rfl) (by rfl) (fun K hK => ?_)
  go_simp
  refine (pack_packed hS0.list).mono ?_
  rintro e wx ⟨g5, rfl, k5, g5g⟩
  refine hK.out (fun w' => Packs w lb w2.heap.size b off (.slice a4 (outl bs 8).length cap4) (outl bs 8) bs w' ∧ Packed w' g5 (outl bs 8)) _ _ (fun _ h => h.1) ⟨hS0.grown g5g, k5⟩ (fun hS1 => ?_)
  clear hK K
  refine held_take 5 ?_ rfl (by kernel_rfl) (by kernel_rfl) (by kernel_rfl) (fun _ _ _ h => h) (by rfl) ?_ hS1 ?_
  rotate_left
  · intro wS hSw; (have hcv := conv_packed hSw.2 8; go_simp) <;> with_reducible rfl
  simp only [Act.put, List.setIfInBounds_toArray, List.set_cons_zero, List.set_cons_succ]
  have hstr := Hstr.out
  refine held_take 8 ?_ rfl (by kernel_rfl) (by kernel_rfl) (by kernel_rfl) (fun _ _ _ h => h) (by rfl) ?_ hS1 ?_
  rotate_left
  · intro wS hSw; go_simp <;> with_reducible rfl
  simp only [Act.put, List.setIfInBounds_toArray, List.set_cons_zero, List.set_cons_succ]
  clear hstr
  refine held_take 9 ?_ rfl (by kernel_rfl) (by kernel_rfl) (by kernel_rfl) (fun _ _ _ h => h) (by rfl) ?_ hS1 ?_
  rotate_left
  · intro wS hSw; go_simp <;> with_reducible rfl
  simp only [Act.put, List.setIfInBounds_toArray, List.set_cons_zero, List.set_cons_succ]
  refine held_take 10 ?_ rfl (by kernel_rfl) (by kernel_rfl) (by kernel_rfl) (fun _ _ _ h => h) (by rfl) ?_ hS1 ?_
  rotate_left
  · intro wS hSw; go_simp <;> with_reducible rfl
  simp only [Act.put, List.setIfInBounds_toArray, List.set_cons_zero, List.set_cons_succ]
  refine held_take 12 ?_ rfl (by kernel_rfl) (by kernel_rfl) (by kernel_rfl) (fun _ _ _ h => h) (by rfl) ?_ hS1 ?_
  rotate_left
  · intro wS hSw; go_simp <;> with_reducible rfl
  simp only [Act.put, List.setIfInBounds_toArray, List.set_cons_zero, List.set_cons_succ]
  refine held_take 13 ?_ rfl (by kernel_rfl) (by kernel_rfl) (by kernel_rfl) (fun _ _ _ h => h) (by rfl) ?_ hS1 ?_
  rotate_left
  · intro wS hSw; go_simp <;> with_reducible rfl
  simp only [Act.put, List.setIfInBounds_toArray, List.set_cons_zero, List.set_cons_succ]
  refine held_one 11 rfl (by kernel_rfl) (by rfl) (fun K hK => ?_)
  go_simp
  refine (epoch_list hS1.1.list).mono ?_
  rintro e wx ⟨rfl, rfl⟩
  refine hK.out _ _ _ (fun _ h => h) hS1 (fun _ => ?_)
  clear hK K
  refine held_take 14 ?_ rfl (by kernel_rfl) (by kernel_rfl) (by kernel_rfl) (fun _ _ _ h => h) (by rfl) ?_ hS1 ?_
  rotate_left
  · intro wS hSw; go_simp <;> with_reducible rfl
  simp only [Act.put, List.setIfInBounds_toArray, List.set_cons_zero, List.set_cons_succ]
  refine held_take 15 ?_ rfl (by kernel_rfl) (by kernel_rfl) (by kernel_rfl) (fun _ _ _ h => h) (by rfl) ?_ hS1 ?_
  rotate_left
  · intro wS hSw; go_simp <;> with_reducible rfl
  simp only [Act.put, List.setIfInBounds_toArray, List.set_cons_zero, List.set_cons_succ]
  refine held_take 16 ?_ rfl (by kernel_rfl) (by kernel_rfl) (by kernel_rfl) (fun _ _ _ h => h) (by rfl) ?_ hS1 ?_
  rotate_left
  · intro wS hSw; go_simp <;> with_reducible rfl
  simp only [Act.put, List.setIfInBounds_toArray, List.set_cons_zero, List.set_cons_succ]
  refine held_take 17 ?_ rfl (by kernel_rfl) (by kernel_rfl) (by kernel_rfl) (fun _ _ _ h => h) (by rfl) ?_ hS1 ?_
  rotate_left
  · intro wS hSw; go_simp <;> with_reducible rfl
  simp only [Act.put, List.setIfInBounds_toArray, List.set_cons_zero, List.set_cons_succ]
  refine held_take 18 ?_ rfl (by kernel_rfl) (by kernel_rfl) (by kernel_rfl) (fun _ _ _ h => h) (by rfl) ?_ hS1 ?_
  rotate_left
  · intro wS hSw; go_simp <;> with_reducible rfl
  simp only [Act.put, List.setIfInBounds_toArray, List.set_cons_zero, List.set_cons_succ]
  refine held_take 20 ?_ rfl (by kernel_rfl) (by kernel_rfl) (by kernel_rfl) (fun _ _ _ h => h) (by rfl) ?_ hS1 ?_
  rotate_left
  · intro wS hSw; go_simp <;> with_reducible rfl
  simp only [Act.put, List.setIfInBounds_toArray, List.set_cons_zero, List.set_cons_succ]
  refine held_take 21 ?_ rfl (by kernel_rfl) (by kernel_rfl) (by kernel_rfl) (fun _ _ _ h => h) (by rfl) ?_ hS1 ?_
  rotate_left
  · intro wS hSw; go_simp <;> with_reducible rfl
  simp only [Act.put, List.setIfInBounds_toArray, List.set_cons_zero, List.set_cons_succ]
  refine held_one 19 rfl (by kernel_rfl) (by rfl) (fun K hK => ?_)
  go_simp
  refine (since_list hS1.1.list who).mono ?_
  rintro e wx ⟨rfl, rfl⟩
  refine hK.out _ _ _ (fun _ h => h) hS1 (fun _ => ?_)
  clear hK K
  refine held_one 22 rfl (by kernel_rfl) (by rfl) (fun K hK => ?_)
  go_simp
  refine (refSince_any hS1.1.ints who).mono ?_
  rintro e wx ⟨rfl, rfl⟩
  refine hK.out _ _ _ (fun _ h => h) hS1 (fun _ => ?_)
  clear hK K
  refine held_take 23 ?_ rfl (by kernel_rfl) (by kernel_rfl) (by kernel_rfl) (fun _ _ _ h => h) (by rfl) ?_ hS1 ?_
  rotate_left
  · intro wS hSw; go_simp <;> with_reducible rfl
  simp only [Act.put, List.setIfInBounds_toArray, List.set_cons_zero, List.set_cons_succ]
  refine held_take 24 ?_ rfl (by kernel_rfl) (by kernel_rfl) (by kernel_rfl) (fun _ _ _ h => h) (by rfl) ?_ hS1 ?_
  rotate_left
  · intro wS hSw; go_simp <;> with_reducible rfl
  simp only [Act.put, List.setIfInBounds_toArray, List.set_cons_zero, List.set_cons_succ]
  refine held_take 25 ?_ rfl (by kernel_rfl) (by kernel_rfl) (by kernel_rfl) (fun _ _ _ h => h) (by rfl) ?_ hS1 ?_
  rotate_left
  · intro wS hSw; go_simp <;> with_reducible rfl
  simp only [Act.put, List.setIfInBounds_toArray, List.set_cons_zero, List.set_cons_succ]
  refine held_take 26 ?_ rfl (by kernel_rfl) (by kernel_rfl) (by kernel_rfl) (fun _ _ _ h => h) (by rfl) ?_ hS1 ?_
  rotate_left
  · intro wS hSw; go_simp <;> with_reducible rfl
  simp only [Act.put, List.setIfInBounds_toArray, List.set_cons_zero, List.set_cons_succ]
  refine wpAnyH_done (by kernel_rfl) ?_ _
  refine NoPanic.normal ?_
  have HS := Lib.hid hS1
  clear hS0 hS1
  go_wp2
  go_ret
  exact ⟨rfl, HS.out.1.below⟩

theorem blockPacks_walk (a0 : Option Addr) (len0 cap0 : Nat) (z0 : List Int) (who : Int) (w : World) (w0 : IsRow .u8 w a0 len0 cap0 z0) :
    Calls Try.prog 6 #[.slice a0 len0 cap0, .int .i64 who] w fun e w' => e = .returned (.bool true) ∧ Below w.heap.size w w' := by
  by_cases h : 100 < len0
  · exact packs_long a0 len0 cap0 who w h
  · by_cases h8 : len0 = 8
    · subst h8
      obtain ⟨b, off, rfl, _, hsrc⟩ := w0.src
      cases hm : same8 (outl z0 8) z0
      · refine packs_none _ _ _ who w h (fun w1 b1 => ?_) (fun w1 b1 => ?_)
        · refine (unpack_good (hsrc w1 b1)).mono fun e w' ⟨lb, he, _, _, hg⟩ => ⟨?_, b1.grown hg b1.size (by simp)⟩
          rw [he, hm]; rfl
        · refine (refUnpack_good (hsrc w1 b1)).mono fun e w' ⟨v, he, _, hv, hb1⟩ => ⟨?_, b1.trans (hb1.mono b1.size)⟩
          rw [he, hm, hv hm]
      · exact packs_list b off cap0 z0 who w hsrc hm
    · refine packs_none _ _ _ who w h (fun w1 b1 => ?_) (fun w1 b1 => ?_)
      · exact (unpack_bad a0 len0 cap0 w1 h8).mono fun e w' ⟨he, hw⟩ => ⟨he, hw ▸ b1⟩
      · refine (refUnpack_bad (w := w1) (zs := z0) ?_ h8).mono fun e w' ⟨he, hb1⟩ => ⟨he, b1.trans (hb1.mono b1.size)⟩
        rcases w0 with h1 | ⟨x, h1, h2, h3, h4, h5, h6⟩
        · exact .inl h1
        · refine .inr ⟨x, h1, h2, h3, h4, fun i hi => ?_, h6⟩
          have := h5 i hi
          rw [b1.cell (World.block_lt_of_cell? _ _ this)]
          exact this

end Go.Proofs.Ytakdmnamohdpaaa
