/- BlockBack, walked: it returns true, and writes nothing that was there. -/
import Derived.Test.YtakdmnamohdpaaaUnp
namespace Go.Proofs.Ytakdmnamohdpaaa
open Go.RowKit

theorem is_nil (x : Int) (w : World) : Calls Try.prog 19 #[.pointer none, .int .i64 x] w fun e w' => e = .returned (.bool false) ∧ w = w' :=
  (is_of _ x 0 w (since_nil x w)).mono fun e w' ⟨he, hw⟩ => ⟨by rw [he]; rfl, hw⟩

/-- What a list packs to, as numbers. -/
def pnum (l : List Int) : List Int := (List.range 8).map fun j : Nat => (snc l j : Int)
theorem ith_pnum (l : List Int) (j : Nat) (hj : j < 8) : ith (pnum l) j = snc l j := by
  unfold ith pnum
  simp [List.getD_eq_getElem?_getD, List.getElem?_map, List.getElem?_range hj]
theorem src_packed {w : World} {g : Nat} {l : List Int} (h : Packed w g l) (hl : l.length ≤ 64) : Src w g 0 (pnum l) :=
  ⟨fun j hj => by rw [ith_pnum l j hj, Nat.zero_add]; exact h j hj, fun j hj => by rw [ith_pnum l j hj]; have := snc_le l j; omega⟩
theorem out_pnum {l : List Int} (h : Good l) : outl (pnum l) 8 = l := outl_all h fun j hj => ith_pnum l j hj
theorem same_pnum {l : List Int} : same8 l (pnum l) = true := same8_iff.2 fun j hj => (ith_pnum l j hj).symm

/-- What Pack of no list leaves. -/
theorem pack_none (w : World) : Calls Try.prog 21 #[.pointer none] w fun e w' => ∃ g, e = .returned (.slice (some ⟨g, 0, none⟩) 8 8) ∧ Packed w' g [] ∧ w.grownBy w' none := by
  refine (pack_nil w).mono fun e w' ⟨he, hw⟩ => ?_
  subst hw
  exact ⟨_, he, packed_new w [] 64, World.grownBy_alloc _ _ _⟩

structure Back (w : World) (lb : Nat) (l : List Int) (wr : World) : Prop where
  list : IsList wr lb l
  below : Below w.heap.size w wr

structure Both (w : World) (lb mb : Nat) (l : List Int) (wr : World) : Prop where
  one : IsList wr lb l
  two : IsList wr mb l
  below : Below w.heap.size w wr

theorem Both.grown {w : World} {lb mb : Nat} {l : List Int} {wr w' : World} (h : Both w lb mb l wr) (hg : wr.grownBy w' none) : Both w lb mb l w' :=
  ⟨h.one.grown hg (by simp), h.two.grown hg (by simp), h.below.grown hg h.below.size (by simp)⟩

set_option maxHeartbeats 4000000 in
set_option maxRecDepth 100000 in
theorem blockBack_walk (a0 : Option Addr) (len0 cap0 : Nat) (z0 : List Int) (more : Int) (w : World) (w0 : IsRow .i64 w a0 len0 cap0 z0) :
    Calls Try.prog 7 #[.slice a0 len0 cap0, .int .i64 more] w fun e w' => e = .returned (.bool true) ∧ Below w.heap.size w w' := by
  have hlen := w0.len
  unfold maxLen at hlen
  have W0 := Lib.hid w0
  clear w0
  have hmk : ∀ w : World, (Instr.makeSlice 31 (.int .i64 8) (.int .i64 8)).run Try.prog w = .ok (.slice (some ⟨w.heap.size, 0, none⟩) 8 8) (w.alloc (.cells #[.int .u8 0, .int .u8 0, .int .u8 0, .int .u8 0, .int .u8 0, .int .u8 0, .int .u8 0, .int .u8 0] 5)) := fun _ => by kernel_rfl
  have Hmk := Lib.hid hmk
  clear hmk
  go_enter Try.func7, Try.ntmps7
  go_wp2_with fail
  refine (awake12 w).mono ?_
  rintro e w1 ⟨rfl, b1⟩
  have B1 := Lib.hid b1
  have hs1 := b1.size
  clear b1
  go_wp2_with fail
  refine (new_isList w1).mono ?_
  rintro e w2 ⟨rfl, h2, g2⟩
  have P2 := Lib.hid (Back.mk (lb := w1.heap.size) h2 (B1.out.grown g2 hs1 (by simp)))
  clear h2 g2
  generalize hlb : w1.heap.size = lb at *
  have Hlb := Lib.hid hlb
  clear hlb B1
  go_wp2_with fail
  go_loopw [7] (fun i wr => ∃ (k : Nat) (l : List Int), k ≤ len0 ∧ i = .int .i64 k ∧ Back w lb l wr) (fun i _ => len0 - (intOf i).toNat)
  case atStart => exact ⟨0, [], Nat.zero_le _, rfl, P2.out⟩
  case round =>
    obtain ⟨k, l, hk, rfl, hP⟩ := hrel
    have HP := Lib.hid hP
    have hbw := hP.below.size
    clear hP
    by_cases hlt : k < len0 ∧ k < 60
    · obtain ⟨hlt, h60⟩ := hlt
      obtain ⟨bb, off, rfl, hb, hc⟩ := W0.out.at (by omega)
      have hc' := hc k hlt
      have Hc := Lib.hid hc'
      clear hc hc'
      generalize ith z0 k = x at *
      have c1 := Hc.out wr HP.out.below
      go_wp2_with fail
      refine (add_is HP.out.list x _ _ rfl rfl).mono ?_
      rintro e w4 ⟨rfl, h4, g4⟩
      have P4 := Lib.hid (Back.mk h4 (HP.out.below.grown g4 hbw (by simp; omega)))
      clear h4 g4 c1
      go_wp2
      go_roundw
      case rel => exact ⟨k + 1, _, by omega, by go_num, P4.out⟩
      case measure => simp [intOf]; omega
    · have hguard : (k < len0 ∧ ¬ k < 60) ∨ ¬ k < len0 := by omega
      clear hlt
      have hll := HP.out.list.good.length
      have hlbs := HP.out.list.lt
      rcases hguard with ⟨h1, h2⟩ | h1
      all_goals
        go_wp2_with fail
        refine (pack_packed HP.out.list).mono ?_
        rintro e w5 ⟨g5, rfl, k5, g5g⟩
        have hs5 := g5g.size
        have P5 := Lib.hid (And.intro (Back.mk (HP.out.list.grown g5g (by simp)) (HP.out.below.grown g5g hbw (by simp))) (src_packed k5 (by omega)))
        clear k5 g5g
        go_wp2_with fail
        refine (unpack_good (cap := 8) P5.out.2).mono ?_
        rintro e w6 ⟨mb, rfl, h6, hmb, g6⟩
        have hs6 := g6.size
        rw [out_pnum HP.out.list.good] at h6 ⊢
        rw [same_pnum]
        have P6 := Lib.hid (Both.mk (P5.out.1.list.grown g6 (by simp)) h6 (P5.out.1.below.grown g6 (by omega) (by simp)))
        have hmbs := h6.lt
        clear h6 g6
        have hlist : listOr true mb = .pointer (some ⟨mb, 0, none⟩) := rfl
        go_wp2_with fail
        refine held_begin (fun w' => Below w.heap.size w w') (by kernel_rfl) P6.out.below.drew ?_
        have hS0 : (fun w' => Below w.heap.size w w') w6.drew := P6.out.below.drew
        generalize hl' : addl l more = l' at *
        have Hl := Lib.hid hl'
        clear hl'
        refine held_take 0 ?_ rfl (by kernel_rfl) (by kernel_rfl) (by kernel_rfl) (fun _ _ _ h => h) (by rfl) ?_ hS0 ?_
        rotate_left
        · intro wS hSw; go_simp <;> with_reducible rfl
        simp only [Act.put, List.setIfInBounds_toArray, List.set_cons_zero, List.set_cons_succ]
        refine held_take 1 ?_ rfl (by kernel_rfl) (by kernel_rfl) (by kernel_rfl) (fun _ _ _ h => h) (by rfl) ?_ hS0 ?_
        rotate_left
        · intro wS hSw; go_simp <;> with_reducible rfl
        simp only [Act.put, List.setIfInBounds_toArray, List.set_cons_zero, List.set_cons_succ]
        refine held_take 2 ?_ rfl (by kernel_rfl) (by kernel_rfl) (by kernel_rfl) (fun _ _ _ h => h) (by rfl) ?_ hS0 ?_
        rotate_left
        · intro wS hSw; go_simp <;> with_reducible rfl
        simp only [Act.put, List.setIfInBounds_toArray, List.set_cons_zero, List.set_cons_succ]
        refine held_take 3 ?_ rfl (by kernel_rfl) (by kernel_rfl) (by kernel_rfl) (fun _ _ _ h => h) (by rfl) ?_ hS0 ?_
        rotate_left
        · intro wS hSw; go_simp <;> with_reducible rfl
        simp only [Act.put, List.setIfInBounds_toArray, List.set_cons_zero, List.set_cons_succ]
        refine held_take 4 ?_ rfl (by kernel_rfl) (by kernel_rfl) (by kernel_rfl) (fun _ _ _ h => h) (by rfl) ?_ hS0 ?_
        rotate_left
        · intro wS hSw; go_simp <;> with_reducible rfl
        simp only [Act.put, List.setIfInBounds_toArray, List.set_cons_zero, List.set_cons_succ]
        refine held_take 6 ?_ rfl (by kernel_rfl) (by kernel_rfl) (by kernel_rfl) (fun _ _ _ h => h) (by rfl) ?_ hS0 ?_
        rotate_left
        · intro wS hSw; go_simp <;> with_reducible rfl
        simp only [Act.put, List.setIfInBounds_toArray, List.set_cons_zero, List.set_cons_succ]
        refine held_take 7 ?_ rfl (by kernel_rfl) (by kernel_rfl) (by kernel_rfl) (fun _ _ _ h => h) (by rfl) ?_ hS0 ?_
        rotate_left
        · intro wS hSw; go_simp <;> with_reducible rfl
        simp only [Act.put, List.setIfInBounds_toArray, List.set_cons_zero, List.set_cons_succ]
        refine held_one 5 rfl (by kernel_rfl) (by rfl) (fun K hK => ?_)
        go_simp
        refine (add_is P6.out.one.drew more l' _ Hl.out rfl).mono ?_
        rintro e wx ⟨rfl, h7, g7⟩
        refine hK.out (fun w' => Below w.heap.size w w') _ _ (fun _ h => h) (hS0.grown g7 (by simp; omega) (by simp; omega)) (fun hS1 => ?_)
        clear hK K
        have hm7 := P6.out.two.drew.grown g7 (by simp; omega)
        have hs7 := g7.size
        refine held_one 8 rfl (by kernel_rfl) (by rfl) (fun K hK => ?_)
        go_simp
        refine (add_is hm7 more l' _ Hl.out rfl).mono ?_
        rintro e wx ⟨rfl, h8, g8⟩
        refine hK.out (fun w' => Both w lb mb l' w') _ _ (fun _ h => h.below) ⟨h7.grown g8 (by simp; omega), h8, hS1.grown g8 (by simp at hs7; omega) (by simp; omega)⟩ (fun hS2 => ?_)
        clear hK K
        refine held_take 9 ?_ rfl (by kernel_rfl) (by kernel_rfl) (by kernel_rfl) (fun _ _ _ h => h) (by rfl) ?_ hS2 ?_
        rotate_left
        · intro wS hSw; go_simp <;> with_reducible rfl
        simp only [Act.put, List.setIfInBounds_toArray, List.set_cons_zero, List.set_cons_succ]
        refine held_take 10 ?_ rfl (by kernel_rfl) (by kernel_rfl) (by kernel_rfl) (fun _ _ _ h => h) (by rfl) ?_ hS2 ?_
        rotate_left
        · intro wS hSw; go_simp <;> with_reducible rfl
        simp only [Act.put, List.setIfInBounds_toArray, List.set_cons_zero, List.set_cons_succ]
        refine held_take 11 ?_ rfl (by kernel_rfl) (by kernel_rfl) (by kernel_rfl) (fun _ _ _ h => h) (by rfl) ?_ hS2 ?_
        rotate_left
        · intro wS hSw; go_simp <;> with_reducible rfl
        simp only [Act.put, List.setIfInBounds_toArray, List.set_cons_zero, List.set_cons_succ]
        refine held_take 12 ?_ rfl (by kernel_rfl) (by kernel_rfl) (by kernel_rfl) (fun _ _ _ h => h) (by rfl) ?_ hS2 ?_
        rotate_left
        · intro wS hSw; go_simp <;> with_reducible rfl
        simp only [Act.put, List.setIfInBounds_toArray, List.set_cons_zero, List.set_cons_succ]
        refine held_take 15 ?_ rfl (by kernel_rfl) (by kernel_rfl) (by kernel_rfl) (fun _ _ _ h => h) (by rfl) ?_ hS2 ?_
        rotate_left
        · intro wS hSw; go_simp <;> with_reducible rfl
        simp only [Act.put, List.setIfInBounds_toArray, List.set_cons_zero, List.set_cons_succ]
        refine held_one 13 rfl (by kernel_rfl) (by rfl) (fun K hK => ?_)
        go_simp
        refine (pack_packed hS2.one).mono ?_
        rintro e wx ⟨g9, rfl, k9, g9g⟩
        refine hK.out (fun w' => Both w lb mb l' w' ∧ Packed w' g9 l') _ _ (fun _ h => h.1) ⟨hS2.grown g9g, k9⟩ (fun hS3 => ?_)
        clear hK K
        refine held_take 14 ?_ rfl (by kernel_rfl) (by kernel_rfl) (by kernel_rfl) (fun _ _ _ h => h) (by rfl) ?_ hS3 ?_
        rotate_left
        · intro wS hSw; (have hcv := conv_packed hSw.2 8; go_simp) <;> with_reducible rfl
        simp only [Act.put, List.setIfInBounds_toArray, List.set_cons_zero, List.set_cons_succ]
        refine held_one 16 rfl (by kernel_rfl) (by rfl) (fun K hK => ?_)
        go_simp
        refine (pack_packed hS3.1.two).mono ?_
        rintro e wx ⟨g10, rfl, k10, g10g⟩
        refine hK.out (fun w' => (Both w lb mb l' w' ∧ Packed w' g9 l') ∧ Packed w' g10 l') _ _ (fun _ h => h.1) ⟨⟨hS3.1.grown g10g, hS3.2.grown g10g (by simp)⟩, k10⟩ (fun hS4 => ?_)
        clear hK K
        refine held_take 17 ?_ rfl (by kernel_rfl) (by kernel_rfl) (by kernel_rfl) (fun _ _ _ h => h) (by rfl) ?_ hS4 ?_
        rotate_left
        · intro wS hSw; (have hcv := conv_packed hSw.2 8; go_simp) <;> with_reducible rfl
        simp only [Act.put, List.setIfInBounds_toArray, List.set_cons_zero, List.set_cons_succ]
        refine held_take 18 ?_ rfl (by kernel_rfl) (by kernel_rfl) (by kernel_rfl) (fun _ _ _ h => h) (by rfl) ?_ hS4 ?_
        rotate_left
        · intro wS hSw; go_simp <;> with_reducible rfl
        simp only [Act.put, List.setIfInBounds_toArray, List.set_cons_zero, List.set_cons_succ]
        refine held_take 19 ?_ rfl (by kernel_rfl) (by kernel_rfl) (by kernel_rfl) (fun _ _ _ h => h) (by rfl) ?_ hS4 ?_
        rotate_left
        · intro wS hSw; go_simp <;> with_reducible rfl
        simp only [Act.put, List.setIfInBounds_toArray, List.set_cons_zero, List.set_cons_succ]
        refine held_take 20 ?_ rfl (by kernel_rfl) (by kernel_rfl) (by kernel_rfl) (fun _ _ _ h => h) (by rfl) ?_ hS4 ?_
        rotate_left
        · intro wS hSw; go_simp <;> with_reducible rfl
        simp only [Act.put, List.setIfInBounds_toArray, List.set_cons_zero, List.set_cons_succ]
        refine held_take 21 ?_ rfl (by kernel_rfl) (by kernel_rfl) (by kernel_rfl) (fun _ _ _ h => h) (by rfl) ?_ hS4 ?_
        rotate_left
        · intro wS hSw; go_simp <;> with_reducible rfl
        simp only [Act.put, List.setIfInBounds_toArray, List.set_cons_zero, List.set_cons_succ]
        refine held_take 23 ?_ rfl (by kernel_rfl) (by kernel_rfl) (by kernel_rfl) (fun _ _ _ h => h) (by rfl) ?_ hS4 ?_
        rotate_left
        · intro wS hSw; go_simp <;> with_reducible rfl
        simp only [Act.put, List.setIfInBounds_toArray, List.set_cons_zero, List.set_cons_succ]
        refine held_one 22 rfl (by kernel_rfl) (by rfl) (fun K hK => ?_)
        go_simp
        refine (epoch_list hS4.1.1.one).mono ?_
        rintro e wx ⟨rfl, rfl⟩
        refine hK.out _ _ _ (fun _ h => h) hS4 (fun _ => ?_)
        clear hK K
        refine held_one 24 rfl (by kernel_rfl) (by rfl) (fun K hK => ?_)
        go_simp
        refine (epoch_list hS4.1.1.two).mono ?_
        rintro e wx ⟨rfl, rfl⟩
        refine hK.out _ _ _ (fun _ h => h) hS4 (fun _ => ?_)
        clear hK K
        refine held_take 25 ?_ rfl (by kernel_rfl) (by kernel_rfl) (by kernel_rfl) (fun _ _ _ h => h) (by rfl) ?_ hS4 ?_
        rotate_left
        · intro wS hSw; go_simp <;> with_reducible rfl
        simp only [Act.put, List.setIfInBounds_toArray, List.set_cons_zero, List.set_cons_succ]
        refine held_take 26 ?_ rfl (by kernel_rfl) (by kernel_rfl) (by kernel_rfl) (fun _ _ _ h => h) (by rfl) ?_ hS4 ?_
        rotate_left
        · intro wS hSw; go_simp <;> with_reducible rfl
        simp only [Act.put, List.setIfInBounds_toArray, List.set_cons_zero, List.set_cons_succ]
        refine wpAnyH_done (by kernel_rfl) ?_ _
        refine NoPanic.normal ?_
        have HS := Lib.hid hS4.1.1.below
        clear hS0 hS1 hS2 hS3 hS4 hm7 hs7 h7 g7
        go_wp2_with fail
        refine held_begin (fun w' => Below w.heap.size w w') (by kernel_rfl) HS.out.drew ?_
        have hT0 : (fun w' => Below w.heap.size w w') wx.drew := HS.out.drew
        refine held_take 0 ?_ rfl (by kernel_rfl) (by kernel_rfl) (by kernel_rfl) (fun _ _ _ h => h) (by rfl) ?_ hT0 ?_
        rotate_left
        · intro wS hSw; go_simp <;> with_reducible rfl
        simp only [Act.put, List.setIfInBounds_toArray, List.set_cons_zero, List.set_cons_succ]
        refine held_take 1 ?_ rfl (by kernel_rfl) (by kernel_rfl) (by kernel_rfl) (fun _ _ _ h => h) (by rfl) ?_ hT0 ?_
        rotate_left
        · intro wS hSw; go_simp <;> with_reducible rfl
        simp only [Act.put, List.setIfInBounds_toArray, List.set_cons_zero, List.set_cons_succ]
        refine held_one 2 rfl (by kernel_rfl) (by rfl) (fun K hK => ?_)
        go_simp
        refine (add_nil more _).mono ?_
        rintro e wx ⟨rfl, rfl⟩
        refine hK.out _ _ _ (fun _ h => h) hT0 (fun _ => ?_)
        clear hK K
        refine held_take 3 ?_ rfl (by kernel_rfl) (by kernel_rfl) (by kernel_rfl) (fun _ _ _ h => h) (by rfl) ?_ hT0 ?_
        rotate_left
        · intro wS hSw; go_simp <;> with_reducible rfl
        simp only [Act.put, List.setIfInBounds_toArray, List.set_cons_zero, List.set_cons_succ]
        refine held_take 4 ?_ rfl (by kernel_rfl) (by kernel_rfl) (by kernel_rfl) (fun _ _ _ h => h) (by rfl) ?_ hT0 ?_
        rotate_left
        · intro wS hSw; go_simp <;> with_reducible rfl
        simp only [Act.put, List.setIfInBounds_toArray, List.set_cons_zero, List.set_cons_succ]
        refine held_take 5 ?_ rfl (by kernel_rfl) (by kernel_rfl) (by kernel_rfl) (fun _ _ _ h => h) (by rfl) ?_ hT0 ?_
        rotate_left
        · intro wS hSw; go_simp <;> with_reducible rfl
        simp only [Act.put, List.setIfInBounds_toArray, List.set_cons_zero, List.set_cons_succ]
        refine held_take 6 ?_ rfl (by kernel_rfl) (by kernel_rfl) (by kernel_rfl) (fun _ _ _ h => h) (by rfl) ?_ hT0 ?_
        rotate_left
        · intro wS hSw; go_simp <;> with_reducible rfl
        simp only [Act.put, List.setIfInBounds_toArray, List.set_cons_zero, List.set_cons_succ]
        refine held_one 7 rfl (by kernel_rfl) (by rfl) (fun K hK => ?_)
        go_simp
        refine (is_nil more _).mono ?_
        rintro e wx ⟨rfl, rfl⟩
        refine hK.out _ _ _ (fun _ h => h) hT0 (fun _ => ?_)
        clear hK K
        refine held_take 8 ?_ rfl (by kernel_rfl) (by kernel_rfl) (by kernel_rfl) (fun _ _ _ h => h) (by rfl) ?_ hT0 ?_
        rotate_left
        · intro wS hSw; go_simp <;> with_reducible rfl
        simp only [Act.put, List.setIfInBounds_toArray, List.set_cons_zero, List.set_cons_succ]
        refine held_take 9 ?_ rfl (by kernel_rfl) (by kernel_rfl) (by kernel_rfl) (fun _ _ _ h => h) (by rfl) ?_ hT0 ?_
        rotate_left
        · intro wS hSw; go_simp <;> with_reducible rfl
        simp only [Act.put, List.setIfInBounds_toArray, List.set_cons_zero, List.set_cons_succ]
        refine held_take 10 ?_ rfl (by kernel_rfl) (by kernel_rfl) (by kernel_rfl) (fun _ _ _ h => h) (by rfl) ?_ hT0 ?_
        rotate_left
        · intro wS hSw; go_simp <;> with_reducible rfl
        simp only [Act.put, List.setIfInBounds_toArray, List.set_cons_zero, List.set_cons_succ]
        refine held_take 11 ?_ rfl (by kernel_rfl) (by kernel_rfl) (by kernel_rfl) (fun _ _ _ h => h) (by rfl) ?_ hT0 ?_
        rotate_left
        · intro wS hSw; go_simp <;> with_reducible rfl
        simp only [Act.put, List.setIfInBounds_toArray, List.set_cons_zero, List.set_cons_succ]
        refine held_take 12 ?_ rfl (by kernel_rfl) (by kernel_rfl) (by kernel_rfl) (fun _ _ _ h => h) (by rfl) ?_ hT0 ?_
        rotate_left
        · intro wS hSw; go_simp <;> with_reducible rfl
        simp only [Act.put, List.setIfInBounds_toArray, List.set_cons_zero, List.set_cons_succ]
        refine held_one 13 rfl (by kernel_rfl) (by rfl) (fun K hK => ?_)
        go_simp
        refine (since_nil more _).mono ?_
        rintro e wx ⟨rfl, rfl⟩
        refine hK.out _ _ _ (fun _ h => h) hT0 (fun _ => ?_)
        clear hK K
        refine held_take 14 ?_ rfl (by kernel_rfl) (by kernel_rfl) (by kernel_rfl) (fun _ _ _ h => h) (by rfl) ?_ hT0 ?_
        rotate_left
        · intro wS hSw; go_simp <;> with_reducible rfl
        simp only [Act.put, List.setIfInBounds_toArray, List.set_cons_zero, List.set_cons_succ]
        refine held_take 15 ?_ rfl (by kernel_rfl) (by kernel_rfl) (by kernel_rfl) (fun _ _ _ h => h) (by rfl) ?_ hT0 ?_
        rotate_left
        · intro wS hSw; go_simp <;> with_reducible rfl
        simp only [Act.put, List.setIfInBounds_toArray, List.set_cons_zero, List.set_cons_succ]
        refine held_take 16 ?_ rfl (by kernel_rfl) (by kernel_rfl) (by kernel_rfl) (fun _ _ _ h => h) (by rfl) ?_ hT0 ?_
        rotate_left
        · intro wS hSw; go_simp <;> with_reducible rfl
        simp only [Act.put, List.setIfInBounds_toArray, List.set_cons_zero, List.set_cons_succ]
        refine held_take 17 ?_ rfl (by kernel_rfl) (by kernel_rfl) (by kernel_rfl) (fun _ _ _ h => h) (by rfl) ?_ hT0 ?_
        rotate_left
        · intro wS hSw; go_simp <;> with_reducible rfl
        simp only [Act.put, List.setIfInBounds_toArray, List.set_cons_zero, List.set_cons_succ]
        refine held_one 18 rfl (by kernel_rfl) (by rfl) (fun K hK => ?_)
        go_simp
        refine (epoch_nil _).mono ?_
        rintro e wx ⟨rfl, rfl⟩
        refine hK.out _ _ _ (fun _ h => h) hT0 (fun _ => ?_)
        clear hK K
        refine held_take 19 ?_ rfl (by kernel_rfl) (by kernel_rfl) (by kernel_rfl) (fun _ _ _ h => h) (by rfl) ?_ hT0 ?_
        rotate_left
        · intro wS hSw; go_simp <;> with_reducible rfl
        simp only [Act.put, List.setIfInBounds_toArray, List.set_cons_zero, List.set_cons_succ]
        refine held_take 20 ?_ rfl (by kernel_rfl) (by kernel_rfl) (by kernel_rfl) (fun _ _ _ h => h) (by rfl) ?_ hT0 ?_
        rotate_left
        · intro wS hSw; go_simp <;> with_reducible rfl
        simp only [Act.put, List.setIfInBounds_toArray, List.set_cons_zero, List.set_cons_succ]
        refine held_take 21 ?_ rfl (by kernel_rfl) (by kernel_rfl) (by kernel_rfl) (fun _ _ _ h => h) (by rfl) ?_ hT0 ?_
        rotate_left
        · intro wS hSw; go_simp <;> with_reducible rfl
        simp only [Act.put, List.setIfInBounds_toArray, List.set_cons_zero, List.set_cons_succ]
        refine held_take 22 ?_ rfl (by kernel_rfl) (by kernel_rfl) (by kernel_rfl) (fun _ _ _ h => h) (by rfl) ?_ hT0 ?_
        rotate_left
        · intro wS hSw; go_simp <;> with_reducible rfl
        simp only [Act.put, List.setIfInBounds_toArray, List.set_cons_zero, List.set_cons_succ]
        refine held_two 23 25 rfl rfl (by kernel_rfl) (by rfl) (by rfl) (fun K hK => ?_) (fun K hK => ?_)
        · go_simp
          refine (pack_none _).mono ?_
          rintro e wx ⟨g11, rfl, k11, g11g⟩
          refine hK.out (fun w' => Below w.heap.size w w' ∧ Packed w' g11 []) _ _ (fun _ h => h.1) ⟨hT0.grown g11g hT0.size (by simp), k11⟩ (fun hT1 => ?_)
          clear hK K
          refine held_take 24 ?_ rfl (by kernel_rfl) (by kernel_rfl) (by kernel_rfl) (fun _ _ _ h => h) (by rfl) ?_ hT1 ?_
          rotate_left
          · intro wS hSw; (have hcv := conv_packed hSw.2 8; go_simp) <;> with_reducible rfl
          simp only [Act.put, List.setIfInBounds_toArray, List.set_cons_zero, List.set_cons_succ]
          refine held_one 25 rfl (by kernel_rfl) (by rfl) (fun K hK => ?_)
          have hmk := Hmk.out
          go_simp
          clear hmk
          refine hK.out (fun w' => (Below w.heap.size w w' ∧ Packed w' g11 []) ∧ Packed w' _ []) _ _ (fun _ h => h.1) ⟨⟨hT1.1.grown (World.grownBy_alloc _ _ none) hT1.1.size (by simp), hT1.2.grown (World.grownBy_alloc _ _ none) (by simp)⟩, packed_new _ [] 5⟩ (fun hT2 => ?_)
          clear hK K
          refine held_take 26 ?_ rfl (by kernel_rfl) (by kernel_rfl) (by kernel_rfl) (fun _ _ _ h => h) (by rfl) ?_ hT2 ?_
          rotate_left
          · intro wS hSw; (have hcv := conv_packed hSw.2 8; go_simp) <;> with_reducible rfl
          simp only [Act.put, List.setIfInBounds_toArray, List.set_cons_zero, List.set_cons_succ]
          refine held_take 27 ?_ rfl (by kernel_rfl) (by kernel_rfl) (by kernel_rfl) (fun _ _ _ h => h) (by rfl) ?_ hT2 ?_
          rotate_left
          · intro wS hSw; go_simp <;> with_reducible rfl
          simp only [Act.put, List.setIfInBounds_toArray, List.set_cons_zero, List.set_cons_succ]
          refine held_take 28 ?_ rfl (by kernel_rfl) (by kernel_rfl) (by kernel_rfl) (fun _ _ _ h => h) (by rfl) ?_ hT2 ?_
          rotate_left
          · intro wS hSw; go_simp <;> with_reducible rfl
          simp only [Act.put, List.setIfInBounds_toArray, List.set_cons_zero, List.set_cons_succ]
          refine held_take 29 ?_ rfl (by kernel_rfl) (by kernel_rfl) (by kernel_rfl) (fun _ _ _ h => h) (by rfl) ?_ hT2 ?_
          rotate_left
          · intro wS hSw; go_simp <;> with_reducible rfl
          simp only [Act.put, List.setIfInBounds_toArray, List.set_cons_zero, List.set_cons_succ]
          refine wpAnyH_done (by kernel_rfl) ?_ _
          refine NoPanic.normal ?_
          have HT := Lib.hid hT2.1.1
          clear hT0 hT1 hT2
          go_wp2
          go_ret
          exact ⟨rfl, HT.out⟩
        · have hmk := Hmk.out
          go_simp
          clear hmk
          refine hK.out (fun w' => Below w.heap.size w w' ∧ Packed w' _ []) _ _ (fun _ h => h.1) ⟨hT0.grown (World.grownBy_alloc _ _ none) hT0.size (by simp), packed_new _ [] 5⟩ (fun hT1 => ?_)
          clear hK K
          refine held_take 26 ?_ rfl (by kernel_rfl) (by kernel_rfl) (by kernel_rfl) (fun _ _ _ h => h) (by rfl) ?_ hT1 ?_
          rotate_left
          · intro wS hSw; (have hcv := conv_packed hSw.2 8; go_simp) <;> with_reducible rfl
          simp only [Act.put, List.setIfInBounds_toArray, List.set_cons_zero, List.set_cons_succ]
          refine held_one 23 rfl (by kernel_rfl) (by rfl) (fun K hK => ?_)
          go_simp
          refine (pack_none _).mono ?_
          rintro e wx ⟨g11, rfl, k11, g11g⟩
          refine hK.out (fun w' => (Below w.heap.size w w' ∧ Packed w' _ []) ∧ Packed w' g11 []) _ _ (fun _ h => h.1) ⟨⟨hT1.1.grown g11g hT1.1.size (by simp), hT1.2.grown g11g (by simp)⟩, k11⟩ (fun hT2 => ?_)
          clear hK K
          refine held_take 24 ?_ rfl (by kernel_rfl) (by kernel_rfl) (by kernel_rfl) (fun _ _ _ h => h) (by rfl) ?_ hT2 ?_
          rotate_left
          · intro wS hSw; (have hcv := conv_packed hSw.2 8; go_simp) <;> with_reducible rfl
          simp only [Act.put, List.setIfInBounds_toArray, List.set_cons_zero, List.set_cons_succ]
          refine held_take 27 ?_ rfl (by kernel_rfl) (by kernel_rfl) (by kernel_rfl) (fun _ _ _ h => h) (by rfl) ?_ hT2 ?_
          rotate_left
          · intro wS hSw; go_simp <;> with_reducible rfl
          simp only [Act.put, List.setIfInBounds_toArray, List.set_cons_zero, List.set_cons_succ]
          refine held_take 28 ?_ rfl (by kernel_rfl) (by kernel_rfl) (by kernel_rfl) (fun _ _ _ h => h) (by rfl) ?_ hT2 ?_
          rotate_left
          · intro wS hSw; go_simp <;> with_reducible rfl
          simp only [Act.put, List.setIfInBounds_toArray, List.set_cons_zero, List.set_cons_succ]
          refine held_take 29 ?_ rfl (by kernel_rfl) (by kernel_rfl) (by kernel_rfl) (fun _ _ _ h => h) (by rfl) ?_ hT2 ?_
          rotate_left
          · intro wS hSw; go_simp <;> with_reducible rfl
          simp only [Act.put, List.setIfInBounds_toArray, List.set_cons_zero, List.set_cons_succ]
          refine wpAnyH_done (by kernel_rfl) ?_ _
          refine NoPanic.normal ?_
          have HT := Lib.hid hT2.1.1
          clear hT0 hT1 hT2
          go_wp2
          go_ret
          exact ⟨rfl, HT.out⟩

end Go.Proofs.Ytakdmnamohdpaaa
