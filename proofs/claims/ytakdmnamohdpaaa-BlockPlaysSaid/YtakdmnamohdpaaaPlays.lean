/- BlockPlays, walked: it returns true, and writes nothing that was there. -/
import Derived.Test.YtakdmnamohdpaaaArg
namespace Go.Proofs.Ytakdmnamohdpaaa
open Go.RowKit

/-- What a round of BlockPlays rests on: the block list and the reference's list are of the same ones. -/
structure Plays (w : World) (lb : Nat) (v : Value) (l : List Int) (wr : World) : Prop where
  list : IsList wr lb l
  ints : Ints wr (lb + 1) v l
  below : Below w.heap.size w wr

theorem Plays.drew {w : World} {lb : Nat} {v : Value} {l : List Int} {wr : World} (h : Plays w lb v l wr) : Plays w lb v l wr.drew := ⟨h.list.drew, h.ints, h.below.drew⟩
theorem Plays.grown {w : World} {lb : Nat} {v : Value} {l : List Int} {wr w' : World} (h : Plays w lb v l wr) (hg : wr.grownBy w' none) : Plays w lb v l w' :=
  ⟨h.list.grown hg (by simp), h.ints.kept hg (by simp), h.below.grown hg h.below.size (by simp)⟩

set_option maxHeartbeats 2000000 in
set_option maxRecDepth 100000 in
theorem blockPlays_walk (a0 : Option Addr) (len0 cap0 : Nat) (z0 : List Int) (who : Int) (w : World) (w0 : IsRow .i64 w a0 len0 cap0 z0) :
    Calls Try.prog 3 #[.slice a0 len0 cap0, .int .i64 who] w fun e w' => e = .returned (.bool true) ∧ Below w.heap.size w w' := by
  have hlen := w0.len
  unfold maxLen at hlen
  have W0 := Lib.hid w0
  clear w0
  go_enter Try.func3, Try.ntmps3
  go_wp2_with fail
  refine (awake12 w).mono ?_
  rintro e w1 ⟨rfl, b1⟩
  have B1 := Lib.hid b1
  have hs1 := b1.size
  clear b1
  go_wp2_with fail
  refine (new_isList w1).mono ?_
  rintro e w2 ⟨rfl, h2, g2⟩
  have P2 := Lib.hid (Plays.mk (lb := w1.heap.size) h2 (World.ownsRow_nil w2 (w1.heap.size + 1) 3 1) (B1.out.grown g2 hs1 (by simp)))
  clear h2 g2
  generalize hlb : w1.heap.size = lb at *
  have Hlb := Lib.hid hlb
  clear hlb B1
  go_wp2_with fail
  go_loopw [7, 8] (fun v i wr => ∃ (k : Nat) (l : List Int), k ≤ len0 ∧ i = .int .i64 k ∧ Plays w lb v l wr) (fun _ i _ => len0 - (intOf i).toNat)
  case atStart => exact ⟨0, [], Nat.zero_le _, rfl, P2.out⟩
  case round =>
    obtain ⟨k, l, hk, rfl, hP⟩ := hrel
    have HP := Lib.hid hP
    clear hP
    by_cases hlt : k < len0 ∧ k < 60
    · obtain ⟨hlt, h60⟩ := hlt
      obtain ⟨b, off, rfl, hb, hc⟩ := W0.out.at (by omega)
      have hc' := hc k hlt
      have Hc := Lib.hid hc'
      clear hc hc'
      generalize ith z0 k = x at *
      generalize hl' : addl l x = l' at *
      have Hl := Lib.hid hl'
      clear hl'
      have c1 := Hc.out wr HP.out.below
      have hslb := HP.out.list.lt
      have hbw := HP.out.below.size
      go_wp2_with fail
      refine (add_is HP.out.list x l' _ Hl.out rfl).mono ?_
      rintro e w3 ⟨rfl, h3, g3⟩
      have P3 := Lib.hid (And.intro h3 (And.intro (HP.out.ints.kept g3 (by simp)) (HP.out.below.grown g3 hbw (by simp; omega))))
      have hs3 := g3.size
      have c3 := Hc.out w3 P3.out.2.2
      clear h3 g3 c1
      go_wp2_with fail
      have hll := HP.out.list.good.length
      refine (refAdd_any P3.out.2.1 (by omega) x (by omega)).mono ?_
      rintro e w4 ⟨v4, rfl, h4, g4⟩
      have hs4 := g4.size
      rw [Hl.out] at h4
      obtain ⟨a4, cap4, rfl⟩ := h4.slice
      have P4 := Lib.hid (Plays.mk (P3.out.1.grown g4 (by simp)) h4 (P3.out.2.2.grown g4 (by omega) (by simp)))
      have c4 := Hc.out w4 P4.out.below
      clear h4 g4 c3 P3 HP
      go_wp2_with fail
      refine held_begin (fun w' => Plays w lb (.slice a4 l'.length cap4) l' w') (by kernel_rfl) P4.out.drew ?_
      have hS0 : (fun w' => Plays w lb (.slice a4 l'.length cap4) l' w') w4.drew := P4.out.drew
      clear c4
      refine held_take 0 ?_ rfl (by kernel_rfl) (by kernel_rfl) (by kernel_rfl) (fun _ _ _ h => h) (by rfl) ?_ hS0 ?_
      rotate_left
      · intro wS hSw; go_simp <;> with_reducible rfl
      simp only [Act.put, List.setIfInBounds_toArray, List.set_cons_zero, List.set_cons_succ]
      refine held_take 1 ?_ rfl (by kernel_rfl) (by kernel_rfl) (by kernel_rfl) (fun _ _ _ h => h) (by rfl) ?_ hS0 ?_
      rotate_left
      · intro wS hSw; go_simp <;> with_reducible rfl
      simp only [Act.put, List.setIfInBounds_toArray, List.set_cons_zero, List.set_cons_succ]
      refine held_take 2 ?_ rfl (by kernel_rfl) (by kernel_rfl) (by kernel_rfl) (fun _ _ _ h => h) (by rfl) ?_ hS0 ?_
      rotate_left
      · intro wS hSw; go_simp <;> with_reducible rfl
      simp only [Act.put, List.setIfInBounds_toArray, List.set_cons_zero, List.set_cons_succ]
      refine held_take 3 ?_ rfl (by kernel_rfl) (by kernel_rfl) (by kernel_rfl) (fun _ _ _ h => h) (by rfl) ?_ hS0 ?_
      rotate_left
      · intro wS hSw; go_simp <;> with_reducible rfl
      simp only [Act.put, List.setIfInBounds_toArray, List.set_cons_zero, List.set_cons_succ]
      refine held_take 4 ?_ rfl (by kernel_rfl) (by kernel_rfl) (by kernel_rfl) (fun _ _ _ h => h) (by rfl) ?_ hS0 ?_
      rotate_left
      · intro wS hSw; go_simp <;> with_reducible rfl
      simp only [Act.put, List.setIfInBounds_toArray, List.set_cons_zero, List.set_cons_succ]
      refine held_take 5 ?_ rfl (by kernel_rfl) (by kernel_rfl) (by kernel_rfl) (fun _ _ _ h => h) (by rfl) ?_ hS0 ?_
      rotate_left
      · intro wS hSw; have cS := Hc.out wS hSw.below; go_simp <;> with_reducible rfl
      simp only [Act.put, List.setIfInBounds_toArray, List.set_cons_zero, List.set_cons_succ]
      refine held_one 6 rfl (by kernel_rfl) (by rfl) (fun K hK => ?_)
      go_simp
      refine (refSince_any hS0.ints x).mono ?_
      rintro e wx ⟨rfl, rfl⟩
      refine hK.out _ _ _ (fun _ h => h) hS0 (fun _ => ?_)
      clear hK K
      refine held_take 7 ?_ rfl (by kernel_rfl) (by kernel_rfl) (by kernel_rfl) (fun _ _ _ h => h) (by rfl) ?_ hS0 ?_
      rotate_left
      · intro wS hSw; go_simp <;> with_reducible rfl
      simp only [Act.put, List.setIfInBounds_toArray, List.set_cons_zero, List.set_cons_succ]
      refine held_take 8 ?_ rfl (by kernel_rfl) (by kernel_rfl) (by kernel_rfl) (fun _ _ _ h => h) (by rfl) ?_ hS0 ?_
      rotate_left
      · intro wS hSw; go_simp <;> with_reducible rfl
      simp only [Act.put, List.setIfInBounds_toArray, List.set_cons_zero, List.set_cons_succ]
      refine held_take 9 ?_ rfl (by kernel_rfl) (by kernel_rfl) (by kernel_rfl) (fun _ _ _ h => h) (by rfl) ?_ hS0 ?_
      rotate_left
      · intro wS hSw; go_simp <;> with_reducible rfl
      simp only [Act.put, List.setIfInBounds_toArray, List.set_cons_zero, List.set_cons_succ]
      refine held_take 11 ?_ rfl (by kernel_rfl) (by kernel_rfl) (by kernel_rfl) (fun _ _ _ h => h) (by rfl) ?_ hS0 ?_
      rotate_left
      · intro wS hSw; go_simp <;> with_reducible rfl
      simp only [Act.put, List.setIfInBounds_toArray, List.set_cons_zero, List.set_cons_succ]
      refine held_take 12 ?_ rfl (by kernel_rfl) (by kernel_rfl) (by kernel_rfl) (fun _ _ _ h => h) (by rfl) ?_ hS0 ?_
      rotate_left
      · intro wS hSw; go_simp <;> with_reducible rfl
      simp only [Act.put, List.setIfInBounds_toArray, List.set_cons_zero, List.set_cons_succ]
      refine held_one 10 rfl (by kernel_rfl) (by rfl) (fun K hK => ?_)
      go_simp
      refine (epoch_list hS0.list).mono ?_
      rintro e wx ⟨rfl, rfl⟩
      refine hK.out _ _ _ (fun _ h => h) hS0 (fun _ => ?_)
      clear hK K
      refine held_take 13 ?_ rfl (by kernel_rfl) (by kernel_rfl) (by kernel_rfl) (fun _ _ _ h => h) (by rfl) ?_ hS0 ?_
      rotate_left
      · intro wS hSw; go_simp <;> with_reducible rfl
      simp only [Act.put, List.setIfInBounds_toArray, List.set_cons_zero, List.set_cons_succ]
      refine held_take 14 ?_ rfl (by kernel_rfl) (by kernel_rfl) (by kernel_rfl) (fun _ _ _ h => h) (by rfl) ?_ hS0 ?_
      rotate_left
      · intro wS hSw; go_simp <;> with_reducible rfl
      simp only [Act.put, List.setIfInBounds_toArray, List.set_cons_zero, List.set_cons_succ]
      refine held_take 15 ?_ rfl (by kernel_rfl) (by kernel_rfl) (by kernel_rfl) (fun _ _ _ h => h) (by rfl) ?_ hS0 ?_
      rotate_left
      · intro wS hSw; go_simp <;> with_reducible rfl
      simp only [Act.put, List.setIfInBounds_toArray, List.set_cons_zero, List.set_cons_succ]
      refine held_take 16 ?_ rfl (by kernel_rfl) (by kernel_rfl) (by kernel_rfl) (fun _ _ _ h => h) (by rfl) ?_ hS0 ?_
      rotate_left
      · intro wS hSw; go_simp <;> with_reducible rfl
      simp only [Act.put, List.setIfInBounds_toArray, List.set_cons_zero, List.set_cons_succ]
      refine held_take 17 ?_ rfl (by kernel_rfl) (by kernel_rfl) (by kernel_rfl) (fun _ _ _ h => h) (by rfl) ?_ hS0 ?_
      rotate_left
      · intro wS hSw; go_simp <;> with_reducible rfl
      simp only [Act.put, List.setIfInBounds_toArray, List.set_cons_zero, List.set_cons_succ]
      refine held_take 19 ?_ rfl (by kernel_rfl) (by kernel_rfl) (by kernel_rfl) (fun _ _ _ h => h) (by rfl) ?_ hS0 ?_
      rotate_left
      · intro wS hSw; go_simp <;> with_reducible rfl
      simp only [Act.put, List.setIfInBounds_toArray, List.set_cons_zero, List.set_cons_succ]
      refine held_take 20 ?_ rfl (by kernel_rfl) (by kernel_rfl) (by kernel_rfl) (fun _ _ _ h => h) (by rfl) ?_ hS0 ?_
      rotate_left
      · intro wS hSw; go_simp <;> with_reducible rfl
      simp only [Act.put, List.setIfInBounds_toArray, List.set_cons_zero, List.set_cons_succ]
      refine held_one 18 rfl (by kernel_rfl) (by rfl) (fun K hK => ?_)
      go_simp
      refine (is_list hS0.list who).mono ?_
      rintro e wx ⟨rfl, rfl⟩
      refine hK.out _ _ _ (fun _ h => h) hS0 (fun _ => ?_)
      clear hK K
      refine held_one 21 rfl (by kernel_rfl) (by rfl) (fun K hK => ?_)
      go_simp
      refine (refSince_any hS0.ints who).mono ?_
      rintro e wx ⟨rfl, rfl⟩
      refine hK.out _ _ _ (fun _ h => h) hS0 (fun _ => ?_)
      clear hK K
      refine held_take 22 ?_ rfl (by kernel_rfl) (by kernel_rfl) (by kernel_rfl) (fun _ _ _ h => h) (by rfl) ?_ hS0 ?_
      rotate_left
      · intro wS hSw; go_simp <;> with_reducible rfl
      simp only [Act.put, List.setIfInBounds_toArray, List.set_cons_zero, List.set_cons_succ]
      refine held_take 23 ?_ rfl (by kernel_rfl) (by kernel_rfl) (by kernel_rfl) (fun _ _ _ h => h) (by rfl) ?_ hS0 ?_
      rotate_left
      · intro wS hSw; go_simp <;> with_reducible rfl
      simp only [Act.put, List.setIfInBounds_toArray, List.set_cons_zero, List.set_cons_succ]
      refine held_take 24 ?_ rfl (by kernel_rfl) (by kernel_rfl) (by kernel_rfl) (fun _ _ _ h => h) (by rfl) ?_ hS0 ?_
      rotate_left
      · intro wS hSw; go_simp <;> with_reducible rfl
      simp only [Act.put, List.setIfInBounds_toArray, List.set_cons_zero, List.set_cons_succ]
      refine held_take 25 ?_ rfl (by kernel_rfl) (by kernel_rfl) (by kernel_rfl) (fun _ _ _ h => h) (by rfl) ?_ hS0 ?_
      rotate_left
      · intro wS hSw; go_simp <;> with_reducible rfl
      simp only [Act.put, List.setIfInBounds_toArray, List.set_cons_zero, List.set_cons_succ]
      refine held_take 26 ?_ rfl (by kernel_rfl) (by kernel_rfl) (by kernel_rfl) (fun _ _ _ h => h) (by rfl) ?_ hS0 ?_
      rotate_left
      · intro wS hSw; go_simp <;> with_reducible rfl
      simp only [Act.put, List.setIfInBounds_toArray, List.set_cons_zero, List.set_cons_succ]
      refine held_take 27 ?_ rfl (by kernel_rfl) (by kernel_rfl) (by kernel_rfl) (fun _ _ _ h => h) (by rfl) ?_ hS0 ?_
      rotate_left
      · intro wS hSw; go_simp <;> with_reducible rfl
      simp only [Act.put, List.setIfInBounds_toArray, List.set_cons_zero, List.set_cons_succ]
      refine held_take 29 ?_ rfl (by kernel_rfl) (by kernel_rfl) (by kernel_rfl) (fun _ _ _ h => h) (by rfl) ?_ hS0 ?_
      rotate_left
      · intro wS hSw; go_simp <;> with_reducible rfl
      simp only [Act.put, List.setIfInBounds_toArray, List.set_cons_zero, List.set_cons_succ]
      refine held_take 30 ?_ rfl (by kernel_rfl) (by kernel_rfl) (by kernel_rfl) (fun _ _ _ h => h) (by rfl) ?_ hS0 ?_
      rotate_left
      · intro wS hSw; go_simp <;> with_reducible rfl
      simp only [Act.put, List.setIfInBounds_toArray, List.set_cons_zero, List.set_cons_succ]
      refine held_one 28 rfl (by kernel_rfl) (by rfl) (fun K hK => ?_)
      go_simp
      refine (since_list hS0.list who).mono ?_
      rintro e wx ⟨rfl, rfl⟩
      refine hK.out _ _ _ (fun _ h => h) hS0 (fun _ => ?_)
      clear hK K
      refine held_one 31 rfl (by kernel_rfl) (by rfl) (fun K hK => ?_)
      go_simp
      refine (refSince_any hS0.ints who).mono ?_
      rintro e wx ⟨rfl, rfl⟩
      refine hK.out _ _ _ (fun _ h => h) hS0 (fun _ => ?_)
      clear hK K
      refine held_take 32 ?_ rfl (by kernel_rfl) (by kernel_rfl) (by kernel_rfl) (fun _ _ _ h => h) (by rfl) ?_ hS0 ?_
      rotate_left
      · intro wS hSw; go_simp <;> with_reducible rfl
      simp only [Act.put, List.setIfInBounds_toArray, List.set_cons_zero, List.set_cons_succ]
      refine held_take 33 ?_ rfl (by kernel_rfl) (by kernel_rfl) (by kernel_rfl) (fun _ _ _ h => h) (by rfl) ?_ hS0 ?_
      rotate_left
      · intro wS hSw; go_simp <;> with_reducible rfl
      simp only [Act.put, List.setIfInBounds_toArray, List.set_cons_zero, List.set_cons_succ]
      refine held_take 34 ?_ rfl (by kernel_rfl) (by kernel_rfl) (by kernel_rfl) (fun _ _ _ h => h) (by rfl) ?_ hS0 ?_
      rotate_left
      · intro wS hSw; go_simp <;> with_reducible rfl
      simp only [Act.put, List.setIfInBounds_toArray, List.set_cons_zero, List.set_cons_succ]
      refine held_take 35 ?_ rfl (by kernel_rfl) (by kernel_rfl) (by kernel_rfl) (fun _ _ _ h => h) (by rfl) ?_ hS0 ?_
      rotate_left
      · intro wS hSw; go_simp <;> with_reducible rfl
      simp only [Act.put, List.setIfInBounds_toArray, List.set_cons_zero, List.set_cons_succ]
      refine held_take 38 ?_ rfl (by kernel_rfl) (by kernel_rfl) (by kernel_rfl) (fun _ _ _ h => h) (by rfl) ?_ hS0 ?_
      rotate_left
      · intro wS hSw; go_simp <;> with_reducible rfl
      simp only [Act.put, List.setIfInBounds_toArray, List.set_cons_zero, List.set_cons_succ]
      refine held_one 36 rfl (by kernel_rfl) (by rfl) (fun K hK => ?_)
      go_simp
      refine (pack_packed hS0.list).mono ?_
      rintro e wx ⟨g5, rfl, k5, g5g⟩
      refine hK.out (fun w' => Plays w lb (.slice a4 l'.length cap4) l' w' ∧ Packed w' g5 l') _ _ (fun _ h => h.1) ⟨hS0.grown g5g, k5⟩ (fun hS1 => ?_)
      clear hK K
      refine held_take 37 ?_ rfl (by kernel_rfl) (by kernel_rfl) (by kernel_rfl) (fun _ _ _ h => h) (by rfl) ?_ hS1 ?_
      rotate_left
      · intro wS hSw; have hcv := conv_packed hSw.2 8; go_simp <;> with_reducible rfl
      simp only [Act.put, List.setIfInBounds_toArray, List.set_cons_zero, List.set_cons_succ]
      have hl64 := hS1.1.list.good.length
      refine held_one 39 rfl (by kernel_rfl) (by rfl) (fun K hK => ?_)
      go_simp
      refine (refPack_any hS1.1.ints (by omega)).mono ?_
      rintro e wx ⟨g6, cap6, rfl, k6, g6g⟩
      refine hK.out (fun w' => (Plays w lb (.slice a4 l'.length cap4) l' w' ∧ Packed w' g5 l') ∧ Packed w' g6 l') _ _ (fun _ h => h.1) ⟨⟨hS1.1.grown g6g, hS1.2.grown g6g (by simp)⟩, k6⟩ (fun hS2 => ?_)
      clear hK K
      refine held_take 40 ?_ rfl (by kernel_rfl) (by kernel_rfl) (by kernel_rfl) (fun _ _ _ h => h) (by rfl) ?_ hS2 ?_
      rotate_left
      · intro wS hSw; have hcv := conv_packed hSw.2 cap6; go_simp <;> with_reducible rfl
      simp only [Act.put, List.setIfInBounds_toArray, List.set_cons_zero, List.set_cons_succ]
      refine held_take 41 ?_ rfl (by kernel_rfl) (by kernel_rfl) (by kernel_rfl) (fun _ _ _ h => h) (by rfl) ?_ hS2 ?_
      rotate_left
      · intro wS hSw; go_simp <;> with_reducible rfl
      simp only [Act.put, List.setIfInBounds_toArray, List.set_cons_zero, List.set_cons_succ]
      refine held_take 42 ?_ rfl (by kernel_rfl) (by kernel_rfl) (by kernel_rfl) (fun _ _ _ h => h) (by rfl) ?_ hS2 ?_
      rotate_left
      · intro wS hSw; go_simp <;> with_reducible rfl
      simp only [Act.put, List.setIfInBounds_toArray, List.set_cons_zero, List.set_cons_succ]
      refine wpAnyH_done (by kernel_rfl) ?_ _
      refine NoPanic.normal ?_
      have HS2 := Lib.hid hS2.1.1
      clear hS0 hS1 hS2
      go_wp2
      go_roundw
      case rel => exact ⟨k + 1, l', by omega, by go_num, HS2.out⟩
      case measure => simp [intOf]; omega
    · by_cases h1 : k < len0
      · have h2 : ¬ k < 60 := by omega
        go_wp2
        go_ret
        exact ⟨rfl, HP.out.below⟩
      · go_wp2
        go_ret
        exact ⟨rfl, HP.out.below⟩

end Go.Proofs.Ytakdmnamohdpaaa
