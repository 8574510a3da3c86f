/- BlockStays, walked: it returns true, and writes nothing that was there. -/
import Derived.Test.YtakdmnamohdpaaaArg
namespace Go.Proofs.Ytakdmnamohdpaaa
open Go.RowKit

/-- How many of the first k clients are blocked. -/
def cnt (l : List Int) (k : Nat) : Nat := ((List.range k).filter fun i : Nat => decide (0 < snc l i)).length

theorem cnt_zero (l : List Int) : cnt l 0 = 0 := rfl
theorem cnt_succ (l : List Int) (k : Nat) : cnt l (k + 1) = cnt l k + if 0 < snc l k then 1 else 0 := by
  unfold cnt
  rw [List.range_succ, List.filter_append, List.length_append]
  by_cases h : 0 < snc l k <;> simp [h]
theorem cnt_le (l : List Int) (k : Nat) : cnt l k ≤ k := by
  have := List.length_filter_le (fun i : Nat => decide (0 < snc l i)) (List.range k)
  simpa [cnt] using this

theorem cnt_all {l : List Int} (h : Good l) : cnt l 8 = l.length := by
  let A : List Int := ((List.range 8).filter fun i : Nat => decide (0 < snc l i)).map fun i : Nat => (i : Int)
  have hA : A.length = cnt l 8 := by simp [A, cnt]
  have hmem : ∀ x : Int, x ∈ A ↔ x ∈ l := fun x => by
    constructor
    · intro hx
      obtain ⟨i, hi, rfl⟩ := List.mem_map.1 hx
      have := (List.mem_filter.1 hi).2
      exact snc_pos.1 (by simpa using this)
    · intro hx
      have h0 := h.lo x hx
      have h1 := h.hi x hx
      obtain ⟨i, rfl⟩ := Int.eq_ofNat_of_zero_le h0
      refine List.mem_map.2 ⟨i, List.mem_filter.2 ⟨by simp; omega, by simpa using snc_pos.2 hx⟩, rfl⟩
  have hn : A.Nodup := by
    refine List.Pairwise.map _ (fun a b hab => ?_) (List.Pairwise.filter _ List.nodup_range)
    intro e; exact hab (by exact_mod_cast e)
  have h1 := List.Nodup.length_le_of_subset hn (fun x hx => (hmem x).1 hx)
  have h2 := List.Nodup.length_le_of_subset h.nodup (fun x hx => (hmem x).2 hx)
  omega

/-- What adding does, in the four cases that the law tells apart. -/
theorem stays_facts {l : List Int} (h : Good l) (x : Int) : ∃ (l' : List Int) (isb isa : Bool) (epa sn : Int), addl l x = l' ∧ decide (0 < (snc l x : Int)) = isb ∧ decide (0 < (snc l' x : Int)) = isa ∧ (l'.length : Int) = epa ∧ (snc l' x : Int) = sn ∧
    ((¬ 0 ≤ x ∧ isb = false ∧ isa = false ∧ epa = l.length) ∨ (0 ≤ x ∧ ¬ x < 8 ∧ isb = false ∧ isa = false ∧ epa = l.length) ∨ (0 ≤ x ∧ x < 8 ∧ isb = true ∧ isa = true ∧ epa = l.length) ∨
     (0 ≤ x ∧ x < 8 ∧ isb = false ∧ isa = true ∧ epa = l.length + 1 ∧ sn = l.length + 1)) := by
  by_cases h0 : 0 ≤ x
  · by_cases h8 : x < 8
    · by_cases hs : 0 < snc l x
      · refine ⟨l, true, true, _, _, snc_addl_of (Or.inr (Or.inr hs)), by simpa using hs, by simpa using hs, rfl, rfl, .inr (.inr (.inl ⟨h0, h8, rfl, rfl, rfl⟩))⟩
      · have hs0 : snc l x = 0 := by omega
        refine ⟨l ++ [x], false, true, _, _, addl_new h0 (by omega) hs0, by simp [hs0], by simp [snc_snoc, hs0], rfl, rfl, .inr (.inr (.inr ⟨h0, h8, rfl, rfl, by simp, by simp [snc_snoc, hs0]⟩))⟩
    · have hs0 := snc_out h (x := x) (Or.inr (by omega))
      refine ⟨l, false, false, _, _, snc_addl_of (Or.inr (Or.inl (by omega))), by simp [hs0], by simp [hs0], rfl, rfl, .inr (.inl ⟨h0, h8, rfl, rfl, rfl⟩)⟩
  · have hs0 := snc_out h (x := x) (Or.inl (by omega))
    refine ⟨l, false, false, _, _, snc_addl_of (Or.inl (by omega)), by simp [hs0], by simp [hs0], rfl, rfl, .inl ⟨h0, rfl, rfl, rfl⟩⟩

theorem snc_kept {l : List Int} {y : Int} (h : 0 < snc l y) (x : Int) : snc (addl l x) y = snc l y := by
  unfold addl
  split
  · rfl
  · rw [snc_snoc, if_pos h]

theorem since_is {w : World} {b : Nat} {l : List Int} (h : IsList w b l) (x : Int) (s : Int) (hs : (snc l x : Int) = s) : Calls Try.prog 20 #[.pointer (some ⟨b, 0, none⟩), .int .i64 x] w fun e w' => e = .returned (.int .i64 s) ∧ w = w' := by
  subst hs
  exact since_list h x

/-- What a round of BlockStays rests on. -/
structure Stays (w : World) (lb : Nat) (l : List Int) (wr : World) : Prop where
  list : IsList wr lb l
  below : Below w.heap.size w wr

theorem Stays.drewN {w : World} {lb : Nat} {l : List Int} {wr : World} (h : Stays w lb l wr) : Stays w lb l wr.drew := ⟨h.list.drew, h.below.drew⟩

set_option maxHeartbeats 4000000 in
set_option maxRecDepth 100000 in
theorem blockStays_walk (a0 : Option Addr) (len0 cap0 : Nat) (z0 : List Int) (who : Int) (w : World) (w0 : IsRow .i64 w a0 len0 cap0 z0) :
    Calls Try.prog 4 #[.slice a0 len0 cap0, .int .i64 who] w fun e w' => e = .returned (.bool true) ∧ Below w.heap.size w w' := by
  have hlen := w0.len
  unfold maxLen at hlen
  have W0 := Lib.hid w0
  clear w0
  go_enter Try.func4, Try.ntmps4
  go_wp2_with fail
  refine (awake12 w).mono ?_
  rintro e w1 ⟨rfl, b1⟩
  have B1 := Lib.hid b1
  have hs1 := b1.size
  clear b1
  go_wp2_with fail
  refine (new_isList w1).mono ?_
  rintro e w2 ⟨rfl, h2, g2⟩
  have P2 := Lib.hid (Stays.mk (lb := w1.heap.size) h2 (B1.out.grown g2 hs1 (by simp)))
  clear h2 g2
  generalize hlb : w1.heap.size = lb at *
  have Hlb := Lib.hid hlb
  clear hlb B1
  go_wp2_with fail
  go_loopw [7] (fun i wr => ∃ (k : Nat) (l : List Int), k ≤ len0 ∧ i = .int .i64 k ∧ Stays w lb l wr) (fun i _ => len0 - (intOf i).toNat)
  case atStart => exact ⟨0, [], Nat.zero_le _, rfl, P2.out⟩
  case round =>
    obtain ⟨k, l, hk, rfl, hP⟩ := hrel
    have HP := Lib.hid hP
    have hll := hP.list.good.length
    clear hP
    by_cases hlt : k < len0 ∧ k < 60
    · obtain ⟨hlt, h60⟩ := hlt
      obtain ⟨b, off, rfl, hb, hc⟩ := W0.out.at (by omega)
      have hc' := hc k hlt
      have Hc := Lib.hid hc'
      clear hc hc'
      generalize ith z0 k = x at *
      obtain ⟨l', isb, isa, epa, sn, e1, e2, e3, e4, e5, hcases⟩ := stays_facts HP.out.list.good x
      have E1 := Lib.hid e1
      have E2 := Lib.hid e2
      have E3 := Lib.hid e3
      have E4 := Lib.hid e4
      have E5 := Lib.hid e5
      clear e1 e2 e3 e4 e5
      have c1 := Hc.out wr HP.out.below
      have hslb := HP.out.list.lt
      have hbw := HP.out.below.size
      obtain ⟨s, sa, hs, hsa, hss⟩ : ∃ s sa : Int, (snc l who : Int) = s ∧ (snc l' who : Int) = sa ∧ ((0 < s ∧ sa = s) ∨ s = 0) := by
        refine ⟨_, _, rfl, rfl, ?_⟩
        by_cases h : 0 < snc l who
        · exact .inl ⟨by omega, by rw [← E1.out, snc_kept h]⟩
        · exact .inr (by omega)
      have HS := Lib.hid hs
      have HSA := Lib.hid hsa
      clear hs hsa
      go_wp2_with fail
      refine (epoch_list HP.out.list).mono ?_
      rintro e wx ⟨rfl, rfl⟩
      go_wp2_with fail
      refine (since_is HP.out.list who s HS.out).mono ?_
      rintro e wx ⟨rfl, rfl⟩
      rcases hss with ⟨hs0, rfl⟩ | rfl <;> rcases hcases with ⟨hx0, rfl, rfl, rfl⟩ | ⟨hx0, hx8, rfl, rfl, rfl⟩ | ⟨hx0, hx8, rfl, rfl, rfl⟩ | ⟨hx0, hx8, rfl, rfl, rfl, rfl⟩
      all_goals
        go_wp2_with (go_at_call 19; refine (is_is HP.out.list x _ E2.out).mono ?_; rintro e wx ⟨rfl, rfl⟩)
        refine (add_is HP.out.list x l' _ E1.out E5.out).mono ?_
        rintro e w3 ⟨rfl, h3, g3⟩
        have P3 := Lib.hid (Stays.mk h3 (HP.out.below.grown g3 hbw (by simp; omega)))
        clear h3 g3 c1
        go_wp2_with fail
        refine held_begin (fun w' => Stays w lb l' w') (by kernel_rfl) P3.out.drewN ?_
        have hS0 : (fun w' => Stays w lb l' w') w3.drew := P3.out.drewN
        have hsum : IntKind.i64.wrap ((l.length : Int) + 1) = (l.length : Int) + 1 := IntWalk.i64_in _ (by omega)
        try have hd0 : decide (0 ≤ x) = false := by simp; omega
        try have hd8 : decide (x < 8) = false := by simp; omega
        refine held_take 0 ?_ rfl (by kernel_rfl) (by kernel_rfl) (by kernel_rfl) (fun _ _ _ h => h) (by rfl) ?_ hS0 ?_
        rotate_left
        · intro wS hSw; go_simp <;> with_reducible rfl
        simp only [Act.put, List.setIfInBounds_toArray, List.set_cons_zero, List.set_cons_succ]
        refine held_take 1 ?_ rfl (by kernel_rfl) (by kernel_rfl) (by kernel_rfl) (fun _ _ _ h => h) (by rfl) ?_ hS0 ?_
        rotate_left
        · intro wS hSw; go_simp <;> with_reducible rfl
        simp only [Act.put, List.setIfInBounds_toArray, List.set_cons_zero, List.set_cons_succ]
        refine held_take 2 ?_ rfl (by kernel_rfl) (by kernel_rfl) (by kernel_rfl) (fun _ _ _ h => h) (by rfl) ?_ hS0 ?_
        rotate_left
        · intro wS hSw; go_simp <;> with_reducible rfl
        simp only [Act.put, List.setIfInBounds_toArray, List.set_cons_zero, List.set_cons_succ]
        first
          | (refine held_skip 3 rfl (by kernel_rfl) (by kernel_rfl) (by kernel_rfl) (fun _ _ _ h => h) ?_ hS0 ?_; rfl; simp only [Act.put, List.setIfInBounds_toArray, List.set_cons_zero, List.set_cons_succ])
          | (refine held_take 3 ?_ rfl (by kernel_rfl) (by kernel_rfl) (by kernel_rfl) (fun _ _ _ h => h) ?_ ?_ hS0 ?_; rotate_left; rfl; (intro wS hSw; go_simp <;> with_reducible rfl); simp only [Act.put, List.setIfInBounds_toArray, List.set_cons_zero, List.set_cons_succ])
        first
          | (refine held_skip 4 rfl (by kernel_rfl) (by kernel_rfl) (by kernel_rfl) (fun _ _ _ h => h) ?_ hS0 ?_; rfl; simp only [Act.put, List.setIfInBounds_toArray, List.set_cons_zero, List.set_cons_succ])
          | (refine held_take 4 ?_ rfl (by kernel_rfl) (by kernel_rfl) (by kernel_rfl) (fun _ _ _ h => h) ?_ ?_ hS0 ?_; rotate_left; rfl; (intro wS hSw; go_simp <;> with_reducible rfl); simp only [Act.put, List.setIfInBounds_toArray, List.set_cons_zero, List.set_cons_succ])
        first
          | (refine held_skip 6 rfl (by kernel_rfl) (by kernel_rfl) (by kernel_rfl) (fun _ _ _ h => h) ?_ hS0 ?_; rfl; simp only [Act.put, List.setIfInBounds_toArray, List.set_cons_zero, List.set_cons_succ])
          | (refine held_take 6 ?_ rfl (by kernel_rfl) (by kernel_rfl) (by kernel_rfl) (fun _ _ _ h => h) ?_ ?_ hS0 ?_; rotate_left; rfl; (intro wS hSw; go_simp <;> with_reducible rfl); simp only [Act.put, List.setIfInBounds_toArray, List.set_cons_zero, List.set_cons_succ])
        first
          | (refine held_skip 5 rfl (by kernel_rfl) (by kernel_rfl) (by kernel_rfl) (fun _ _ _ h => h) ?_ hS0 ?_; rfl; simp only [Act.put, List.setIfInBounds_toArray, List.set_cons_zero, List.set_cons_succ])
          | (refine held_one 5 rfl (by kernel_rfl) ?_ (fun K hK => ?_); rfl; go_simp; refine (since_is hS0.list who _ HSA.out).mono ?_; rintro e wx ⟨rfl, rfl⟩; refine hK.out _ _ _ (fun _ h => h) hS0 (fun _ => ?_); clear hK K)
        first
          | (refine held_skip 7 rfl (by kernel_rfl) (by kernel_rfl) (by kernel_rfl) (fun _ _ _ h => h) ?_ hS0 ?_; rfl; simp only [Act.put, List.setIfInBounds_toArray, List.set_cons_zero, List.set_cons_succ])
          | (refine held_take 7 ?_ rfl (by kernel_rfl) (by kernel_rfl) (by kernel_rfl) (fun _ _ _ h => h) ?_ ?_ hS0 ?_; rotate_left; rfl; (intro wS hSw; go_simp <;> with_reducible rfl); simp only [Act.put, List.setIfInBounds_toArray, List.set_cons_zero, List.set_cons_succ])
        refine held_take 8 ?_ rfl (by kernel_rfl) (by kernel_rfl) (by kernel_rfl) (fun _ _ _ h => h) (by rfl) ?_ hS0 ?_
        rotate_left
        · intro wS hSw; go_simp <;> with_reducible rfl
        simp only [Act.put, List.setIfInBounds_toArray, List.set_cons_zero, List.set_cons_succ]
        refine held_take 9 ?_ rfl (by kernel_rfl) (by kernel_rfl) (by kernel_rfl) (fun _ _ _ h => h) (by rfl) ?_ hS0 ?_
        rotate_left
        · intro wS hSw; go_simp <;> with_reducible rfl
        simp only [Act.put, List.setIfInBounds_toArray, List.set_cons_zero, List.set_cons_succ]
        first
          | (refine held_skip 10 rfl (by kernel_rfl) (by kernel_rfl) (by kernel_rfl) (fun _ _ _ h => h) ?_ hS0 ?_; rfl; simp only [Act.put, List.setIfInBounds_toArray, List.set_cons_zero, List.set_cons_succ])
          | (refine held_take 10 ?_ rfl (by kernel_rfl) (by kernel_rfl) (by kernel_rfl) (fun _ _ _ h => h) ?_ ?_ hS0 ?_; rotate_left; rfl; (intro wS hSw; go_simp <;> with_reducible rfl); simp only [Act.put, List.setIfInBounds_toArray, List.set_cons_zero, List.set_cons_succ])
        first
          | (refine held_skip 11 rfl (by kernel_rfl) (by kernel_rfl) (by kernel_rfl) (fun _ _ _ h => h) ?_ hS0 ?_; rfl; simp only [Act.put, List.setIfInBounds_toArray, List.set_cons_zero, List.set_cons_succ])
          | (refine held_take 11 ?_ rfl (by kernel_rfl) (by kernel_rfl) (by kernel_rfl) (fun _ _ _ h => h) ?_ ?_ hS0 ?_; rotate_left; rfl; (intro wS hSw; go_simp <;> with_reducible rfl); simp only [Act.put, List.setIfInBounds_toArray, List.set_cons_zero, List.set_cons_succ])
        first
          | (refine held_skip 12 rfl (by kernel_rfl) (by kernel_rfl) (by kernel_rfl) (fun _ _ _ h => h) ?_ hS0 ?_; rfl; simp only [Act.put, List.setIfInBounds_toArray, List.set_cons_zero, List.set_cons_succ])
          | (refine held_take 12 ?_ rfl (by kernel_rfl) (by kernel_rfl) (by kernel_rfl) (fun _ _ _ h => h) ?_ ?_ hS0 ?_; rotate_left; rfl; (intro wS hSw; go_simp <;> with_reducible rfl); simp only [Act.put, List.setIfInBounds_toArray, List.set_cons_zero, List.set_cons_succ])
        first
          | (refine held_skip 14 rfl (by kernel_rfl) (by kernel_rfl) (by kernel_rfl) (fun _ _ _ h => h) ?_ hS0 ?_; rfl; simp only [Act.put, List.setIfInBounds_toArray, List.set_cons_zero, List.set_cons_succ])
          | (refine held_take 14 ?_ rfl (by kernel_rfl) (by kernel_rfl) (by kernel_rfl) (fun _ _ _ h => h) ?_ ?_ hS0 ?_; rotate_left; rfl; (intro wS hSw; go_simp <;> with_reducible rfl); simp only [Act.put, List.setIfInBounds_toArray, List.set_cons_zero, List.set_cons_succ])
        first
          | (refine held_skip 15 rfl (by kernel_rfl) (by kernel_rfl) (by kernel_rfl) (fun _ _ _ h => h) ?_ hS0 ?_; rfl; simp only [Act.put, List.setIfInBounds_toArray, List.set_cons_zero, List.set_cons_succ])
          | (refine held_take 15 ?_ rfl (by kernel_rfl) (by kernel_rfl) (by kernel_rfl) (fun _ _ _ h => h) ?_ ?_ hS0 ?_; rotate_left; rfl; (intro wS hSw; go_simp <;> with_reducible rfl); simp only [Act.put, List.setIfInBounds_toArray, List.set_cons_zero, List.set_cons_succ])
        first
          | (refine held_skip 13 rfl (by kernel_rfl) (by kernel_rfl) (by kernel_rfl) (fun _ _ _ h => h) ?_ hS0 ?_; rfl; simp only [Act.put, List.setIfInBounds_toArray, List.set_cons_zero, List.set_cons_succ])
          | (refine held_one 13 rfl (by kernel_rfl) ?_ (fun K hK => ?_); rfl; go_simp; refine (epoch_is hS0.list _ E4.out).mono ?_; rintro e wx ⟨rfl, rfl⟩; refine hK.out _ _ _ (fun _ h => h) hS0 (fun _ => ?_); clear hK K)
        first
          | (refine held_skip 16 rfl (by kernel_rfl) (by kernel_rfl) (by kernel_rfl) (fun _ _ _ h => h) ?_ hS0 ?_; rfl; simp only [Act.put, List.setIfInBounds_toArray, List.set_cons_zero, List.set_cons_succ])
          | (refine held_take 16 ?_ rfl (by kernel_rfl) (by kernel_rfl) (by kernel_rfl) (fun _ _ _ h => h) ?_ ?_ hS0 ?_; rotate_left; rfl; (intro wS hSw; go_simp <;> with_reducible rfl); simp only [Act.put, List.setIfInBounds_toArray, List.set_cons_zero, List.set_cons_succ])
        first
          | (refine held_skip 17 rfl (by kernel_rfl) (by kernel_rfl) (by kernel_rfl) (fun _ _ _ h => h) ?_ hS0 ?_; rfl; simp only [Act.put, List.setIfInBounds_toArray, List.set_cons_zero, List.set_cons_succ])
          | (refine held_take 17 ?_ rfl (by kernel_rfl) (by kernel_rfl) (by kernel_rfl) (fun _ _ _ h => h) ?_ ?_ hS0 ?_; rotate_left; rfl; (intro wS hSw; go_simp <;> with_reducible rfl); simp only [Act.put, List.setIfInBounds_toArray, List.set_cons_zero, List.set_cons_succ])
        first
          | (refine held_skip 18 rfl (by kernel_rfl) (by kernel_rfl) (by kernel_rfl) (fun _ _ _ h => h) ?_ hS0 ?_; rfl; simp only [Act.put, List.setIfInBounds_toArray, List.set_cons_zero, List.set_cons_succ])
          | (refine held_take 18 ?_ rfl (by kernel_rfl) (by kernel_rfl) (by kernel_rfl) (fun _ _ _ h => h) ?_ ?_ hS0 ?_; rotate_left; rfl; (intro wS hSw; go_simp <;> with_reducible rfl); simp only [Act.put, List.setIfInBounds_toArray, List.set_cons_zero, List.set_cons_succ])
        first
          | (refine held_skip 19 rfl (by kernel_rfl) (by kernel_rfl) (by kernel_rfl) (fun _ _ _ h => h) ?_ hS0 ?_; rfl; simp only [Act.put, List.setIfInBounds_toArray, List.set_cons_zero, List.set_cons_succ])
          | (refine held_take 19 ?_ rfl (by kernel_rfl) (by kernel_rfl) (by kernel_rfl) (fun _ _ _ h => h) ?_ ?_ hS0 ?_; rotate_left; rfl; (intro wS hSw; go_simp <;> with_reducible rfl); simp only [Act.put, List.setIfInBounds_toArray, List.set_cons_zero, List.set_cons_succ])
        first
          | (refine held_skip 20 rfl (by kernel_rfl) (by kernel_rfl) (by kernel_rfl) (fun _ _ _ h => h) ?_ hS0 ?_; rfl; simp only [Act.put, List.setIfInBounds_toArray, List.set_cons_zero, List.set_cons_succ])
          | (refine held_take 20 ?_ rfl (by kernel_rfl) (by kernel_rfl) (by kernel_rfl) (fun _ _ _ h => h) ?_ ?_ hS0 ?_; rotate_left; rfl; (intro wS hSw; go_simp <;> with_reducible rfl); simp only [Act.put, List.setIfInBounds_toArray, List.set_cons_zero, List.set_cons_succ])
        first
          | (refine held_skip 21 rfl (by kernel_rfl) (by kernel_rfl) (by kernel_rfl) (fun _ _ _ h => h) ?_ hS0 ?_; rfl; simp only [Act.put, List.setIfInBounds_toArray, List.set_cons_zero, List.set_cons_succ])
          | (refine held_take 21 ?_ rfl (by kernel_rfl) (by kernel_rfl) (by kernel_rfl) (fun _ _ _ h => h) ?_ ?_ hS0 ?_; rotate_left; rfl; (intro wS hSw; go_simp <;> with_reducible rfl); simp only [Act.put, List.setIfInBounds_toArray, List.set_cons_zero, List.set_cons_succ])
        first
          | (refine held_skip 22 rfl (by kernel_rfl) (by kernel_rfl) (by kernel_rfl) (fun _ _ _ h => h) ?_ hS0 ?_; rfl; simp only [Act.put, List.setIfInBounds_toArray, List.set_cons_zero, List.set_cons_succ])
          | (refine held_take 22 ?_ rfl (by kernel_rfl) (by kernel_rfl) (by kernel_rfl) (fun _ _ _ h => h) ?_ ?_ hS0 ?_; rotate_left; rfl; (intro wS hSw; go_simp <;> with_reducible rfl); simp only [Act.put, List.setIfInBounds_toArray, List.set_cons_zero, List.set_cons_succ])
        first
          | (refine held_skip 23 rfl (by kernel_rfl) (by kernel_rfl) (by kernel_rfl) (fun _ _ _ h => h) ?_ hS0 ?_; rfl; simp only [Act.put, List.setIfInBounds_toArray, List.set_cons_zero, List.set_cons_succ])
          | (refine held_take 23 ?_ rfl (by kernel_rfl) (by kernel_rfl) (by kernel_rfl) (fun _ _ _ h => h) ?_ ?_ hS0 ?_; rotate_left; rfl; (intro wS hSw; go_simp <;> with_reducible rfl); simp only [Act.put, List.setIfInBounds_toArray, List.set_cons_zero, List.set_cons_succ])
        refine held_take 24 ?_ rfl (by kernel_rfl) (by kernel_rfl) (by kernel_rfl) (fun _ _ _ h => h) (by rfl) ?_ hS0 ?_
        rotate_left
        · intro wS hSw; go_simp <;> with_reducible rfl
        simp only [Act.put, List.setIfInBounds_toArray, List.set_cons_zero, List.set_cons_succ]
        refine held_take 25 ?_ rfl (by kernel_rfl) (by kernel_rfl) (by kernel_rfl) (fun _ _ _ h => h) (by rfl) ?_ hS0 ?_
        rotate_left
        · intro wS hSw; go_simp <;> with_reducible rfl
        simp only [Act.put, List.setIfInBounds_toArray, List.set_cons_zero, List.set_cons_succ]
        first
          | (refine held_skip 26 rfl (by kernel_rfl) (by kernel_rfl) (by kernel_rfl) (fun _ _ _ h => h) ?_ hS0 ?_; rfl; simp only [Act.put, List.setIfInBounds_toArray, List.set_cons_zero, List.set_cons_succ])
          | (refine held_take 26 ?_ rfl (by kernel_rfl) (by kernel_rfl) (by kernel_rfl) (fun _ _ _ h => h) ?_ ?_ hS0 ?_; rotate_left; rfl; (intro wS hSw; go_simp <;> with_reducible rfl); simp only [Act.put, List.setIfInBounds_toArray, List.set_cons_zero, List.set_cons_succ])
        first
          | (refine held_skip 27 rfl (by kernel_rfl) (by kernel_rfl) (by kernel_rfl) (fun _ _ _ h => h) ?_ hS0 ?_; rfl; simp only [Act.put, List.setIfInBounds_toArray, List.set_cons_zero, List.set_cons_succ])
          | (refine held_take 27 ?_ rfl (by kernel_rfl) (by kernel_rfl) (by kernel_rfl) (fun _ _ _ h => h) ?_ ?_ hS0 ?_; rotate_left; rfl; (intro wS hSw; go_simp <;> with_reducible rfl); simp only [Act.put, List.setIfInBounds_toArray, List.set_cons_zero, List.set_cons_succ])
        first
          | (refine held_skip 28 rfl (by kernel_rfl) (by kernel_rfl) (by kernel_rfl) (fun _ _ _ h => h) ?_ hS0 ?_; rfl; simp only [Act.put, List.setIfInBounds_toArray, List.set_cons_zero, List.set_cons_succ])
          | (refine held_take 28 ?_ rfl (by kernel_rfl) (by kernel_rfl) (by kernel_rfl) (fun _ _ _ h => h) ?_ ?_ hS0 ?_; rotate_left; rfl; (intro wS hSw; go_simp <;> with_reducible rfl); simp only [Act.put, List.setIfInBounds_toArray, List.set_cons_zero, List.set_cons_succ])
        first
          | (refine held_skip 29 rfl (by kernel_rfl) (by kernel_rfl) (by kernel_rfl) (fun _ _ _ h => h) ?_ hS0 ?_; rfl; simp only [Act.put, List.setIfInBounds_toArray, List.set_cons_zero, List.set_cons_succ])
          | (refine held_take 29 ?_ rfl (by kernel_rfl) (by kernel_rfl) (by kernel_rfl) (fun _ _ _ h => h) ?_ ?_ hS0 ?_; rotate_left; rfl; (intro wS hSw; go_simp <;> with_reducible rfl); simp only [Act.put, List.setIfInBounds_toArray, List.set_cons_zero, List.set_cons_succ])
        first
          | (refine held_skip 31 rfl (by kernel_rfl) (by kernel_rfl) (by kernel_rfl) (fun _ _ _ h => h) ?_ hS0 ?_; rfl; simp only [Act.put, List.setIfInBounds_toArray, List.set_cons_zero, List.set_cons_succ])
          | (refine held_take 31 ?_ rfl (by kernel_rfl) (by kernel_rfl) (by kernel_rfl) (fun _ _ _ h => h) ?_ ?_ hS0 ?_; rotate_left; rfl; (intro wS hSw; go_simp <;> with_reducible rfl); simp only [Act.put, List.setIfInBounds_toArray, List.set_cons_zero, List.set_cons_succ])
        first
          | (refine held_skip 30 rfl (by kernel_rfl) (by kernel_rfl) (by kernel_rfl) (fun _ _ _ h => h) ?_ hS0 ?_; rfl; simp only [Act.put, List.setIfInBounds_toArray, List.set_cons_zero, List.set_cons_succ])
          | (refine held_one 30 rfl (by kernel_rfl) ?_ (fun K hK => ?_); rfl; go_simp; refine (epoch_is hS0.list _ E4.out).mono ?_; rintro e wx ⟨rfl, rfl⟩; refine hK.out _ _ _ (fun _ h => h) hS0 (fun _ => ?_); clear hK K)
        first
          | (refine held_skip 32 rfl (by kernel_rfl) (by kernel_rfl) (by kernel_rfl) (fun _ _ _ h => h) ?_ hS0 ?_; rfl; simp only [Act.put, List.setIfInBounds_toArray, List.set_cons_zero, List.set_cons_succ])
          | (refine held_take 32 ?_ rfl (by kernel_rfl) (by kernel_rfl) (by kernel_rfl) (fun _ _ _ h => h) ?_ ?_ hS0 ?_; rotate_left; rfl; (intro wS hSw; go_simp <;> with_reducible rfl); simp only [Act.put, List.setIfInBounds_toArray, List.set_cons_zero, List.set_cons_succ])
        first
          | (refine held_skip 33 rfl (by kernel_rfl) (by kernel_rfl) (by kernel_rfl) (fun _ _ _ h => h) ?_ hS0 ?_; rfl; simp only [Act.put, List.setIfInBounds_toArray, List.set_cons_zero, List.set_cons_succ])
          | (refine held_take 33 ?_ rfl (by kernel_rfl) (by kernel_rfl) (by kernel_rfl) (fun _ _ _ h => h) ?_ ?_ hS0 ?_; rotate_left; rfl; (intro wS hSw; go_simp <;> with_reducible rfl); simp only [Act.put, List.setIfInBounds_toArray, List.set_cons_zero, List.set_cons_succ])
        refine held_take 34 ?_ rfl (by kernel_rfl) (by kernel_rfl) (by kernel_rfl) (fun _ _ _ h => h) (by rfl) ?_ hS0 ?_
        rotate_left
        · intro wS hSw; go_simp <;> with_reducible rfl
        simp only [Act.put, List.setIfInBounds_toArray, List.set_cons_zero, List.set_cons_succ]
        refine held_take 35 ?_ rfl (by kernel_rfl) (by kernel_rfl) (by kernel_rfl) (fun _ _ _ h => h) (by rfl) ?_ hS0 ?_
        rotate_left
        · intro wS hSw; go_simp <;> with_reducible rfl
        simp only [Act.put, List.setIfInBounds_toArray, List.set_cons_zero, List.set_cons_succ]
        refine held_take 36 ?_ rfl (by kernel_rfl) (by kernel_rfl) (by kernel_rfl) (fun _ _ _ h => h) (by rfl) ?_ hS0 ?_
        rotate_left
        · intro wS hSw; go_simp <;> with_reducible rfl
        simp only [Act.put, List.setIfInBounds_toArray, List.set_cons_zero, List.set_cons_succ]
        refine held_take 37 ?_ rfl (by kernel_rfl) (by kernel_rfl) (by kernel_rfl) (fun _ _ _ h => h) (by rfl) ?_ hS0 ?_
        rotate_left
        · intro wS hSw; go_simp <;> with_reducible rfl
        simp only [Act.put, List.setIfInBounds_toArray, List.set_cons_zero, List.set_cons_succ]
        refine held_take 38 ?_ rfl (by kernel_rfl) (by kernel_rfl) (by kernel_rfl) (fun _ _ _ h => h) (by rfl) ?_ hS0 ?_
        rotate_left
        · intro wS hSw; go_simp <;> with_reducible rfl
        simp only [Act.put, List.setIfInBounds_toArray, List.set_cons_zero, List.set_cons_succ]
        refine held_take 39 ?_ rfl (by kernel_rfl) (by kernel_rfl) (by kernel_rfl) (fun _ _ _ h => h) (by rfl) ?_ hS0 ?_
        rotate_left
        · intro wS hSw; go_simp <;> with_reducible rfl
        simp only [Act.put, List.setIfInBounds_toArray, List.set_cons_zero, List.set_cons_succ]
        refine held_take 40 ?_ rfl (by kernel_rfl) (by kernel_rfl) (by kernel_rfl) (fun _ _ _ h => h) (by rfl) ?_ hS0 ?_
        rotate_left
        · intro wS hSw; have cS := Hc.out wS hSw.below; go_simp <;> with_reducible rfl
        simp only [Act.put, List.setIfInBounds_toArray, List.set_cons_zero, List.set_cons_succ]
        refine held_take 42 ?_ rfl (by kernel_rfl) (by kernel_rfl) (by kernel_rfl) (fun _ _ _ h => h) (by rfl) ?_ hS0 ?_
        rotate_left
        · intro wS hSw; go_simp <;> with_reducible rfl
        simp only [Act.put, List.setIfInBounds_toArray, List.set_cons_zero, List.set_cons_succ]
        refine held_take 43 ?_ rfl (by kernel_rfl) (by kernel_rfl) (by kernel_rfl) (fun _ _ _ h => h) (by rfl) ?_ hS0 ?_
        rotate_left
        · intro wS hSw; go_simp <;> with_reducible rfl
        simp only [Act.put, List.setIfInBounds_toArray, List.set_cons_zero, List.set_cons_succ]
        refine held_take 44 ?_ rfl (by kernel_rfl) (by kernel_rfl) (by kernel_rfl) (fun _ _ _ h => h) (by rfl) ?_ hS0 ?_
        rotate_left
        · intro wS hSw; go_simp <;> with_reducible rfl
        simp only [Act.put, List.setIfInBounds_toArray, List.set_cons_zero, List.set_cons_succ]
        refine held_take 45 ?_ rfl (by kernel_rfl) (by kernel_rfl) (by kernel_rfl) (fun _ _ _ h => h) (by rfl) ?_ hS0 ?_
        rotate_left
        · intro wS hSw; have cS := Hc.out wS hSw.below; go_simp <;> with_reducible rfl
        simp only [Act.put, List.setIfInBounds_toArray, List.set_cons_zero, List.set_cons_succ]
        refine held_take 46 ?_ rfl (by kernel_rfl) (by kernel_rfl) (by kernel_rfl) (fun _ _ _ h => h) (by rfl) ?_ hS0 ?_
        rotate_left
        · intro wS hSw; go_simp <;> with_reducible rfl
        simp only [Act.put, List.setIfInBounds_toArray, List.set_cons_zero, List.set_cons_succ]
        refine held_one 41 rfl (by kernel_rfl) (by rfl) (fun K hK => ?_)
        go_simp
        refine (is_is hS0.list x _ E3.out).mono ?_
        rintro e wx ⟨rfl, rfl⟩
        refine hK.out _ _ _ (fun _ h => h) hS0 (fun _ => ?_)
        clear hK K
        refine held_take 47 ?_ rfl (by kernel_rfl) (by kernel_rfl) (by kernel_rfl) (fun _ _ _ h => h) (by rfl) ?_ hS0 ?_
        rotate_left
        · intro wS hSw; go_simp <;> with_reducible rfl
        simp only [Act.put, List.setIfInBounds_toArray, List.set_cons_zero, List.set_cons_succ]
        first
          | (refine held_skip 48 rfl (by kernel_rfl) (by kernel_rfl) (by kernel_rfl) (fun _ _ _ h => h) ?_ hS0 ?_; rfl; simp only [Act.put, List.setIfInBounds_toArray, List.set_cons_zero, List.set_cons_succ])
          | (refine held_take 48 ?_ rfl (by kernel_rfl) (by kernel_rfl) (by kernel_rfl) (fun _ _ _ h => h) ?_ ?_ hS0 ?_; rotate_left; rfl; (intro wS hSw; go_simp <;> with_reducible rfl); simp only [Act.put, List.setIfInBounds_toArray, List.set_cons_zero, List.set_cons_succ])
        first
          | (refine held_skip 49 rfl (by kernel_rfl) (by kernel_rfl) (by kernel_rfl) (fun _ _ _ h => h) ?_ hS0 ?_; rfl; simp only [Act.put, List.setIfInBounds_toArray, List.set_cons_zero, List.set_cons_succ])
          | (refine held_take 49 ?_ rfl (by kernel_rfl) (by kernel_rfl) (by kernel_rfl) (fun _ _ _ h => h) ?_ ?_ hS0 ?_; rotate_left; rfl; (intro wS hSw; go_simp <;> with_reducible rfl); simp only [Act.put, List.setIfInBounds_toArray, List.set_cons_zero, List.set_cons_succ])
        first
          | (refine held_skip 50 rfl (by kernel_rfl) (by kernel_rfl) (by kernel_rfl) (fun _ _ _ h => h) ?_ hS0 ?_; rfl; simp only [Act.put, List.setIfInBounds_toArray, List.set_cons_zero, List.set_cons_succ])
          | (refine held_take 50 ?_ rfl (by kernel_rfl) (by kernel_rfl) (by kernel_rfl) (fun _ _ _ h => h) ?_ ?_ hS0 ?_; rotate_left; rfl; (intro wS hSw; go_simp <;> with_reducible rfl); simp only [Act.put, List.setIfInBounds_toArray, List.set_cons_zero, List.set_cons_succ])
        first
          | (refine held_skip 51 rfl (by kernel_rfl) (by kernel_rfl) (by kernel_rfl) (fun _ _ _ h => h) ?_ hS0 ?_; rfl; simp only [Act.put, List.setIfInBounds_toArray, List.set_cons_zero, List.set_cons_succ])
          | (refine held_take 51 ?_ rfl (by kernel_rfl) (by kernel_rfl) (by kernel_rfl) (fun _ _ _ h => h) ?_ ?_ hS0 ?_; rotate_left; rfl; (intro wS hSw; have cS := Hc.out wS hSw.below; go_simp <;> with_reducible rfl); simp only [Act.put, List.setIfInBounds_toArray, List.set_cons_zero, List.set_cons_succ])
        first
          | (refine held_skip 52 rfl (by kernel_rfl) (by kernel_rfl) (by kernel_rfl) (fun _ _ _ h => h) ?_ hS0 ?_; rfl; simp only [Act.put, List.setIfInBounds_toArray, List.set_cons_zero, List.set_cons_succ])
          | (refine held_take 52 ?_ rfl (by kernel_rfl) (by kernel_rfl) (by kernel_rfl) (fun _ _ _ h => h) ?_ ?_ hS0 ?_; rotate_left; rfl; (intro wS hSw; go_simp <;> with_reducible rfl); simp only [Act.put, List.setIfInBounds_toArray, List.set_cons_zero, List.set_cons_succ])
        refine held_take 53 ?_ rfl (by kernel_rfl) (by kernel_rfl) (by kernel_rfl) (fun _ _ _ h => h) (by rfl) ?_ hS0 ?_
        rotate_left
        · intro wS hSw; go_simp <;> with_reducible rfl
        simp only [Act.put, List.setIfInBounds_toArray, List.set_cons_zero, List.set_cons_succ]
        refine held_take 54 ?_ rfl (by kernel_rfl) (by kernel_rfl) (by kernel_rfl) (fun _ _ _ h => h) (by rfl) ?_ hS0 ?_
        rotate_left
        · intro wS hSw; go_simp <;> with_reducible rfl
        simp only [Act.put, List.setIfInBounds_toArray, List.set_cons_zero, List.set_cons_succ]
        refine held_take 55 ?_ rfl (by kernel_rfl) (by kernel_rfl) (by kernel_rfl) (fun _ _ _ h => h) (by rfl) ?_ hS0 ?_
        rotate_left
        · intro wS hSw; go_simp <;> with_reducible rfl
        simp only [Act.put, List.setIfInBounds_toArray, List.set_cons_zero, List.set_cons_succ]
        refine wpAnyH_done (by kernel_rfl) ?_ _
        refine NoPanic.normal ?_
        have HS2 := Lib.hid hS0
        clear hS0 hsum
        go_wp2
        go_roundw
        case rel => exact ⟨k + 1, l', by omega, by go_num, HS2.out⟩
        case measure => simp [intOf]; omega
    · have hcon : cnt l 8 = l.length := cnt_all HP.out.list.good
      have Hcon := Lib.hid hcon
      clear hcon
      have hguard : (k < len0 ∧ ¬ k < 60) ∨ ¬ k < len0 := by omega
      rcases hguard with ⟨h1, h2⟩ | h1
      all_goals
        go_wp2_with fail
        go_loop [12, 13] (fun s i => ∃ j : Nat, j ≤ 8 ∧ i = .int .i64 j ∧ s = .int .i64 (cnt l j)) (fun _ i => 8 - (intOf i).toNat)
        case atStart => exact ⟨0, by omega, rfl, rfl⟩
        case round =>
          obtain ⟨j, hj, rfl, rfl⟩ := hrel
          have hcl := cnt_le l j
          by_cases hj8 : j < 8
          · have hcs := cnt_succ l j
            have Hcs := Lib.hid hcs
            clear hcs
            by_cases hpos : 0 < snc l j
            · have Hpos := Lib.hid hpos
              clear hpos
              go_wp2_with (go_at_call 19; refine (is_is HP.out.list j true (by simpa using Hpos.out)).mono ?_; rintro e wx ⟨rfl, rfl⟩)
              go_round
              case rel => exact ⟨j + 1, by omega, by go_num, by rw [Hcs.out, if_pos Hpos.out]; go_num⟩
              case measure => simp [intOf]; omega
            · have Hpos := Lib.hid hpos
              clear hpos
              go_wp2_with (go_at_call 19; refine (is_is HP.out.list j false (by simpa using Hpos.out)).mono ?_; rintro e wx ⟨rfl, rfl⟩)
              go_round
              case rel => exact ⟨j + 1, by omega, by go_num, by rw [Hcs.out, if_neg Hpos.out]; rfl⟩
              case measure => simp [intOf]; omega
          · obtain rfl : j = 8 := by omega
            rw [Hcon.out]
            go_wp2_with (go_at_call 18; refine (epoch_list HP.out.list).mono ?_; rintro e wx ⟨rfl, rfl⟩)
            go_ret
            exact ⟨by simp, HP.out.below⟩

end Go.Proofs.Ytakdmnamohdpaaa
