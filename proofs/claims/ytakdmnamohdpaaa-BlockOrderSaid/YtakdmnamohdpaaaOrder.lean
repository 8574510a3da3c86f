/- BlockOrder, walked: it returns true, and writes nothing that was there. -/
import Derived.Test.YtakdmnamohdpaaaArg
namespace Go.Proofs.Ytakdmnamohdpaaa
open Go.RowKit

/-! ### Masks -/
theorem and7 (x : Int) : bits .and .i64 x 7 = x % 8 := by
  show IntKind.i64.wrap ((BitVec.ofInt 64 x &&& BitVec.ofInt 64 7).toNat : Int) = _
  rw [BitVec.toNat_and, BitVec.toNat_ofInt, show (BitVec.ofInt 64 7).toNat = 7 from rfl, nat_mask3, IntWalk.i64_in _ (by omega)]
  omega
theorem and3 (x : Int) : bits .and .i64 x 3 = x % 4 := by
  show IntKind.i64.wrap ((BitVec.ofInt 64 x &&& BitVec.ofInt 64 3).toNat : Int) = _
  rw [BitVec.toNat_and, BitVec.toNat_ofInt, show (BitVec.ofInt 64 3).toNat = 3 from rfl, nat_mask2, IntWalk.i64_in _ (by omega)]
  omega

/-! ### Epochs -/
theorem snc_ith {l : List Int} (h : Good l) {i : Nat} (hi : i < l.length) : snc l (ith l i) = i + 1 := by
  refine snc_found hi rfl fun j hj e => ?_
  unfold ith at e
  simp only [List.getD_eq_getElem?_getD, List.getElem?_eq_getElem hi, List.getElem?_eq_getElem (show j < l.length by omega), Option.getD_some] at e
  exact List.pairwise_iff_getElem.1 h.nodup j i (by omega) hi hj e

theorem ith_mem {l : List Int} {i : Nat} (hi : i < l.length) : ith l i ∈ l := by
  unfold ith
  simp only [List.getD_eq_getElem?_getD, List.getElem?_eq_getElem hi, Option.getD_some]
  exact List.getElem_mem hi

theorem snc_place {l : List Int} {x : Int} (h : 0 < snc l x) : snc l x ≤ l.length ∧ ith l (snc l x - 1) = x := by
  refine ⟨snc_le l x, ?_⟩
  unfold ith
  induction l with
  | nil => simp [snc] at h
  | cons a r ih =>
    simp only [snc] at h ⊢
    by_cases ha : a = x
    · simp [ha]
    · simp only [ha, if_false] at h ⊢
      by_cases h0 : snc r x = 0
      · simp [h0] at h
      · have := ih (by omega)
        simp only [h0, if_false]
        rw [show snc r x + 1 - 1 = (snc r x - 1) + 1 by omega]
        simpa using this

theorem snc_inj {l : List Int} {x y : Int} (h : 0 < snc l x) (e : snc l x = snc l y) : x = y := by
  have h1 := (snc_place h).2
  have h2 := (snc_place (l := l) (x := y) (by omega)).2
  rw [← h1, ← h2, e]

/-- Has one of the first i clients this epoch? -/
def hit (l : List Int) (i e : Nat) : Bool := (List.range i).any fun j : Nat => snc l j == e

theorem hit_zero (l : List Int) (e : Nat) : hit l 0 e = false := rfl
theorem hit_succ (l : List Int) (i e : Nat) : hit l (i + 1) e = (hit l i e || snc l i == e) := by
  unfold hit
  rw [List.range_succ, List.any_append]
  simp
theorem hit_fresh {l : List Int} {i : Nat} (h : 0 < snc l i) : hit l i (snc l i) = false := by
  cases hh : hit l i (snc l i)
  · rfl
  · obtain ⟨j, hj, he⟩ := List.any_eq_true.1 hh
    have hj' := List.mem_range.1 hj
    have he' : snc l j = snc l i := by simpa using he
    have := snc_inj h he'.symm
    omega
theorem hit_all {l : List Int} (h : Good l) {e : Nat} (h1 : 1 ≤ e) (h2 : e ≤ l.length) : hit l 8 e = true := by
  have hm := ith_mem (l := l) (i := e - 1) (by omega)
  have h0 := h.lo _ hm
  have h7 := h.hi _ hm
  obtain ⟨j, hj⟩ := Int.eq_ofNat_of_zero_le h0
  have hs := snc_ith h (i := e - 1) (by omega)
  refine List.any_eq_true.2 ⟨j, List.mem_range.2 (by omega), ?_⟩
  rw [← hj, hs]
  simp; omega

theorem snc_stays {l : List Int} {y : Int} (h : 0 < snc l y) (x : Int) : snc (addl l x) y = snc l y := by
  unfold addl
  split
  · rfl
  · rw [snc_snoc, if_pos h]
theorem snc_added {l : List Int} {x : Int} (h0 : 0 ≤ x) (h7 : x ≤ 7) : 0 < snc (addl l x) x := by
  unfold addl
  split
  · omega
  · rw [snc_snoc]; split <;> simp_all
theorem since_eq {w : World} {b : Nat} {l : List Int} (h : IsList w b l) (x : Int) (s : Int) (hs : (snc l x : Int) = s) : Calls Try.prog 20 #[.pointer (some ⟨b, 0, none⟩), .int .i64 x] w fun e w' => e = .returned (.int .i64 s) ∧ w = w' := by
  subst hs
  exact since_list h x

/-- The nine marks, behind i rounds. -/
structure Marks (w : World) (sb : Nat) (l : List Int) (i : Nat) : Prop where
  block : ∃ cs, w.heap[sb]? = some (.cells cs 4 (0, 0)) ∧ cs.size = 9 ∧ ∀ e, e < 9 → cs[e]? = some (.bool (hit l i e))

theorem Marks.cell {w : World} {sb : Nat} {l : List Int} {i : Nat} (h : Marks w sb l i) (e : Nat) (he : e < 9) : w.cell? ⟨sb, e, none⟩ = some (.bool (hit l i e)) := by
  obtain ⟨cs, hb, _, hc⟩ := h.block
  rw [cell_of_row _ _ _ _ _ _ hb, hc e he]
theorem Marks.free {w : World} {sb : Nat} {l : List Int} {i : Nat} (h : Marks w sb l i) (e : Nat) : w.frozen? ⟨sb, e, none⟩ = false := by
  obtain ⟨cs, hb, _, _⟩ := h.block
  exact frozen_of_row _ _ _ _ _ hb
theorem Marks.lt {w : World} {sb : Nat} {l : List Int} {i : Nat} (h : Marks w sb l i) : sb < w.heap.size := by
  obtain ⟨cs, hb, _, _⟩ := h.block
  exact (Array.getElem?_eq_some_iff.1 hb).1
theorem Marks.set {w : World} {sb : Nat} {l : List Int} {i : Nat} (h : Marks w sb l i) (hs : snc l i < 9) : Marks (w.setCell ⟨sb, snc l i, none⟩ (.bool true)) sb l (i + 1) := by
  obtain ⟨cs, hb, hz, hc⟩ := h.block
  refine ⟨_, heap_setCell_same w sb (snc l i) cs 4 _ hb, by simp [hz], fun e he => ?_⟩
  rw [hit_succ]
  by_cases hee : snc l i = e
  · subst hee
    rw [Array.getElem?_setIfInBounds_self_of_lt (by omega)]
    simp
  · rw [Array.getElem?_setIfInBounds_ne hee, hc e he]
    have : (snc l i == e) = false := by simpa using hee
    rw [this, Bool.or_false]
theorem Marks.made (w : World) (l : List Int) : Marks (w.alloc (.cells #[.bool false, .bool false, .bool false, .bool false, .bool false, .bool false, .bool false, .bool false, .bool false] 4)) w.heap.size l 0 := by
  refine ⟨_, Go.heap_alloc_new w _, rfl, fun e he => ?_⟩
  rw [hit_zero]
  obtain rfl | rfl | rfl | rfl | rfl | rfl | rfl | rfl | rfl : e = 0 ∨ e = 1 ∨ e = 2 ∨ e = 3 ∨ e = 4 ∨ e = 5 ∨ e = 6 ∨ e = 7 ∨ e = 8 := by omega
  all_goals rfl

/-- A counter from 1 on. -/
def Upto (n : Nat) (i : Value) : Prop := ∃ e : Nat, 1 ≤ e ∧ e ≤ n + 1 ∧ i = .int .i64 e

/-- What the rounds rest on. -/
structure Order (w : World) (lb : Nat) (a : Int) (l : List Int) (wr : World) : Prop where
  list : IsList wr lb l
  below : Below w.heap.size w wr
  first : snc l a = 1


set_option maxHeartbeats 2000000 in
set_option maxRecDepth 100000 in
theorem blockOrder_walk (a b : Int) (a0 : Option Addr) (len0 cap0 : Nat) (z0 : List Int) (w : World) (w0 : IsRow .i64 w a0 len0 cap0 z0) :
    Calls Try.prog 5 #[.int .i64 a, .int .i64 b, .slice a0 len0 cap0] w fun e w' => e = .returned (.bool true) ∧ Below w.heap.size w w' := by
  have hlen := w0.len
  unfold maxLen at hlen
  have W0 := Lib.hid w0
  clear w0
  obtain ⟨p, hp, hp0, hp8⟩ : ∃ p, bits .and .i64 a 7 = p ∧ 0 ≤ p ∧ p < 8 := ⟨_, rfl, by rw [and7]; omega, by rw [and7]; omega⟩
  obtain ⟨q, hq, hq0, hq8⟩ : ∃ q, bits .and .i64 b 7 = q ∧ 0 ≤ q ∧ q < 8 := ⟨_, rfl, by rw [and7]; omega, by rw [and7]; omega⟩
  have hmk : ∀ w : World, (Instr.makeSlice 35 (.int .i64 9) (.int .i64 9)).run Try.prog w = .ok (.slice (some ⟨w.heap.size, 0, none⟩) 9 9) (w.alloc (.cells #[.bool false, .bool false, .bool false, .bool false, .bool false, .bool false, .bool false, .bool false, .bool false] 4)) := fun _ => by kernel_rfl
  have Hmk := Lib.hid hmk
  clear hmk
  go_enter Try.func5, Try.ntmps5
  go_wp2_with fail
  refine (awake12 w).mono ?_
  rintro e w1 ⟨rfl, b1⟩
  have B1 := Lib.hid b1
  have hs1 := b1.size
  clear b1
  go_wp2_with fail
  refine (new_isList w1).mono ?_
  rintro e w2 ⟨rfl, h2, g2⟩
  have hs2 := g2.size
  have B2 := Lib.hid (B1.out.grown g2 hs1 (by simp))
  have H2 := Lib.hid h2
  have hlb2 := h2.lt
  clear h2 g2
  generalize hlb : w1.heap.size = lb at *
  have Hlb := Lib.hid hlb
  clear hlb B1
  go_wp2_with fail
  have e1 : addl [] p = [p] := addl_new hp0 (by omega) rfl
  refine (add_is H2.out p [p] 1 e1 (by simp [snc])).mono ?_
  rintro e w3 ⟨rfl, h3, g3⟩
  have hs3 := g3.size
  have P3 := Lib.hid (Order.mk (a := p) h3 (B2.out.grown g3 (by omega) (by simp; omega)) (by simp [snc]))
  clear h3 g3 e1 B2 H2
  go_wp2_with fail
  go_loopw [9] (fun i wr => ∃ (k : Nat) (l : List Int), k ≤ len0 ∧ i = .int .i64 k ∧ Order w lb p l wr) (fun i _ => len0 - (intOf i).toNat)
  case atStart => exact ⟨0, [p], Nat.zero_le _, rfl, P3.out⟩
  case round =>
    obtain ⟨k, l, hk, rfl, hP⟩ := hrel
    have HP := Lib.hid hP
    have hbw := hP.below.size
    clear hP
    by_cases hlt : k < len0 ∧ k < 40
    · obtain ⟨hlt, h40⟩ := hlt
      obtain ⟨bb, off, rfl, hb, hc⟩ := W0.out.at (by omega)
      have hc' := hc k hlt
      have Hc := Lib.hid hc'
      clear hc hc'
      generalize ith z0 k = x at *
      have c1 := Hc.out wr HP.out.below
      go_wp2_with fail
      refine (add_is HP.out.list x _ _ rfl rfl).mono ?_
      rintro e w4 ⟨rfl, h4, g4⟩
      have P4 := Lib.hid (Order.mk (a := p) h4 (HP.out.below.grown g4 hbw (by simp; omega)) (by rw [snc_stays (by rw [HP.out.first]; omega), HP.out.first]))
      clear h4 g4 c1
      go_wp2
      go_roundw
      case rel => exact ⟨k + 1, _, by omega, by go_num, P4.out⟩
      case measure => simp [intOf]; omega
    · have hguard : (k < len0 ∧ ¬ k < 40) ∨ ¬ k < len0 := by omega
      clear hlt
      have hadd := snc_added (l := l) hq0 (by omega : q ≤ 7)
      have hfst := snc_stays (l := l) (y := p) (by rw [HP.out.first]; omega) q
      rw [HP.out.first] at hfst
      generalize hl2 : addl l q = l2 at *
      have Hl2 := Lib.hid hl2
      have Hfst := Lib.hid hfst
      have Hadd := Lib.hid hadd
      clear hl2 hfst hadd
      rcases hguard with ⟨h1, h2⟩ | h1
      all_goals
        go_wp2_with fail
        refine (add_is HP.out.list q l2 _ Hl2.out rfl).mono ?_
        rintro e w4 ⟨rfl, h4, g4⟩
        have hs4 := g4.size
        have P4 := Lib.hid (Order.mk (a := p) h4 (HP.out.below.grown g4 hbw (by simp; omega)) Hfst.out)
        have hlen2 := h4.good.length
        clear h4 g4
        have hmk := Hmk.out
        go_wp2_with fail
        clear hmk
        have M4 := Lib.hid (Marks.made w4 l2)
        have P5 := Lib.hid (Order.mk (P4.out.list.alloc _) (P4.out.below.alloc P4.out.below.size (.cells #[.bool false, .bool false, .bool false, .bool false, .bool false, .bool false, .bool false, .bool false, .bool false] 4)) P4.out.first)
        have hlbs : lb < w4.heap.size := P4.out.list.lt
        have hws : w.heap.size ≤ w4.heap.size := P4.out.below.size
        generalize hsb : w4.heap.size = sb at *
        have Hsb := Lib.hid hsb
        clear hsb P4
        go_loopw [11] (fun i wr => ∃ j : Nat, j ≤ 8 ∧ i = .int .i64 j ∧ Order w lb p l2 wr ∧ Marks wr sb l2 j) (fun i _ => 8 - (intOf i).toNat)
        case atStart => exact ⟨0, by omega, rfl, P5.out, M4.out⟩
        case round =>
          obtain ⟨j, hj, rfl, hO, hM⟩ := hrel
          have HO := Lib.hid hO
          have HM := Lib.hid hM
          clear hO hM
          by_cases hj8 : j < 8
          · have hle := snc_le l2 j
            obtain ⟨s, hs⟩ : ∃ s : Nat, snc l2 j = s := ⟨_, rfl⟩
            have Hs := Lib.hid hs
            rw [hs] at hle
            clear hs
            have hfree := HM.out.free s
            rcases Nat.eq_zero_or_pos s with rfl | hpos
            · have hc0 := HM.out.cell 0 (by omega)
              go_wp2_with (first
                | (go_at_call 20; refine (since_eq HO.out.list j 0 (by rw [Hs.out]; rfl)).mono ?_; rintro e wx ⟨rfl, rfl⟩)
                | (go_at_call 18; refine (epoch_list HO.out.list).mono ?_; rintro e wx ⟨rfl, rfl⟩))
              go_roundw
              case rel =>
                have hM2 := HM.out.set (by rw [Hs.out]; omega)
                rw [Hs.out] at hM2
                exact ⟨j + 1, by omega, by go_num, ⟨HO.out.list.grown (grownBy_setCell _ _ _) (by simp; omega), HO.out.below.setCell (p := ⟨sb, 0, none⟩) hws _, HO.out.first⟩, hM2⟩
              case measure => simp [intOf]; omega
            · have hc0 := HM.out.cell s (by omega)
              have hh := hit_fresh (l := l2) (i := j) (by rw [Hs.out]; exact hpos)
              rw [Hs.out] at hh
              rw [hh] at hc0
              clear hh
              go_wp2_with (first
                | (go_at_call 20; refine (since_eq HO.out.list j s (by rw [Hs.out])).mono ?_; rintro e wx ⟨rfl, rfl⟩)
                | (go_at_call 18; refine (epoch_list HO.out.list).mono ?_; rintro e wx ⟨rfl, rfl⟩))
              go_roundw
              case rel =>
                have hM2 := HM.out.set (by rw [Hs.out]; omega)
                rw [Hs.out] at hM2
                exact ⟨j + 1, by omega, by go_num, ⟨HO.out.list.grown (grownBy_setCell _ _ _) (by simp; omega), HO.out.below.setCell (p := ⟨sb, s, none⟩) hws _, HO.out.first⟩, hM2⟩
              case measure => simp [intOf]; omega
          · have hM8 : Marks wr sb l2 8 := by have h8 : j = 8 := by omega
                                              subst h8
                                              exact HM.out
            have HM8 := Lib.hid hM8
            clear hM8
            have hgood := HO.out.list.good
            have Hgood := Lib.hid hgood
            clear hgood
            go_wp2_with fail
            go_loop [13] (fun i => Upto l2.length i) (fun i => l2.length + 1 - (intOf i).toNat)
            case atStart => exact ⟨1, by omega, by omega, rfl⟩
            case round =>
              obtain ⟨e, he1, he2, rfl⟩ := hrel
              by_cases hel : e ≤ l2.length
              · have hc0 := HM8.out.cell e (by omega)
                rw [hit_all Hgood.out he1 hel] at hc0
                go_wp2_with (go_at_call 18; refine (epoch_list HO.out.list).mono ?_; rintro e wx ⟨rfl, rfl⟩)
                go_round
                case rel => exact (⟨e + 1, by omega, by omega, by go_num⟩ : ∃ e : Nat, 1 ≤ e ∧ e ≤ l2.length + 1 ∧ _ = Value.int .i64 e)
                case measure => simp [intOf]; omega
              · have H1 : (snc l2 p : Int) = 1 := by rw [HO.out.first]; rfl
                have HH1 := Lib.hid H1
                clear H1
                by_cases hpq : p = q
                · have hpq' : (p == q) = true := by simpa using hpq
                  have Hpq := Lib.hid hpq
                  clear hpq
                  go_wp2_with (first
                    | (go_at_call 18; refine (epoch_list HO.out.list).mono ?_; rintro e wx ⟨rfl, rfl⟩)
                    | (go_at_call 20; refine (since_eq HO.out.list p 1 HH1.out).mono ?_; rintro e wx ⟨rfl, rfl⟩))
                  go_ret
                  exact ⟨rfl, HO.out.below⟩
                · have hpq' : (p == q) = false := by simpa using hpq
                  obtain ⟨sq, hsq, hsq1⟩ : ∃ sq : Int, (snc l2 q : Int) = sq ∧ 1 < sq := by
                    refine ⟨_, rfl, ?_⟩
                    have h1 := Hadd.out
                    have h2 : snc l2 q ≠ 1 := fun e => hpq (snc_inj (l := l2) (x := p) (y := q) (by rw [HO.out.first]; omega) (by rw [HO.out.first, e]))
                    omega
                  have Hsq := Lib.hid hsq
                  have Hpq := Lib.hid hpq
                  clear hpq hsq
                  go_wp2_with (first
                    | (go_at_call 18; refine (epoch_list HO.out.list).mono ?_; rintro e wx ⟨rfl, rfl⟩)
                    | (go_at_call_of 20 (Value.int IntKind.i64 p); refine (since_eq HO.out.list p 1 HH1.out).mono ?_; rintro e wx ⟨rfl, rfl⟩)
                    | (go_at_call_of 20 (Value.int IntKind.i64 q); refine (since_eq HO.out.list q sq Hsq.out).mono ?_; rintro e wx ⟨rfl, rfl⟩))
                  go_ret
                  exact ⟨rfl, HO.out.below⟩

end Go.Proofs.Ytakdmnamohdpaaa
