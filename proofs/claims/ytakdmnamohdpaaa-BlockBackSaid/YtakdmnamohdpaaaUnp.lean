/- block.Unpack, walked. -/
import Derived.Test.YtakdmnamohdpaaaArg
import Derived.Test.YtakdmnamohdpaaaOut
import Derived.Laws.CopyOwn
namespace Go.Proofs.Ytakdmnamohdpaaa
open Go.RowKit

theorem run_part8 (s0 s1 s2 s3 s4 s5 s6 s7 : Int) (w : World) :
    (part 5 #[.int .u8 s0, .int .u8 s1, .int .u8 s2, .int .u8 s3, .int .u8 s4, .int .u8 s5, .int .u8 s6, .int .u8 s7] 0).run Try.prog w = .ok (.int .u8 s0) w ∧
    (part 5 #[.int .u8 s0, .int .u8 s1, .int .u8 s2, .int .u8 s3, .int .u8 s4, .int .u8 s5, .int .u8 s6, .int .u8 s7] 1).run Try.prog w = .ok (.int .u8 s1) w ∧
    (part 5 #[.int .u8 s0, .int .u8 s1, .int .u8 s2, .int .u8 s3, .int .u8 s4, .int .u8 s5, .int .u8 s6, .int .u8 s7] 2).run Try.prog w = .ok (.int .u8 s2) w ∧
    (part 5 #[.int .u8 s0, .int .u8 s1, .int .u8 s2, .int .u8 s3, .int .u8 s4, .int .u8 s5, .int .u8 s6, .int .u8 s7] 3).run Try.prog w = .ok (.int .u8 s3) w ∧
    (part 5 #[.int .u8 s0, .int .u8 s1, .int .u8 s2, .int .u8 s3, .int .u8 s4, .int .u8 s5, .int .u8 s6, .int .u8 s7] 4).run Try.prog w = .ok (.int .u8 s4) w ∧
    (part 5 #[.int .u8 s0, .int .u8 s1, .int .u8 s2, .int .u8 s3, .int .u8 s4, .int .u8 s5, .int .u8 s6, .int .u8 s7] 5).run Try.prog w = .ok (.int .u8 s5) w ∧
    (part 5 #[.int .u8 s0, .int .u8 s1, .int .u8 s2, .int .u8 s3, .int .u8 s4, .int .u8 s5, .int .u8 s6, .int .u8 s7] 6).run Try.prog w = .ok (.int .u8 s6) w ∧
    (part 5 #[.int .u8 s0, .int .u8 s1, .int .u8 s2, .int .u8 s3, .int .u8 s4, .int .u8 s5, .int .u8 s6, .int .u8 s7] 7).run Try.prog w = .ok (.int .u8 s7) w :=
  ⟨by kernel_rfl, by kernel_rfl, by kernel_rfl, by kernel_rfl, by kernel_rfl, by kernel_rfl, by kernel_rfl, by kernel_rfl⟩

theorem run_eql8 (s0 s1 s2 s3 s4 s5 s6 s7 b0 b1 b2 b3 b4 b5 b6 b7 : Int) (w : World) : (Op.equalIn 10000 64 (.agg #[.int .u8 s0, .int .u8 s1, .int .u8 s2, .int .u8 s3, .int .u8 s4, .int .u8 s5, .int .u8 s6, .int .u8 s7]) (.agg #[.int .u8 b0, .int .u8 b1, .int .u8 b2, .int .u8 b3, .int .u8 b4, .int .u8 b5, .int .u8 b6, .int .u8 b7])).run Try.prog w =
    .ok ((s0 == b0) && ((s1 == b1) && ((s2 == b2) && ((s3 == b3) && ((s4 == b4) && ((s5 == b5) && ((s6 == b6) && (s7 == b7)))))))) w := by
  have hu : Try.prog.underlying 64 = some (.array 8 5) := by kernel_rfl
  have hsz : ∀ w, (sizeOf 5).run Try.prog w = .ok 1 w := fun w => by kernel_rfl
  have he : ∀ (a b : Int) (w : World), (Op.equalIn 9999 5 (.int .u8 a) (.int .u8 b)).run Try.prog w = .ok (a == b) w := fun a b w => run_equalIn_int w 9998 5 .u8 .u8 a b Try.underlying5
  obtain ⟨c, hc⟩ : ∃ c : Int → Int → Bool, ∀ a b, (a == b) = c a b := ⟨_, fun _ _ => rfl⟩
  simp only [hc] at he ⊢
  clear hc
  obtain ⟨p0, p1, p2, p3, p4, p5, p6, p7⟩ := run_part8 s0 s1 s2 s3 s4 s5 s6 s7 w
  obtain ⟨q0, q1, q2, q3, q4, q5, q6, q7⟩ := run_part8 b0 b1 b2 b3 b4 b5 b6 b7 w
  show (Op.equalIn (9999 + 1) 64 _ _).run Try.prog w = _
  unfold Op.equalIn
  simp only [Sem.run_bind, run_underlying hu, hsz, Result.andThen_ok, Std.Legacy.Range.forIn_eq_forIn_range', Std.Legacy.Range.size, Nat.sub_zero, Nat.add_sub_cancel, Nat.div_one]
  rw [show List.range' 0 8 = [0, 1, 2, 3, 4, 5, 6, 7] from rfl]
  simp only [Nat.mul_one, List.forIn_cons, List.forIn_nil, Sem.run_bind, p0, q0, Result.andThen_ok, he]
  cases c s0 b0 <;> simp [Sem.run_pure, p1, q1, he]
  cases c s1 b1 <;> simp [Sem.run_pure, p2, q2, he]
  cases c s2 b2 <;> simp [Sem.run_pure, p3, q3, he]
  cases c s3 b3 <;> simp [Sem.run_pure, p4, q4, he]
  cases c s4 b4 <;> simp [Sem.run_pure, p5, q5, he]
  cases c s5 b5 <;> simp [Sem.run_pure, p6, q6, he]
  cases c s6 b6 <;> simp [Sem.run_pure, p7, q7, he]
  cases c s7 b7 <;> rfl

theorem run_neq8 (s0 s1 s2 s3 s4 s5 s6 s7 b0 b1 b2 b3 b4 b5 b6 b7 : Int) (w : World) : (binOp .neq 64 (.agg #[.int .u8 s0, .int .u8 s1, .int .u8 s2, .int .u8 s3, .int .u8 s4, .int .u8 s5, .int .u8 s6, .int .u8 s7]) (.agg #[.int .u8 b0, .int .u8 b1, .int .u8 b2, .int .u8 b3, .int .u8 b4, .int .u8 b5, .int .u8 b6, .int .u8 b7])).run Try.prog w =
    .ok (.bool (!((s0 == b0) && ((s1 == b1) && ((s2 == b2) && ((s3 == b3) && ((s4 == b4) && ((s5 == b5) && ((s6 == b6) && (s7 == b7)))))))))) w := by
  rw [run_neq_struct, run_eql8]
  rfl


theorem run_index8 (bs : List Int) (k : Nat) (hk : k < 8) (w : World) : (Instr.index 64 (.agg #[.int .u8 (ith bs 0), .int .u8 (ith bs 1), .int .u8 (ith bs 2), .int .u8 (ith bs 3), .int .u8 (ith bs 4), .int .u8 (ith bs 5), .int .u8 (ith bs 6), .int .u8 (ith bs 7)]) (.int .i64 k)).run Try.prog w =
    .ok (.int .u8 (ith bs k)) w := by
  obtain rfl | rfl | rfl | rfl | rfl | rfl | rfl | rfl : k = 0 ∨ k = 1 ∨ k = 2 ∨ k = 3 ∨ k = 4 ∨ k = 5 ∨ k = 6 ∨ k = 7 := by omega
  all_goals kernel_rfl

/-- The eight cells of the wanted array. -/
def wnt (bs : List Int) : List Value := [.int .u8 (ith bs 0), .int .u8 (ith bs 1), .int .u8 (ith bs 2), .int .u8 (ith bs 3), .int .u8 (ith bs 4), .int .u8 (ith bs 5), .int .u8 (ith bs 6), .int .u8 (ith bs 7)]

/-- Eight bytes lie there. -/
structure Src (w : World) (b off : Nat) (bs : List Int) : Prop where
  cell : ∀ j, j < 8 → w.cell? ⟨b, off + j, none⟩ = some (.int .u8 (ith bs j))
  range : ∀ j, j < 8 → 0 ≤ ith bs j ∧ ith bs j ≤ 255

/-- Too few, or too many. -/
theorem unpack_bad (a : Option Addr) (len cap : Nat) (w : World) (h : len ≠ 8) : Calls Try.prog 23 #[.slice a len cap] w fun e w' => e = .returned (.tuple #[.pointer none, .bool false]) ∧ w = w' := by
  have h8 : ((len : Int) == 8) = false := by simp; omega
  go_enter Try.func23, Try.ntmps23
  go_wp2_with fail
  go_ret2
  exact ⟨rfl, rfl⟩

theorem wnt_get (bs : List Int) (j : Nat) (v : Value) (h : (wnt bs)[j]? = some v) : j < 8 ∧ v = .int .u8 (ith bs j) := by
  unfold wnt at h
  match j, h with
  | 0, h | 1, h | 2, h | 3, h | 4, h | 5, h | 6, h | 7, h => exact ⟨by omega, by simpa using h.symm⟩
  | j + 8, h => simp at h

/-- What the rounds of Unpack rest on. -/
structure Unp (w : World) (wb lb : Nat) (bs l : List Int) (wr : World) : Prop where
  want : wr.heap[wb]? = some (.cells (wnt bs).toArray 64 (0, 0))
  list : IsList wr lb l
  below : Below w.heap.size w wr

theorem Unp.cell {w : World} {wb lb : Nat} {bs l : List Int} {wr : World} (h : Unp w wb lb bs l wr) (j : Nat) (hj : j < 8) : wr.cell? ⟨wb, j, none⟩ = some (.int .u8 (ith bs j)) := by
  rw [cell_of_row _ _ _ _ _ _ h.want]
  obtain rfl | rfl | rfl | rfl | rfl | rfl | rfl | rfl : j = 0 ∨ j = 1 ∨ j = 2 ∨ j = 3 ∨ j = 4 ∨ j = 5 ∨ j = 6 ∨ j = 7 := by omega
  all_goals rfl
theorem Unp.drew {w : World} {wb lb : Nat} {bs l : List Int} {wr : World} (h : Unp w wb lb bs l wr) : Unp w wb lb bs l wr.drew := ⟨h.want, h.list.drew, h.below.drew⟩

theorem grown_of_below {w w' : World} (h : Below w.heap.size w w') : w.grownBy w' none := ⟨h.os, h.tape, h.output, h.size, fun k hk _ => h.block k hk⟩

theorem inn_step {bs : List Int} {e k : Nat} (h : ith bs k = ((e + 1 : Nat) : Int)) : inn bs (e + 1) (outl bs e) (k + 1) = inn bs (e + 1) (outl bs e) k ++ [(k : Int)] := by
  rw [inn, if_pos h]
theorem inn_pass {bs : List Int} {e k : Nat} (h : ¬ ith bs k = ((e + 1 : Nat) : Int)) : inn bs (e + 1) (outl bs e) (k + 1) = inn bs (e + 1) (outl bs e) k := by
  rw [inn, if_neg h]

/-- The list, or none. -/
def listOr (m : Bool) (lb : Nat) : Value := if m then .pointer (some ⟨lb, 0, none⟩) else .pointer none

theorem eql_same {l bs : List Int} {m : Bool} {w : World} (h : same8 l bs = m) : (Op.equalIn 10000 64 (.agg #[.int .u8 (snc l 0), .int .u8 (snc l 1), .int .u8 (snc l 2), .int .u8 (snc l 3), .int .u8 (snc l 4), .int .u8 (snc l 5), .int .u8 (snc l 6), .int .u8 (snc l 7)])
    (.agg #[.int .u8 (ith bs 0), .int .u8 (ith bs 1), .int .u8 (ith bs 2), .int .u8 (ith bs 3), .int .u8 (ith bs 4), .int .u8 (ith bs 5), .int .u8 (ith bs 6), .int .u8 (ith bs 7)])).run Try.prog w = .ok m w := by
  rw [run_eql8, ← h]
  rfl

set_option maxHeartbeats 1000000 in
theorem unpack_good {w : World} {b off cap : Nat} {bs : List Int} (h : Src w b off bs) : Calls Try.prog 23 #[.slice (some ⟨b, off, none⟩) 8 cap] w fun e w' =>
    ∃ lb, e = .returned (.tuple #[listOr (same8 (outl bs 8) bs) lb, .bool (same8 (outl bs 8) bs)]) ∧ IsList w' lb (outl bs 8) ∧ w.heap.size ≤ lb ∧ w.grownBy w' none := by
  have hszE : (Try.prog.info? 5).map (·.size) = some 1 := by kernel_rfl
  have H := Lib.hid h
  have hb : b < w.heap.size := World.block_lt_of_cell? _ _ (h.cell 0 (by omega))
  clear h
  go_enter Try.func23, Try.ntmps23
  go_wp2_with (first
    | (with_reducible refine wpList_copy_splice rfl (.tmp 12) (.tmp 13) 31 31 rfl 5 Try.underlying31 hszE _ _ _ _ _ _ rfl rfl w.heap.size 0 [.int .u8 0, .int .u8 0, .int .u8 0, .int .u8 0, .int .u8 0, .int .u8 0, .int .u8 0, .int .u8 0] 64 ?c1 (wnt bs) ?c2 ?c3 ?c4 ?c5 w.heap.size w ?c6 ?c7 ?_))
  case c1 => exact Go.heap_alloc_new w _
  case c2 => rfl
  case c3 =>
    intro _ j v hv
    obtain ⟨hj, rfl⟩ := wnt_get bs j v hv
    exact H.out.cell j hj
  case c4 => exact Nat.le_refl _
  case c5 => intro v hv; simp [wnt] at hv; rcases hv with rfl | rfl | rfl | rfl | rfl | rfl | rfl | rfl <;> rfl
  case c6 => exact (Below.refl _ _).alloc (Nat.le_refl _) _
  case c7 => exact Nat.le_refl _
  intro w1 hw1 hb1
  have hw1' : w1.heap[w.heap.size]? = some (.cells (wnt bs).toArray 64 (0, 0)) := hw1.out
  have hs1 : w.heap.size < w1.heap.size := (Array.getElem?_eq_some_iff.1 hw1').1
  have HW1 := Lib.hid hw1'
  have B1 := Lib.hid hb1
  have HR := Lib.hid H.out.range
  clear hw1 hw1' hb1 H
  generalize hwb : w.heap.size = wb at *
  have Hwb := Lib.hid hwb
  clear hwb
  go_wp2_with fail
  refine (new_isList w1).mono ?_
  rintro e w2 ⟨rfl, h2, g2⟩
  have hP : Unp w wb w1.heap.size bs (outl bs 0) w2 := ⟨(g2.block wb hs1 (by simp)).trans HW1.out, h2, Hwb.out.symm ▸ B1.out.grown g2 (by omega) (by simp)⟩
  have P2 := Lib.hid hP
  clear h2 g2 hP HW1 B1
  generalize hlb : w1.heap.size = lb at *
  have Hlb := Lib.hid hlb
  clear hlb
  go_wp2_with fail
  go_loopw [6] (fun e wr => ∃ k : Nat, k ≤ 8 ∧ e = .int .i64 (k + 1) ∧ Unp w wb lb bs (outl bs k) wr) (fun e _ => 9 - (intOf e).toNat)
  case atStart => exact ⟨0, by omega, rfl, P2.out⟩
  case round =>
    obtain ⟨k, hk, rfl, hU⟩ := hrel
    have HU := Lib.hid hU
    clear hU
    have c0 := HU.out.cell 0 (by omega)
    have c1 := HU.out.cell 1 (by omega)
    have c2 := HU.out.cell 2 (by omega)
    have c3 := HU.out.cell 3 (by omega)
    have c4 := HU.out.cell 4 (by omega)
    have c5 := HU.out.cell 5 (by omega)
    have c6 := HU.out.cell 6 (by omega)
    have c7 := HU.out.cell 7 (by omega)
    by_cases hk8 : k < 8
    · have hd17 : decide ((k : Int) + 1 ≤ 8) = true := by simp; omega
      go_wp2_with fail
      clear c0 c1 c2 c3 c4 c5 c6 c7
      obtain ⟨wo, rfl⟩ : ∃ wo : World, wo = wr := ⟨_, rfl⟩
      go_loopw [21] (fun i wi => ∃ j : Nat, j ≤ 8 ∧ i = .int .i64 j ∧ Unp w wb lb bs (inn bs (k + 1) (outl bs k) j) wi) (fun i _ => 8 - (intOf i).toNat)
      case atStart => exact ⟨0, by omega, rfl, HU.out⟩
      case round =>
        obtain ⟨j, hj, rfl, hV⟩ := hrel
        have HV := Lib.hid hV
        have hbw := hV.below.size
        clear hV
        by_cases hj8 : j < 8
        · have hix := run_index8 bs j hj8 wr
          have hr := HR.out j hj8
          obtain ⟨hr0, hr1⟩ := hr
          by_cases he : ith bs j = ((k + 1 : Nat) : Int)
          · have he' : (ith bs j == (k : Int) + 1) = true := by simp; omega
            have hstep := inn_step he
            have hadd : addl (inn bs (k + 1) (outl bs k) j) j = inn bs (k + 1) (outl bs k) (j + 1) := by rw [hstep]; exact addl_new (by omega) (by omega) (inn_fresh he)
            have Hadd := Lib.hid hadd
            have He := Lib.hid he
            clear hstep hadd he
            go_wp2_with fail
            refine (add_is HV.out.list j _ _ Hadd.out rfl).mono ?_
            rintro e w3 ⟨rfl, h3, g3⟩
            have hwbs : wb < wr.heap.size := (Array.getElem?_eq_some_iff.1 HV.out.want).1
            have P3 := Lib.hid (Unp.mk ((g3.block wb hwbs (by simp; omega)).trans HV.out.want) h3 (HV.out.below.grown g3 (by omega) (by have := Hwb.out; simp; omega)))
            clear h3 g3
            go_wp2
            go_roundw
            case rel => exact ⟨j + 1, by omega, by go_num, P3.out⟩
            case measure => simp [intOf]; omega
          · have he' : (ith bs j == (k : Int) + 1) = false := by simp; omega
            have hpass := inn_pass he
            have Hpass := Lib.hid hpass
            have He := Lib.hid he
            clear hpass he
            go_wp2
            go_roundw
            case rel => exact ⟨j + 1, by omega, by go_num, Hpass.out.symm ▸ HV.out⟩
            case measure => simp [intOf]; omega
        · have hV8 : Unp w wb lb bs (outl bs (k + 1)) wr := by
            have h8 : j = 8 := by omega
            subst h8
            exact HV.out
          have HV8 := Lib.hid hV8
          clear hV8
          go_wp2
          go_roundw
          case rel => exact ⟨k + 1, by omega, by go_num, HV8.out⟩
          case measure => simp [intOf]; omega
    · have hU8 : Unp w wb lb bs (outl bs 8) wr := by
        have h8 : k = 8 := by omega
        subst h8
        exact HU.out
      have HU8 := Lib.hid hU8
      clear c0 c1 c2 c3 c4 c5 c6 c7 hU8
      obtain ⟨m, hm⟩ : ∃ m, same8 (outl bs 8) bs = m := ⟨_, rfl⟩
      have Hm := Lib.hid hm
      have Hneq := Lib.hid (fun ww : World => eql_same (w := ww) hm)
      clear hm
      go_wp2_with fail
      refine held_begin (fun w' => Unp w wb lb bs (outl bs 8) w') (by kernel_rfl) HU8.out.drew ?_
      have hS0 : (fun w' => Unp w wb lb bs (outl bs 8) w') wr.drew := HU8.out.drew
      refine held_take 0 ?_ rfl (by kernel_rfl) (by kernel_rfl) (by kernel_rfl) (fun _ _ _ h => h) (by rfl) ?_ hS0 ?_
      rotate_left
      · intro wS hSw; go_simp <;> with_reducible rfl
      simp only [Act.put, List.setIfInBounds_toArray, List.set_cons_zero, List.set_cons_succ]
      refine held_take 1 ?_ rfl (by kernel_rfl) (by kernel_rfl) (by kernel_rfl) (fun _ _ _ h => h) (by rfl) ?_ hS0 ?_
      rotate_left
      · intro wS hSw; go_simp <;> with_reducible rfl
      simp only [Act.put, List.setIfInBounds_toArray, List.set_cons_zero, List.set_cons_succ]
      refine held_take 2 ?_ rfl (by kernel_rfl) (by kernel_rfl) (by kernel_rfl) (fun _ _ _ h => h) (by rfl) ?_ hS0 ?_
      rotate_left
      · intro wS hSw; go_simp <;> with_reducible rfl
      simp only [Act.put, List.setIfInBounds_toArray, List.set_cons_zero, List.set_cons_succ]
      refine held_take 3 ?_ rfl (by kernel_rfl) (by kernel_rfl) (by kernel_rfl) (fun _ _ _ h => h) (by rfl) ?_ hS0 ?_
      rotate_left
      · intro wS hSw; (have d0 : wS.cell? ⟨lb, 0, none⟩ = some (.int .u8 (snc (outl bs 8) 0)) := hSw.list.cell 0 (by omega); have d1 : wS.cell? ⟨lb, 1, none⟩ = some (.int .u8 (snc (outl bs 8) 1)) := hSw.list.cell 1 (by omega); have d2 : wS.cell? ⟨lb, 2, none⟩ = some (.int .u8 (snc (outl bs 8) 2)) := hSw.list.cell 2 (by omega); have d3 : wS.cell? ⟨lb, 3, none⟩ = some (.int .u8 (snc (outl bs 8) 3)) := hSw.list.cell 3 (by omega); have d4 : wS.cell? ⟨lb, 4, none⟩ = some (.int .u8 (snc (outl bs 8) 4)) := hSw.list.cell 4 (by omega); have d5 : wS.cell? ⟨lb, 5, none⟩ = some (.int .u8 (snc (outl bs 8) 5)) := hSw.list.cell 5 (by omega); have d6 : wS.cell? ⟨lb, 6, none⟩ = some (.int .u8 (snc (outl bs 8) 6)) := hSw.list.cell 6 (by omega); have d7 : wS.cell? ⟨lb, 7, none⟩ = some (.int .u8 (snc (outl bs 8) 7)) := hSw.list.cell 7 (by omega); go_simp) <;> with_reducible rfl
      simp only [Act.put, List.setIfInBounds_toArray, List.set_cons_zero, List.set_cons_succ]
      refine held_take 4 ?_ rfl (by kernel_rfl) (by kernel_rfl) (by kernel_rfl) (fun _ _ _ h => h) (by rfl) ?_ hS0 ?_
      rotate_left
      · intro wS hSw; (have d0 : wS.cell? ⟨wb, 0, none⟩ = some (.int .u8 (ith bs 0)) := hSw.cell 0 (by omega); have d1 : wS.cell? ⟨wb, 1, none⟩ = some (.int .u8 (ith bs 1)) := hSw.cell 1 (by omega); have d2 : wS.cell? ⟨wb, 2, none⟩ = some (.int .u8 (ith bs 2)) := hSw.cell 2 (by omega); have d3 : wS.cell? ⟨wb, 3, none⟩ = some (.int .u8 (ith bs 3)) := hSw.cell 3 (by omega); have d4 : wS.cell? ⟨wb, 4, none⟩ = some (.int .u8 (ith bs 4)) := hSw.cell 4 (by omega); have d5 : wS.cell? ⟨wb, 5, none⟩ = some (.int .u8 (ith bs 5)) := hSw.cell 5 (by omega); have d6 : wS.cell? ⟨wb, 6, none⟩ = some (.int .u8 (ith bs 6)) := hSw.cell 6 (by omega); have d7 : wS.cell? ⟨wb, 7, none⟩ = some (.int .u8 (ith bs 7)) := hSw.cell 7 (by omega); go_simp) <;> with_reducible rfl
      simp only [Act.put, List.setIfInBounds_toArray, List.set_cons_zero, List.set_cons_succ]
      refine held_take 5 ?_ rfl (by kernel_rfl) (by kernel_rfl) (by kernel_rfl) (fun _ _ _ h => h) (by rfl) ?_ hS0 ?_
      rotate_left
      · intro wS hSw; (have hn := Hneq.out wS; go_simp) <;> with_reducible rfl
      simp only [Act.put, List.setIfInBounds_toArray, List.set_cons_zero, List.set_cons_succ]
      refine wpAnyH_done (by kernel_rfl) ?_ _
      refine NoPanic.normal ?_
      have HS := Lib.hid hS0
      clear hS0
      cases m
      · go_wp2
        go_ret2
        refine ⟨lb, ?_, HS.out.list, by have := Hwb.out; omega, grown_of_below HS.out.below⟩
        rw [Hm.out]
        rfl
      · go_wp2
        go_ret2
        refine ⟨lb, ?_, HS.out.list, by have := Hwb.out; omega, grown_of_below HS.out.below⟩
        rw [Hm.out]
        rfl

end Go.Proofs.Ytakdmnamohdpaaa
