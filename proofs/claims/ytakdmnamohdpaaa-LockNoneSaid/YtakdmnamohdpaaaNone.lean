/- LockNone, walked: it returns true, and writes nothing that was there. -/
import Derived.Test.YtakdmnamohdpaaaOf
namespace Go.Proofs.Ytakdmnamohdpaaa
open Go.RowKit Go.Maps

theorem holdsB_none (i c : Int) : holdsB noneT i c = false := by unfold holdsB; rw [hold_none]; rfl
theorem ofL_none (c : Int) (k : Nat) : ofL noneT c k = [] := by
  unfold ofL
  simp [holdsB_none]

theorem none_bad {i c : Int} (h : okB i c = false) : unlockE noneT i c = 1 ∧ unlockT noneT i c = noneT ∧ lockE noneT i c = 1 ∧ lockT noneT i c = noneT := by
  unfold unlockE unlockT lockE lockT
  simp [h]
theorem none_ok {i c : Int} (h : okB i c = true) : unlockE noneT i c = 131 ∧ unlockT noneT i c = noneT ∧ lockE noneT i c = 0 ∧ lockT noneT i c = setT noneT i c := by
  unfold unlockE unlockT lockE lockT holderE busyE
  simp [h, hold_none]
theorem holdsB_set {t : List Int} (g : GoodT t) {i c : Int} (h : okB i c = true) : holdsB (setT t i c) i c = true := by
  have hr := okB_iff.1 h
  have hs := hold_set g ⟨hr.1, hr.2.1⟩ c i
  rw [if_pos rfl] at hs
  unfold holdsB heldBy
  rw [hs, if_pos (by omega)]
  simp; omega

set_option maxHeartbeats 400000 in
theorem none_b0 (i c : Int) (w : World) (hi : (Lit.int .i64 i).wf = true) (h0 : ¬ 0 ≤ i) :
    Calls Try.prog 11 #[.int .i64 i, .int .i64 c] w fun e w' => e = .returned (.bool true) ∧ Below w.heap.size w w' := by
  have HI := Lib.hid hi
  have F := Lib.hid (none_bad (i := i) (c := c) (by simp [okB, h0]))
  clear hi
  go_enter Try.func11, Try.ntmps11
  go_wp2_with fail
  refine (awake13 w).mono ?_
  rintro e w1 ⟨rfl, b1⟩
  have B1 := Lib.hid b1
  clear b1
  go_wp2_with fail
  refine (owner_nil i _).mono ?_
  rintro e w1' ⟨rfl, rfl⟩
  go_wp2_with fail
  refine (lock_nil i c _).mono ?_
  rintro e w2 ⟨rfl, b2⟩
  have B2 := Lib.hid (B1.out.trans (b2.mono B1.out.size))
  clear b2
  go_wp2_with fail
  refine (unlock_nil i c _).mono ?_
  rintro e w3 ⟨rfl, b3⟩
  have B3 := Lib.hid (B2.out.trans (b3.mono B2.out.size))
  clear b3
  go_wp2_with fail
  refine (break_nil i c _).mono ?_
  rintro e w4 ⟨rfl, b4⟩
  have B4 := Lib.hid (B3.out.trans (b4.mono B3.out.size))
  clear b4
  go_wp2_with fail
  refine (holds_nil i c _).mono ?_
  rintro e w4' ⟨rfl, rfl⟩
  go_wp2_with fail
  refine (of_nil c _).mono ?_
  rintro e w4'' ⟨rfl, rfl⟩
  go_wp2_with fail
  refine (new_tab w4).mono ?_
  rintro e w5 ⟨rfl, h5, g5⟩
  have P5 := Lib.hid (And.intro h5 (B4.out.grown g5 B4.out.size (by simp)))
  have hs5 := g5.size
  have hs4 := B4.out.size
  have hmb := h5.ltm
  clear h5 g5
  generalize htb : w4.heap.size + 1 = tb at *
  have Htb := Lib.hid htb
  clear htb
  go_wp2_with fail
  refine (unlock_is P5.out.1 (by omega) i c noneT _ F.out.2.1 F.out.1).mono ?_
  rintro e w6 ⟨rfl, h6, g6⟩
  have P6 := Lib.hid (And.intro h6 (P5.out.2.grown g6 (by omega) (by simp; omega)))
  have hs6 := g6.size
  clear h6 g6
  go_wp2_with fail
  refine (break_is P6.out.1 (by omega) i c noneT _ F.out.2.1 F.out.1).mono ?_
  rintro e w7 ⟨rfl, h7, g7⟩
  have P7 := Lib.hid (And.intro h7 (P6.out.2.grown g7 (by omega) (by simp; omega)))
  have hs7 := g7.size
  clear h7 g7
  go_wp2_with fail
  refine (lock_is P7.out.1 (by omega) i c _ _ F.out.2.2.2 F.out.2.2.1).mono ?_
  rintro e w8 ⟨rfl, h8, g8⟩
  have P8 := Lib.hid (And.intro h8 (P7.out.2.grown g8 (by omega) (by simp; omega)))
  have hs8 := g8.size
  clear h8 g8
  go_wp2_with fail
  refine (holds_is P8.out.1 HI.out c false (holdsB_none i c)).mono ?_
  rintro e w8' ⟨rfl, rfl⟩
  go_wp2_with fail
  refine (of_tab P8.out.1 c).mono ?_
  rintro e w9 ⟨v, rfl, h9, g9⟩
  rw [ofL_none] at h9
  obtain ⟨a9, c9, rfl⟩ := h9.slice
  have P9 := Lib.hid (P8.out.2.grown g9 (by omega) (by simp))
  clear h9 g9
  go_wp2_with fail
  go_ret
  exact ⟨rfl, P9.out⟩

set_option maxHeartbeats 400000 in
theorem none_b1 (i c : Int) (w : World) (hi : (Lit.int .i64 i).wf = true) (h0 : 0 ≤ i) (h1 : ¬ i < 4) :
    Calls Try.prog 11 #[.int .i64 i, .int .i64 c] w fun e w' => e = .returned (.bool true) ∧ Below w.heap.size w w' := by
  have HI := Lib.hid hi
  have F := Lib.hid (none_bad (i := i) (c := c) (by simp [okB, h1]))
  clear hi
  go_enter Try.func11, Try.ntmps11
  go_wp2_with fail
  refine (awake13 w).mono ?_
  rintro e w1 ⟨rfl, b1⟩
  have B1 := Lib.hid b1
  clear b1
  go_wp2_with fail
  refine (owner_nil i _).mono ?_
  rintro e w1' ⟨rfl, rfl⟩
  go_wp2_with fail
  refine (lock_nil i c _).mono ?_
  rintro e w2 ⟨rfl, b2⟩
  have B2 := Lib.hid (B1.out.trans (b2.mono B1.out.size))
  clear b2
  go_wp2_with fail
  refine (unlock_nil i c _).mono ?_
  rintro e w3 ⟨rfl, b3⟩
  have B3 := Lib.hid (B2.out.trans (b3.mono B2.out.size))
  clear b3
  go_wp2_with fail
  refine (break_nil i c _).mono ?_
  rintro e w4 ⟨rfl, b4⟩
  have B4 := Lib.hid (B3.out.trans (b4.mono B3.out.size))
  clear b4
  go_wp2_with fail
  refine (holds_nil i c _).mono ?_
  rintro e w4' ⟨rfl, rfl⟩
  go_wp2_with fail
  refine (of_nil c _).mono ?_
  rintro e w4'' ⟨rfl, rfl⟩
  go_wp2_with fail
  refine (new_tab w4).mono ?_
  rintro e w5 ⟨rfl, h5, g5⟩
  have P5 := Lib.hid (And.intro h5 (B4.out.grown g5 B4.out.size (by simp)))
  have hs5 := g5.size
  have hs4 := B4.out.size
  have hmb := h5.ltm
  clear h5 g5
  generalize htb : w4.heap.size + 1 = tb at *
  have Htb := Lib.hid htb
  clear htb
  go_wp2_with fail
  refine (unlock_is P5.out.1 (by omega) i c noneT _ F.out.2.1 F.out.1).mono ?_
  rintro e w6 ⟨rfl, h6, g6⟩
  have P6 := Lib.hid (And.intro h6 (P5.out.2.grown g6 (by omega) (by simp; omega)))
  have hs6 := g6.size
  clear h6 g6
  go_wp2_with fail
  refine (break_is P6.out.1 (by omega) i c noneT _ F.out.2.1 F.out.1).mono ?_
  rintro e w7 ⟨rfl, h7, g7⟩
  have P7 := Lib.hid (And.intro h7 (P6.out.2.grown g7 (by omega) (by simp; omega)))
  have hs7 := g7.size
  clear h7 g7
  go_wp2_with fail
  refine (lock_is P7.out.1 (by omega) i c _ _ F.out.2.2.2 F.out.2.2.1).mono ?_
  rintro e w8 ⟨rfl, h8, g8⟩
  have P8 := Lib.hid (And.intro h8 (P7.out.2.grown g8 (by omega) (by simp; omega)))
  have hs8 := g8.size
  clear h8 g8
  go_wp2_with fail
  refine (holds_is P8.out.1 HI.out c false (holdsB_none i c)).mono ?_
  rintro e w8' ⟨rfl, rfl⟩
  go_wp2_with fail
  refine (of_tab P8.out.1 c).mono ?_
  rintro e w9 ⟨v, rfl, h9, g9⟩
  rw [ofL_none] at h9
  obtain ⟨a9, c9, rfl⟩ := h9.slice
  have P9 := Lib.hid (P8.out.2.grown g9 (by omega) (by simp))
  clear h9 g9
  go_wp2_with fail
  go_ret
  exact ⟨rfl, P9.out⟩

set_option maxHeartbeats 400000 in
theorem none_b2 (i c : Int) (w : World) (hi : (Lit.int .i64 i).wf = true) (h0 : 0 ≤ i) (h1 : i < 4) (h2 : ¬ 0 ≤ c) :
    Calls Try.prog 11 #[.int .i64 i, .int .i64 c] w fun e w' => e = .returned (.bool true) ∧ Below w.heap.size w w' := by
  have HI := Lib.hid hi
  have F := Lib.hid (none_bad (i := i) (c := c) (by simp [okB, h2]))
  clear hi
  go_enter Try.func11, Try.ntmps11
  go_wp2_with fail
  refine (awake13 w).mono ?_
  rintro e w1 ⟨rfl, b1⟩
  have B1 := Lib.hid b1
  clear b1
  go_wp2_with fail
  refine (owner_nil i _).mono ?_
  rintro e w1' ⟨rfl, rfl⟩
  go_wp2_with fail
  refine (lock_nil i c _).mono ?_
  rintro e w2 ⟨rfl, b2⟩
  have B2 := Lib.hid (B1.out.trans (b2.mono B1.out.size))
  clear b2
  go_wp2_with fail
  refine (unlock_nil i c _).mono ?_
  rintro e w3 ⟨rfl, b3⟩
  have B3 := Lib.hid (B2.out.trans (b3.mono B2.out.size))
  clear b3
  go_wp2_with fail
  refine (break_nil i c _).mono ?_
  rintro e w4 ⟨rfl, b4⟩
  have B4 := Lib.hid (B3.out.trans (b4.mono B3.out.size))
  clear b4
  go_wp2_with fail
  refine (holds_nil i c _).mono ?_
  rintro e w4' ⟨rfl, rfl⟩
  go_wp2_with fail
  refine (of_nil c _).mono ?_
  rintro e w4'' ⟨rfl, rfl⟩
  go_wp2_with fail
  refine (new_tab w4).mono ?_
  rintro e w5 ⟨rfl, h5, g5⟩
  have P5 := Lib.hid (And.intro h5 (B4.out.grown g5 B4.out.size (by simp)))
  have hs5 := g5.size
  have hs4 := B4.out.size
  have hmb := h5.ltm
  clear h5 g5
  generalize htb : w4.heap.size + 1 = tb at *
  have Htb := Lib.hid htb
  clear htb
  go_wp2_with fail
  refine (unlock_is P5.out.1 (by omega) i c noneT _ F.out.2.1 F.out.1).mono ?_
  rintro e w6 ⟨rfl, h6, g6⟩
  have P6 := Lib.hid (And.intro h6 (P5.out.2.grown g6 (by omega) (by simp; omega)))
  have hs6 := g6.size
  clear h6 g6
  go_wp2_with fail
  refine (break_is P6.out.1 (by omega) i c noneT _ F.out.2.1 F.out.1).mono ?_
  rintro e w7 ⟨rfl, h7, g7⟩
  have P7 := Lib.hid (And.intro h7 (P6.out.2.grown g7 (by omega) (by simp; omega)))
  have hs7 := g7.size
  clear h7 g7
  go_wp2_with fail
  refine (lock_is P7.out.1 (by omega) i c _ _ F.out.2.2.2 F.out.2.2.1).mono ?_
  rintro e w8 ⟨rfl, h8, g8⟩
  have P8 := Lib.hid (And.intro h8 (P7.out.2.grown g8 (by omega) (by simp; omega)))
  have hs8 := g8.size
  clear h8 g8
  go_wp2_with fail
  refine (holds_is P8.out.1 HI.out c false (holdsB_none i c)).mono ?_
  rintro e w8' ⟨rfl, rfl⟩
  go_wp2_with fail
  refine (of_tab P8.out.1 c).mono ?_
  rintro e w9 ⟨v, rfl, h9, g9⟩
  rw [ofL_none] at h9
  obtain ⟨a9, c9, rfl⟩ := h9.slice
  have P9 := Lib.hid (P8.out.2.grown g9 (by omega) (by simp))
  clear h9 g9
  go_wp2_with fail
  go_ret
  exact ⟨rfl, P9.out⟩

set_option maxHeartbeats 400000 in
theorem none_b3 (i c : Int) (w : World) (hi : (Lit.int .i64 i).wf = true) (h0 : 0 ≤ i) (h1 : i < 4) (h2 : 0 ≤ c) (h3 : ¬ c < 8) :
    Calls Try.prog 11 #[.int .i64 i, .int .i64 c] w fun e w' => e = .returned (.bool true) ∧ Below w.heap.size w w' := by
  have HI := Lib.hid hi
  have hd3 : decide (c < 8) = false := by simp; omega
  have F := Lib.hid (none_bad (i := i) (c := c) (by simp [okB, h3]))
  clear hi
  go_enter Try.func11, Try.ntmps11
  go_wp2_with fail
  refine (awake13 w).mono ?_
  rintro e w1 ⟨rfl, b1⟩
  have B1 := Lib.hid b1
  clear b1
  go_wp2_with fail
  refine (owner_nil i _).mono ?_
  rintro e w1' ⟨rfl, rfl⟩
  go_wp2_with fail
  refine (lock_nil i c _).mono ?_
  rintro e w2 ⟨rfl, b2⟩
  have B2 := Lib.hid (B1.out.trans (b2.mono B1.out.size))
  clear b2
  go_wp2_with fail
  refine (unlock_nil i c _).mono ?_
  rintro e w3 ⟨rfl, b3⟩
  have B3 := Lib.hid (B2.out.trans (b3.mono B2.out.size))
  clear b3
  go_wp2_with fail
  refine (break_nil i c _).mono ?_
  rintro e w4 ⟨rfl, b4⟩
  have B4 := Lib.hid (B3.out.trans (b4.mono B3.out.size))
  clear b4
  go_wp2_with fail
  refine (holds_nil i c _).mono ?_
  rintro e w4' ⟨rfl, rfl⟩
  go_wp2_with fail
  refine (of_nil c _).mono ?_
  rintro e w4'' ⟨rfl, rfl⟩
  go_wp2_with fail
  refine (new_tab w4).mono ?_
  rintro e w5 ⟨rfl, h5, g5⟩
  have P5 := Lib.hid (And.intro h5 (B4.out.grown g5 B4.out.size (by simp)))
  have hs5 := g5.size
  have hs4 := B4.out.size
  have hmb := h5.ltm
  clear h5 g5
  generalize htb : w4.heap.size + 1 = tb at *
  have Htb := Lib.hid htb
  clear htb
  go_wp2_with fail
  refine (unlock_is P5.out.1 (by omega) i c noneT _ F.out.2.1 F.out.1).mono ?_
  rintro e w6 ⟨rfl, h6, g6⟩
  have P6 := Lib.hid (And.intro h6 (P5.out.2.grown g6 (by omega) (by simp; omega)))
  have hs6 := g6.size
  clear h6 g6
  go_wp2_with fail
  refine (break_is P6.out.1 (by omega) i c noneT _ F.out.2.1 F.out.1).mono ?_
  rintro e w7 ⟨rfl, h7, g7⟩
  have P7 := Lib.hid (And.intro h7 (P6.out.2.grown g7 (by omega) (by simp; omega)))
  have hs7 := g7.size
  clear h7 g7
  go_wp2_with fail
  refine (lock_is P7.out.1 (by omega) i c _ _ F.out.2.2.2 F.out.2.2.1).mono ?_
  rintro e w8 ⟨rfl, h8, g8⟩
  have P8 := Lib.hid (And.intro h8 (P7.out.2.grown g8 (by omega) (by simp; omega)))
  have hs8 := g8.size
  clear h8 g8
  go_wp2_with fail
  refine (holds_is P8.out.1 HI.out c false (holdsB_none i c)).mono ?_
  rintro e w8' ⟨rfl, rfl⟩
  go_wp2_with fail
  refine (of_tab P8.out.1 c).mono ?_
  rintro e w9 ⟨v, rfl, h9, g9⟩
  rw [ofL_none] at h9
  obtain ⟨a9, c9, rfl⟩ := h9.slice
  have P9 := Lib.hid (P8.out.2.grown g9 (by omega) (by simp))
  clear h9 g9
  go_wp2_with fail
  go_ret
  exact ⟨rfl, P9.out⟩

set_option maxHeartbeats 400000 in
theorem none_good (i c : Int) (w : World) (hi : (Lit.int .i64 i).wf = true) (h0 : 0 ≤ i) (h1 : i < 4) (h2 : 0 ≤ c) (h3 : c < 8) :
    Calls Try.prog 11 #[.int .i64 i, .int .i64 c] w fun e w' => e = .returned (.bool true) ∧ Below w.heap.size w w' := by
  have HI := Lib.hid hi
  have Hok := Lib.hid (okB_iff.2 ⟨h0, h1, h2, h3⟩)
  have F := Lib.hid (none_ok Hok.out)
  clear hi
  go_enter Try.func11, Try.ntmps11
  go_wp2_with fail
  refine (awake13 w).mono ?_
  rintro e w1 ⟨rfl, b1⟩
  have B1 := Lib.hid b1
  clear b1
  go_wp2_with fail
  refine (owner_nil i _).mono ?_
  rintro e w1' ⟨rfl, rfl⟩
  go_wp2_with fail
  refine (lock_nil i c _).mono ?_
  rintro e w2 ⟨rfl, b2⟩
  have B2 := Lib.hid (B1.out.trans (b2.mono B1.out.size))
  clear b2
  go_wp2_with fail
  refine (unlock_nil i c _).mono ?_
  rintro e w3 ⟨rfl, b3⟩
  have B3 := Lib.hid (B2.out.trans (b3.mono B2.out.size))
  clear b3
  go_wp2_with fail
  refine (break_nil i c _).mono ?_
  rintro e w4 ⟨rfl, b4⟩
  have B4 := Lib.hid (B3.out.trans (b4.mono B3.out.size))
  clear b4
  go_wp2_with fail
  refine (holds_nil i c _).mono ?_
  rintro e w4' ⟨rfl, rfl⟩
  go_wp2_with fail
  refine (of_nil c _).mono ?_
  rintro e w4'' ⟨rfl, rfl⟩
  go_wp2_with fail
  refine (new_tab w4).mono ?_
  rintro e w5 ⟨rfl, h5, g5⟩
  have P5 := Lib.hid (And.intro h5 (B4.out.grown g5 B4.out.size (by simp)))
  have hs5 := g5.size
  have hs4 := B4.out.size
  have hmb := h5.ltm
  clear h5 g5
  generalize htb : w4.heap.size + 1 = tb at *
  have Htb := Lib.hid htb
  clear htb
  go_wp2_with fail
  refine (unlock_is P5.out.1 (by omega) i c noneT _ F.out.2.1 F.out.1).mono ?_
  rintro e w6 ⟨rfl, h6, g6⟩
  have P6 := Lib.hid (And.intro h6 (P5.out.2.grown g6 (by omega) (by simp; omega)))
  have hs6 := g6.size
  clear h6 g6
  go_wp2_with fail
  refine (break_is P6.out.1 (by omega) i c noneT _ F.out.2.1 F.out.1).mono ?_
  rintro e w7 ⟨rfl, h7, g7⟩
  have P7 := Lib.hid (And.intro h7 (P6.out.2.grown g7 (by omega) (by simp; omega)))
  have hs7 := g7.size
  clear h7 g7
  go_wp2_with fail
  refine (lock_is P7.out.1 (by omega) i c _ _ F.out.2.2.2 F.out.2.2.1).mono ?_
  rintro e w8 ⟨rfl, h8, g8⟩
  have P8 := Lib.hid (And.intro h8 (P7.out.2.grown g8 (by omega) (by simp; omega)))
  have hs8 := g8.size
  clear h8 g8
  go_wp2_with fail
  refine (holds_is P8.out.1 HI.out c true (holdsB_set GoodT.none Hok.out)).mono ?_
  rintro e w8' ⟨rfl, rfl⟩
  go_wp2_with fail
  go_ret
  exact ⟨rfl, P8.out.2⟩

theorem lockNone_walk (i c : Int) (w : World) (hi : (Lit.int .i64 i).wf = true) : Calls Try.prog 11 #[.int .i64 i, .int .i64 c] w fun e w' => e = .returned (.bool true) ∧ Below w.heap.size w w' := by
  by_cases h0 : 0 ≤ i
  · by_cases h1 : i < 4
    · by_cases h2 : 0 ≤ c
      · by_cases h3 : c < 8
        · exact none_good i c w hi h0 h1 h2 h3
        · exact none_b3 i c w hi h0 h1 h2 h3
      · exact none_b2 i c w hi h0 h1 h2
    · exact none_b1 i c w hi h0 h1
  · exact none_b0 i c w hi h0

end Go.Proofs.Ytakdmnamohdpaaa
