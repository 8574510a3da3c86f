/- Of, and the example that each statement of layer 13 asks first, walked. -/
import Derived.Test.YtakdmnamohdpaaaLoc
namespace Go.Proofs.Ytakdmnamohdpaaa
open Go.RowKit Go.Maps

/-- The first k images whose locks somebody holds. -/
def ofL (t : List Int) (c : Int) (k : Nat) : List Int := ((List.range k).filter fun i : Nat => holdsB t i c).map fun i : Nat => (i : Int)

theorem ofL_succ (t : List Int) (c : Int) (k : Nat) : ofL t c (k + 1) = if holdsB t k c = true then ofL t c k ++ [(k : Int)] else ofL t c k := by
  unfold ofL
  rw [List.range_succ, List.filter_append, List.map_append]
  by_cases h : holdsB t k c = true <;> simp [h]
theorem ofL_len (t : List Int) (c : Int) (k : Nat) : (ofL t c k).length ≤ k := by
  unfold ofL
  rw [List.length_map]
  have := List.length_filter_le (fun i : Nat => holdsB t i c) (List.range k)
  simpa using this

theorem of_nil (c : Int) (w : World) : Calls Try.prog 37 #[.pointer none, .int .i64 c] w fun e w' => e = .returned (.slice none 0 0) ∧ w = w' := by
  go_enter Try.func37, Try.ntmps37
  go_wp2_with fail
  go_loop [5, 7] (fun v i => v = .slice none 0 0 ∧ ∃ k : Nat, k ≤ 4 ∧ i = .int .i64 k) (fun _ i => 4 - (intOf i).toNat)
  case atStart => exact ⟨rfl, 0, by omega, rfl⟩
  case round =>
    obtain ⟨rfl, k, hk, rfl⟩ := hrel
    by_cases hlt : k < 4
    · go_wp2_with fail
      refine (holds_nil k c _).mono ?_
      rintro e w1 ⟨rfl, rfl⟩
      go_wp2_with fail
      go_round
      case rel => exact ⟨rfl, k + 1, by omega, by go_num⟩
      case measure => simp [intOf]; omega
    · go_wp2_with fail
      go_ret
      exact ⟨rfl, rfl⟩

set_option maxHeartbeats 400000 in
theorem of_tab {w : World} {tb mb n : Nat} {t : List Int} (h : IsTab w tb mb n t) (c : Int) : Calls Try.prog 37 #[.pointer (some ⟨tb, 0, none⟩), .int .i64 c] w fun e w' =>
    ∃ v, e = .returned v ∧ Ints w' w.heap.size v (ofL t c 4) ∧ w.grownBy w' none := by
  obtain ⟨i0, hi, hz0, hz1, hz2⟩ := info_parts Try.info3
  have H := Lib.hid h
  clear h
  go_enter Try.func37, Try.ntmps37
  go_wp2_with fail
  go_loopw [5, 7] (fun v i wr => ∃ k : Nat, k ≤ 4 ∧ i = .int .i64 k ∧ Ints wr w.heap.size v (ofL t c k) ∧ w.grownBy wr none) (fun _ i _ => 4 - (intOf i).toNat)
  case atStart => exact ⟨0, by omega, rfl, Ints.nil _ _, grown_same _ _⟩
  case round =>
    obtain ⟨k, hk, rfl, hv, hg⟩ := hrel
    have HV := Lib.hid hv
    have HG := Lib.hid hg
    have hs := hg.size
    have hl := ofL_len t c k
    clear hv hg
    by_cases hlt : k < 4
    · have hT := H.out.grown HG.out (by simp) (by simp)
      have HT := Lib.hid hT
      clear hT
      go_wp2_with fail
      refine (holds_tab HT.out (i := (k : Int)) (WalkArith.wf_i64 (by omega)) c).mono ?_
      rintro e w1 ⟨rfl, rfl⟩
      have hsu := ofL_succ t c k
      cases hb : holdsB t k c
      · rw [hb] at hsu
        have HSU := Lib.hid hsu
        clear hsu
        go_wp2_with fail
        go_roundw
        case rel => exact ⟨k + 1, by omega, by go_num, HSU.out.symm ▸ HV.out, HG.out⟩
        case measure => simp [intOf]; omega
      · rw [hb] at hsu
        have HSU := Lib.hid hsu
        clear hsu
        generalize ofL t c k = L at *
        go_wp2_with (first
          | (at_builtin; refine wpList_append_own _ rfl (.tmp 14) (.tmp 16) 22 rfl w.heap.size 3 i0 (.int .i64 0) 1 8 Try.underlying22 hi hz0 hz1 hz2 rfl (by decide) _ _ _ rfl (HV.out.alloc _) ⟨wr.heap.size, 0, none⟩ 1 1 [.int .i64 k] rfl rfl ?c1 ?c2 ?c3 ?c4 ?c5 ?_))
        case c1 => exact cell_one_new _ _ _
        case c2 => simp [Value.oneCell']
        case c3 => unfold maxLen; omega
        case c4 => omega
        case c5 => simp; omega
        intro v2 w2 hown2 hg2 _
        have P2 := Lib.hid (And.intro (Ints.snoc rfl hown2) (grown_append HG.out hg2 (fun q hq => (HV.out.lt q hq).1)))
        clear hown2 hg2
        go_wp2_with fail
        go_roundw
        case rel => exact ⟨k + 1, by omega, by go_num, by rw [HSU.out, if_pos trivial]; exact P2.out.1, P2.out.2⟩
        case measure => simp [intOf]; omega
    · have h4 : k = 4 := by omega
      have HV4 := Lib.hid (h4 ▸ HV.out)
      clear h4
      go_wp2_with fail
      go_ret
      exact ⟨_, rfl, HV4.out, HG.out⟩


theorem and3 (x : Int) : bits .and .i64 x 3 = x % 4 := by
  show IntKind.i64.wrap ((BitVec.ofInt 64 x &&& BitVec.ofInt 64 3).toNat : Int) = _
  rw [BitVec.toNat_and, BitVec.toNat_ofInt, show (BitVec.ofInt 64 3).toNat = 3 from rfl, nat_mask2, IntWalk.i64_in _ (by omega)]
  omega
theorem and7 (x : Int) : bits .and .i64 x 7 = x % 8 := by
  show IntKind.i64.wrap ((BitVec.ofInt 64 x &&& BitVec.ofInt 64 7).toNat : Int) = _
  rw [BitVec.toNat_and, BitVec.toNat_ofInt, show (BitVec.ofInt 64 7).toNat = 7 from rfl, nat_mask3, IntWalk.i64_in _ (by omega)]
  omega

/-- What an act leaves. -/
def doneT (t : List Int) (k i c : Int) : List Int := if k % 4 < 2 then lockT t i c else unlockT t i c

theorem done_any {w : World} {tb mb n : Nat} {t : List Int} (h : IsTab w tb mb n t) (hn : n < 1000) (k i c : Int) :
    Calls Try.prog 39 #[.pointer (some ⟨tb, 0, none⟩), .agg #[.int .i64 k, .int .i64 i, .int .i64 c]] w fun e w' => e = .returned (.tuple #[]) ∧ IsTab w' tb mb (n + 1) (doneT t k i c) ∧ w.grownBy w' (some mb) := by
  have h1 := h.alloc (.cells #[.int .i64 k, .int .i64 i, .int .i64 c] 47)
  have hg1 := World.grownBy_alloc w (.cells #[.int .i64 k, .int .i64 i, .int .i64 c] 47) (some mb)
  have H1 := Lib.hid h1
  have HG := Lib.hid hg1
  clear h1 h hg1
  obtain ⟨q, hq, hq4⟩ : ∃ q, bits .and .i64 k 3 = q ∧ q = k % 4 := ⟨_, rfl, and3 k⟩
  have hc : q = 0 ∨ q = 1 ∨ q = 2 ∨ q = 3 := by omega
  rcases hc with rfl | rfl | rfl | rfl
  · rw [doneT, if_pos (by omega)]
    clear hq4
    go_enter Try.func39, Try.ntmps39
    go_wp2_with fail
    refine (lock_any H1.out hn i c).mono ?_
    rintro e w1 ⟨rfl, h2, g2⟩
    have P := Lib.hid (And.intro h2 (grown_chain HG.out g2))
    clear h2 g2
    go_wp2_with fail
    go_end0
    exact ⟨rfl, P.out⟩
  · rw [doneT, if_pos (by omega)]
    clear hq4
    go_enter Try.func39, Try.ntmps39
    go_wp2_with fail
    refine (lock_any H1.out hn i c).mono ?_
    rintro e w1 ⟨rfl, h2, g2⟩
    have P := Lib.hid (And.intro h2 (grown_chain HG.out g2))
    clear h2 g2
    go_wp2_with fail
    go_end0
    exact ⟨rfl, P.out⟩
  · rw [doneT, if_neg (by omega)]
    clear hq4
    go_enter Try.func39, Try.ntmps39
    go_wp2_with fail
    refine (unlock_any H1.out hn i c).mono ?_
    rintro e w1 ⟨rfl, h2, g2⟩
    have P := Lib.hid (And.intro (h2.mono (Nat.le_succ n)) (grown_chain HG.out g2))
    clear h2 g2
    go_wp2_with fail
    go_end0
    exact ⟨rfl, P.out⟩
  · rw [doneT, if_neg (by omega)]
    clear hq4
    go_enter Try.func39, Try.ntmps39
    go_wp2_with fail
    refine (break_any H1.out hn i c).mono ?_
    rintro e w1 ⟨rfl, h2, g2⟩
    have P := Lib.hid (And.intro (h2.mono (Nat.le_succ n)) (grown_chain HG.out g2))
    clear h2 g2
    go_wp2_with fail
    go_end0
    exact ⟨rfl, P.out⟩

/-! ### The example -/
theorem lock_is {w : World} {tb mb n : Nat} {t : List Int} (h : IsTab w tb mb n t) (hn : n < 1000) (i c : Int) (t' : List Int) (er : Int) (ht : lockT t i c = t') (he : lockE t i c = er) :
    Calls Try.prog 28 #[.pointer (some ⟨tb, 0, none⟩), .int .i64 i, .int .i64 c] w fun e w' => e = .returned (.int .i64 er) ∧ IsTab w' tb mb (n + 1) t' ∧ w.grownBy w' (some mb) := by
  subst ht he; exact lock_any h hn i c
theorem unlock_is {w : World} {tb mb n : Nat} {t : List Int} (h : IsTab w tb mb n t) (hn : n < 1000) (i c : Int) (t' : List Int) (er : Int) (ht : unlockT t i c = t') (he : unlockE t i c = er) :
    Calls Try.prog 30 #[.pointer (some ⟨tb, 0, none⟩), .int .i64 i, .int .i64 c] w fun e w' => e = .returned (.int .i64 er) ∧ IsTab w' tb mb n t' ∧ w.grownBy w' (some mb) := by
  subst ht he; exact unlock_any h hn i c
theorem break_is {w : World} {tb mb n : Nat} {t : List Int} (h : IsTab w tb mb n t) (hn : n < 1000) (i c : Int) (t' : List Int) (er : Int) (ht : unlockT t i c = t') (he : unlockE t i c = er) :
    Calls Try.prog 32 #[.pointer (some ⟨tb, 0, none⟩), .int .i64 i, .int .i64 c] w fun e w' => e = .returned (.int .i64 er) ∧ IsTab w' tb mb n t' ∧ w.grownBy w' (some mb) := by
  subst ht he; exact break_any h hn i c
theorem holds_is {w : World} {tb mb n : Nat} {t : List Int} (h : IsTab w tb mb n t) {i : Int} (hi : (Lit.int .i64 i).wf = true) (c : Int) (b : Bool) (hb : holdsB t i c = b) :
    Calls Try.prog 35 #[.pointer (some ⟨tb, 0, none⟩), .int .i64 i, .int .i64 c] w fun e w' => e = .returned (.bool b) ∧ w = w' := by
  subst hb; exact holds_tab h hi c
theorem owner_is {w : World} {tb mb n : Nat} {t : List Int} (h : IsTab w tb mb n t) {x : Int} (hx : (Lit.int .i64 x).wf = true) (o : Int) (b : Bool) (ho : heldBy t x = o) (hb : decide (0 ≤ hold t x) = b) :
    Calls Try.prog 33 #[.pointer (some ⟨tb, 0, none⟩), .int .i64 x] w fun e w' => e = .returned (.tuple #[.int .i64 o, .bool b]) ∧ w = w' := by
  subst ho hb; exact owner_tab h hx

theorem awake13 (w : World) : Calls Try.prog 25 #[] w fun e w' => e = .returned (.bool true) ∧ Below w.heap.size w w' := by
  go_enter Try.func25, Try.ntmps25
  go_wp2_with fail
  refine (new_tab w).mono ?_
  rintro e w1 ⟨rfl, h1, g1⟩
  have P1 := Lib.hid (And.intro h1 ((Below.refl w.heap.size w).grown g1 (Nat.le_refl _) (by simp)))
  have hs1 := g1.size
  clear h1 g1
  generalize htb : w.heap.size + 1 = tb at *
  have Htb := Lib.hid htb
  clear htb
  go_wp2_with fail
  refine (lock_is P1.out.1 (by omega) 0 3 [3, -1, -1, -1] 0 (by decide) (by decide)).mono ?_
  rintro e w2 ⟨rfl, h2, g2⟩
  have P2 := Lib.hid (And.intro h2 (P1.out.2.grown g2 hs1 (by simp)))
  have hs2 := g2.size
  clear h2 g2
  go_wp2_with fail
  refine (lock_is P2.out.1 (by omega) 0 4 [3, -1, -1, -1] 130 (by decide) (by decide)).mono ?_
  rintro e w3 ⟨rfl, h3, g3⟩
  have P3 := Lib.hid (And.intro h3 (P2.out.2.grown g3 (by omega) (by simp)))
  have hs3 := g3.size
  clear h3 g3
  go_wp2_with fail
  refine (break_is P3.out.1 (by omega) 0 4 [3, -1, -1, -1] 131 (by decide) (by decide)).mono ?_
  rintro e w4 ⟨rfl, h4, g4⟩
  have P4 := Lib.hid (And.intro h4 (P3.out.2.grown g4 (by omega) (by simp)))
  have hs4 := g4.size
  clear h4 g4
  go_wp2_with fail
  refine (break_is P4.out.1 (by omega) 0 3 [-1, -1, -1, -1] 0 (by decide) (by decide)).mono ?_
  rintro e w5 ⟨rfl, h5, g5⟩
  have P5 := Lib.hid (And.intro h5 (P4.out.2.grown g5 (by omega) (by simp)))
  have hs5 := g5.size
  clear h5 g5
  go_wp2_with fail
  refine (lock_is P5.out.1 (by omega) 0 4 [4, -1, -1, -1] 0 (by decide) (by decide)).mono ?_
  rintro e w6 ⟨rfl, h6, g6⟩
  have P6 := Lib.hid (And.intro h6 (P5.out.2.grown g6 (by omega) (by simp)))
  have hs6 := g6.size
  clear h6 g6
  go_wp2_with fail
  refine (holds_is P6.out.1 (i := 0) (by decide) 4 true (by decide)).mono ?_
  rintro e w7 ⟨rfl, rfl⟩
  go_wp2_with fail
  refine (of_tab P6.out.1 4).mono ?_
  rintro e w8 ⟨v, rfl, h8, g8⟩
  have e8 : ofL [4, -1, -1, -1] 4 4 = [0] := by decide
  rw [e8] at h8
  obtain ⟨a8, c8, rfl⟩ := h8.slice
  have P8 := Lib.hid (P6.out.2.grown g8 (by omega) (by simp))
  clear h8 g8 e8
  go_wp2_with fail
  go_ret
  exact ⟨rfl, P8.out⟩

end Go.Proofs.Ytakdmnamohdpaaa
