/- LockStays, walked: it returns true, and writes nothing that was there. -/
import Derived.Test.YtakdmnamohdpaaaOf
import Derived.Test.YtakdmnamohdpaaaActs
namespace Go.Proofs.Ytakdmnamohdpaaa
open Go.RowKit Go.Maps

theorem lock_free {t : List Int} {i c : Int} (hok : okB i c = true) (h : hold t i < 0 ∨ hold t i = c) : lockE t i c = 0 ∧ lockT t i c = setT t i c := by
  have he : busyE t i c = 0 := by rw [busyE, if_neg (by omega)]
  exact ⟨by rw [lockE, if_pos hok, he], by rw [lockT, if_pos ⟨hok, he⟩]⟩
theorem lock_held {t : List Int} {i c : Int} (hok : okB i c = true) (h : 0 ≤ hold t i) (h2 : hold t i ≠ c) : lockE t i c = 130 ∧ lockT t i c = t := by
  have he : busyE t i c = 130 := by rw [busyE, if_pos ⟨h, h2⟩]
  exact ⟨by rw [lockE, if_pos hok, he], by rw [lockT, if_neg (by rw [he]; simp)]⟩
theorem unlock_mine {t : List Int} {i c : Int} (hok : okB i c = true) (h : hold t i = c) : unlockE t i c = 0 ∧ unlockT t i c = setT t i (-1) := by
  have hr := okB_iff.1 hok
  have he : holderE t i c = 0 := by rw [holderE, if_pos ⟨by omega, h⟩]
  exact ⟨by rw [unlockE, if_pos hok, he], by rw [unlockT, if_pos ⟨hok, he⟩]⟩
theorem unlock_other {t : List Int} {i c : Int} (hok : okB i c = true) (h : hold t i ≠ c) : unlockE t i c = 131 ∧ unlockT t i c = t := by
  have he : holderE t i c = 131 := by rw [holderE, if_neg (fun hh => h hh.2)]
  exact ⟨by rw [unlockE, if_pos hok, he], by rw [unlockT, if_neg (by rw [he]; simp)]⟩
theorem st_set {t0 t : List Int} {i v : Int} (h : hold t i = v ∧ ∀ x, x ≠ i → hold t x = hold t0 x) (g : GoodT t) (hi : 0 ≤ i ∧ i < 4) (u : Int) : hold (setT t i u) i = u ∧ ∀ x, x ≠ i → hold (setT t i u) x = hold t0 x :=
  ⟨by rw [hold_set g hi, if_pos rfl], fun x hx => by rw [hold_set g hi, if_neg hx, h.2 x hx]⟩
theorem holds_mine {t : List Int} {i c : Int} (h : hold t i = c) (hc : 0 ≤ c) : holdsB t i c = true := by
  unfold holdsB heldBy
  rw [h, if_pos hc]
  simpa using hc

/-- What a round of a script rests on. -/
structure Script (w : World) (tb mb n : Nat) (t : List Int) (wr : World) : Prop where
  tab : IsTab wr tb mb n t
  below : Below w.heap.size w wr

set_option maxHeartbeats 4000000 in
set_option maxRecDepth 100000 in
theorem lockStays_walk (a0 : Option Addr) (len0 cap0 : Nat) (im pr : Int) (w : World) (w0 : IsActs w a0 len0) :
    Calls Try.prog 10 #[.slice a0 len0 cap0, .int .i64 im, .int .i64 pr] w fun e w' => e = .returned (.bool true) ∧ Below w.heap.size w w' := by
  have hlen := w0.short
  unfold maxLen at hlen
  have W0 := Lib.hid w0
  clear w0
  go_enter Try.func10, Try.ntmps10
  go_wp2_with fail
  refine (awake13 w).mono ?_
  rintro e w1 ⟨rfl, b1⟩
  have B1 := Lib.hid b1
  have hs1 := b1.size
  clear b1
  go_wp2_with fail
  refine (new_tab w1).mono ?_
  rintro e w2 ⟨rfl, h2, g2⟩
  have P2 := Lib.hid (Script.mk h2 (B1.out.grown g2 hs1 (by simp)))
  have htl := h2.lt
  clear h2 g2
  generalize htb : w1.heap.size + 1 = tb at *
  have Htb := Lib.hid htb
  have hmt : w1.heap.size < tb := by omega
  clear htb
  generalize hmb : w1.heap.size = mb at *
  have Hmb := Lib.hid hmb
  clear hmb
  go_wp2_with fail
  go_loopw [9] (fun i wr => ∃ (k : Nat) (t : List Int), k ≤ len0 ∧ k ≤ 80 ∧ i = .int .i64 k ∧ Script w tb mb k t wr) (fun i _ => len0 - (intOf i).toNat)
  case atStart => exact ⟨0, noneT, Nat.zero_le _, by omega, rfl, P2.out⟩
  case round =>
    obtain ⟨k, t, hk, hk80, rfl, hP⟩ := hrel
    have HP := Lib.hid hP
    have hbw := hP.below.size
    clear hP
    by_cases hlt : k < len0 ∧ k < 80
    · obtain ⟨hlt, h80⟩ := hlt
      obtain ⟨b, off, rfl, hb, hc⟩ := W0.out.row (by omega)
      obtain ⟨ak, am, ac, wm, wc, hcells⟩ := hc k hlt
      have HC := Lib.hid hcells
      clear hc wm wc hcells
      obtain ⟨d0, d1, d2⟩ := HC.out wr HP.out.below
      go_wp2_with fail
      refine (done_any HP.out.tab (by omega) ak am ac).mono ?_
      rintro e w3 ⟨rfl, h3, g3⟩
      have P3 := Lib.hid (Script.mk h3 (HP.out.below.grown g3 hbw (by simp; omega)))
      clear h3 g3 d0 d1 d2
      go_wp2_with fail
      go_roundw
      case rel => exact ⟨k + 1, _, by omega, by omega, by go_num, P3.out⟩
      case measure => simp [intOf]; omega
    · have hguard : (k < len0 ∧ ¬ k < 80) ∨ ¬ k < len0 := by omega
      clear hlt
      have htabs := HP.out.tab.lt
      have hi : 0 ≤ im % 4 ∧ im % 4 < 4 := by omega
      have hw : 0 ≤ pr % 8 ∧ pr % 8 < 8 := by omega
      have ho : 0 ≤ pr / 8 % 8 ∧ pr / 8 % 8 < 8 := by omega
      have hn : 0 ≤ (im + 1) % 4 ∧ (im + 1) % 4 < 4 ∧ (im + 1) % 4 ≠ im % 4 := by omega
      have hcase : (hold t (im % 4) < 0) ∨ (hold t (im % 4) = pr % 8) ∨ (0 ≤ hold t (im % 4) ∧ hold t (im % 4) ≠ pr % 8) := by omega
      have hsame : (pr / 8 % 8 = pr % 8) ∨ (pr / 8 % 8 ≠ pr % 8) := by omega
      have HI := Lib.hid hi
      have HW := Lib.hid hw
      have HO := Lib.hid ho
      have HN := Lib.hid hn
      have HCS := Lib.hid hcase
      have HSM := Lib.hid hsame
      clear hi hw ho hn hcase hsame
      rcases hguard with ⟨h1, h2⟩ | h1
      all_goals
        have h7 : ∀ y : Int, bits .and .i64 y 7 = y % 8 := and7
        have h3 : ∀ y : Int, bits .and .i64 y 3 = y % 4 := and3
        go_wp2_with fail
        clear h7 h3
        generalize im % 4 = i at *
        generalize pr / 8 % 8 = ot at *
        generalize pr % 8 = wh at *
        generalize (im + 1) % 4 = nx at *
        have wfi : (Lit.int .i64 i).wf = true := WalkArith.wf_i64 (by have := HI.out; omega)
        have wfn : (Lit.int .i64 nx).wf = true := WalkArith.wf_i64 (by have := HN.out; omega)
        have WFI := Lib.hid wfi
        have WFN := Lib.hid wfn
        have OKW := Lib.hid (okB_iff.2 ⟨HI.out.1, HI.out.2, HW.out.1, HW.out.2⟩)
        have OKO := Lib.hid (okB_iff.2 ⟨HI.out.1, HI.out.2, HO.out.1, HO.out.2⟩)
        clear wfi wfn
        obtain ⟨wn, bn, hwn, hbn⟩ : ∃ (wn : Int) (bn : Bool), heldBy t nx = wn ∧ decide (0 ≤ hold t nx) = bn := ⟨_, _, rfl, rfl⟩
        have HWN := Lib.hid (And.intro hwn hbn)
        clear hwn hbn
        refine (owner_is HP.out.tab WFN.out wn bn HWN.out.1 HWN.out.2).mono ?_
        rintro e w4 ⟨rfl, rfl⟩
        go_wp2_with fail
        rcases HCS.out with hA | hB | hC
        · have HA := Lib.hid hA
          have hb0 : heldBy t i = 0 := by unfold heldBy; rw [if_neg (by omega)]
          have hd0 : decide (0 ≤ hold t i) = false := by simp; omega
          have HB0 := Lib.hid (And.intro hb0 hd0)
          clear hb0 hd0 hA
          refine (owner_is HP.out.tab WFI.out 0 false HB0.out.1 HB0.out.2).mono ?_
          rintro e w5 ⟨rfl, rfl⟩
          go_wp2_with fail
          have F0 := Lib.hid (lock_free OKW.out (.inl HA.out))
          refine (lock_is HP.out.tab (by omega) i wh _ _ F0.out.2 F0.out.1).mono ?_
          rintro e w5a ⟨rfl, hq, gq⟩
          have P4 := Lib.hid (Script.mk hq (HP.out.below.grown gq HP.out.below.size (by have := HP.out.below.size; simp; omega)))
          clear hq gq
          go_wp2_with fail
          have G1 := Lib.hid P4.out.tab.good
          have E1 : hold (setT t i wh) i = wh := by rw [hold_set HP.out.tab.good HI.out, if_pos rfl]
          have X1 : ∀ x, x ≠ i → hold (setT t i wh) x = hold t x := fun x hx => by rw [hold_set HP.out.tab.good HI.out, if_neg hx]
          have HE1 := Lib.hid (And.intro E1 X1)
          clear E1 X1
          generalize ht1 : setT t i wh = t1 at *
          have Ht1 := Lib.hid ht1
          clear ht1
          rcases HSM.out with hs | hs
          · have hs2 := hs.symm
            subst hs2
            have F1 := Lib.hid (lock_free OKW.out (.inr HE1.out.1))
            refine (lock_is P4.out.tab (by omega) i wh _ _ F1.out.2 F1.out.1).mono ?_
            rintro e w5 ⟨rfl, hq, gq⟩
            have P5 := Lib.hid (Script.mk hq (P4.out.below.grown gq P4.out.below.size (by have := P4.out.below.size; simp; omega)))
            clear hq gq
            go_wp2_with fail
            have E2 := Lib.hid (st_set HE1.out G1.out HI.out wh)
            have G2 := Lib.hid P5.out.tab.good
            generalize ht2 : setT t1 i wh = t2 at *
            have Ht2 := Lib.hid ht2
            clear ht2
            have F2 := Lib.hid (unlock_mine OKW.out E2.out.1)
            refine (unlock_is P5.out.tab (by omega) i wh _ _ F2.out.2 F2.out.1).mono ?_
            rintro e w6 ⟨rfl, hq, gq⟩
            have P6 := Lib.hid (Script.mk hq (P5.out.below.grown gq P5.out.below.size (by have := P5.out.below.size; simp; omega)))
            clear hq gq
            go_wp2_with fail
            have E3 := Lib.hid (st_set E2.out G2.out HI.out (-1))
            have G3 := Lib.hid P6.out.tab.good
            generalize ht3 : setT t2 i (-1) = t3 at *
            have Ht3 := Lib.hid ht3
            clear ht3
            have F3 := Lib.hid (lock_free OKW.out (.inl (by rw [E3.out.1]; omega)))
            refine (lock_is P6.out.tab (by omega) i wh _ _ F3.out.2 F3.out.1).mono ?_
            rintro e w7 ⟨rfl, hq, gq⟩
            have P7 := Lib.hid (Script.mk hq (P6.out.below.grown gq P6.out.below.size (by have := P6.out.below.size; simp; omega)))
            clear hq gq
            go_wp2_with fail
            have E4 := Lib.hid (st_set E3.out G3.out HI.out wh)
            have G4 := Lib.hid P7.out.tab.good
            generalize ht4 : setT t3 i wh = t4 at *
            have Ht4 := Lib.hid ht4
            clear ht4
            have F4 := Lib.hid (unlock_mine OKW.out E4.out.1)
            refine (break_is P7.out.tab (by omega) i wh _ _ F4.out.2 F4.out.1).mono ?_
            rintro e w8 ⟨rfl, hq, gq⟩
            have P8 := Lib.hid (Script.mk hq (P7.out.below.grown gq P7.out.below.size (by have := P7.out.below.size; simp; omega)))
            clear hq gq
            go_wp2_with fail
            have E5 := Lib.hid (st_set E4.out G4.out HI.out (-1))
            have G5 := Lib.hid P8.out.tab.good
            generalize ht5 : setT t4 i (-1) = t5 at *
            have Ht5 := Lib.hid ht5
            clear ht5
            have F5 := Lib.hid (lock_free OKW.out (.inl (by rw [E5.out.1]; omega)))
            refine (lock_is P8.out.tab (by omega) i wh _ _ F5.out.2 F5.out.1).mono ?_
            rintro e w9 ⟨rfl, hq, gq⟩
            have P9 := Lib.hid (Script.mk hq (P8.out.below.grown gq P8.out.below.size (by have := P8.out.below.size; simp; omega)))
            clear hq gq
            go_wp2_with fail
            have E6 := Lib.hid (st_set E5.out G5.out HI.out wh)
            refine (holds_is P9.out.tab WFI.out wh true (holds_mine E6.out.1 HW.out.1)).mono ?_
            rintro e wz ⟨rfl, rfl⟩
            go_wp2_with fail
            refine (owner_is P9.out.tab WFN.out wn bn (by rw [← HWN.out.1]; unfold heldBy; rw [E6.out.2 nx HN.out.2.2]) (by rw [← HWN.out.2, E6.out.2 nx HN.out.2.2])).mono ?_
            rintro e wz2 ⟨rfl, rfl⟩
            go_wp2_with fail
            go_ret
            exact ⟨by simp, P9.out.below⟩
          · have hs' : (ot == wh) = false := by simpa using hs
            have HSN := Lib.hid hs
            clear hs
            have F1 := Lib.hid (lock_held OKO.out (by rw [HE1.out.1]; exact HW.out.1) (by rw [HE1.out.1]; exact fun e => HSN.out e.symm))
            refine (lock_is P4.out.tab (by omega) i ot _ _ F1.out.2 F1.out.1).mono ?_
            rintro e w5 ⟨rfl, hq, gq⟩
            have P5 := Lib.hid (Script.mk hq (P4.out.below.grown gq P4.out.below.size (by have := P4.out.below.size; simp; omega)))
            clear hq gq
            go_wp2_with fail
            have F2 := Lib.hid (unlock_other OKO.out (by rw [HE1.out.1]; exact fun e => HSN.out e.symm))
            refine (unlock_is P5.out.tab (by omega) i ot _ _ F2.out.2 F2.out.1).mono ?_
            rintro e w6 ⟨rfl, hq, gq⟩
            have P6 := Lib.hid (Script.mk hq (P5.out.below.grown gq P5.out.below.size (by have := P5.out.below.size; simp; omega)))
            clear hq gq
            go_wp2_with fail
            have F3 := Lib.hid (lock_free OKW.out (.inr HE1.out.1))
            refine (lock_is P6.out.tab (by omega) i wh _ _ F3.out.2 F3.out.1).mono ?_
            rintro e w7 ⟨rfl, hq, gq⟩
            have P7 := Lib.hid (Script.mk hq (P6.out.below.grown gq P6.out.below.size (by have := P6.out.below.size; simp; omega)))
            clear hq gq
            go_wp2_with fail
            have E4 := Lib.hid (st_set HE1.out G1.out HI.out wh)
            have G4 := Lib.hid P7.out.tab.good
            generalize ht4 : setT t1 i wh = t4 at *
            have Ht4 := Lib.hid ht4
            clear ht4
            have F4 := Lib.hid (unlock_mine OKW.out E4.out.1)
            refine (break_is P7.out.tab (by omega) i wh _ _ F4.out.2 F4.out.1).mono ?_
            rintro e w8 ⟨rfl, hq, gq⟩
            have P8 := Lib.hid (Script.mk hq (P7.out.below.grown gq P7.out.below.size (by have := P7.out.below.size; simp; omega)))
            clear hq gq
            go_wp2_with fail
            have E5 := Lib.hid (st_set E4.out G4.out HI.out (-1))
            have G5 := Lib.hid P8.out.tab.good
            generalize ht5 : setT t4 i (-1) = t5 at *
            have Ht5 := Lib.hid ht5
            clear ht5
            have F5 := Lib.hid (lock_free OKO.out (.inl (by rw [E5.out.1]; omega)))
            refine (lock_is P8.out.tab (by omega) i ot _ _ F5.out.2 F5.out.1).mono ?_
            rintro e w9 ⟨rfl, hq, gq⟩
            have P9 := Lib.hid (Script.mk hq (P8.out.below.grown gq P8.out.below.size (by have := P8.out.below.size; simp; omega)))
            clear hq gq
            go_wp2_with fail
            have E6 := Lib.hid (st_set E5.out G5.out HI.out ot)
            refine (holds_is P9.out.tab WFI.out ot true (holds_mine E6.out.1 HO.out.1)).mono ?_
            rintro e wz ⟨rfl, rfl⟩
            go_wp2_with fail
            refine (owner_is P9.out.tab WFN.out wn bn (by rw [← HWN.out.1]; unfold heldBy; rw [E6.out.2 nx HN.out.2.2]) (by rw [← HWN.out.2, E6.out.2 nx HN.out.2.2])).mono ?_
            rintro e wz2 ⟨rfl, rfl⟩
            go_wp2_with fail
            go_ret
            exact ⟨by simp, P9.out.below⟩
        · have HA := Lib.hid hB
          have hb0 : heldBy t i = wh := by unfold heldBy; rw [if_pos (by have := HW.out; omega)]; exact HA.out
          have hd0 : decide (0 ≤ hold t i) = true := by have := HW.out; simp; omega
          have HB0 := Lib.hid (And.intro hb0 hd0)
          clear hb0 hd0 hB
          refine (owner_is HP.out.tab WFI.out wh true HB0.out.1 HB0.out.2).mono ?_
          rintro e w5 ⟨rfl, rfl⟩
          go_wp2_with fail
          have F0 := Lib.hid (lock_free OKW.out (.inr HA.out))
          refine (lock_is HP.out.tab (by omega) i wh _ _ F0.out.2 F0.out.1).mono ?_
          rintro e w5a ⟨rfl, hq, gq⟩
          have P4 := Lib.hid (Script.mk hq (HP.out.below.grown gq HP.out.below.size (by have := HP.out.below.size; simp; omega)))
          clear hq gq
          go_wp2_with fail
          have G1 := Lib.hid P4.out.tab.good
          have E1 : hold (setT t i wh) i = wh := by rw [hold_set HP.out.tab.good HI.out, if_pos rfl]
          have X1 : ∀ x, x ≠ i → hold (setT t i wh) x = hold t x := fun x hx => by rw [hold_set HP.out.tab.good HI.out, if_neg hx]
          have HE1 := Lib.hid (And.intro E1 X1)
          clear E1 X1
          generalize ht1 : setT t i wh = t1 at *
          have Ht1 := Lib.hid ht1
          clear ht1
          rcases HSM.out with hs | hs
          · have hs2 := hs.symm
            subst hs2
            have F1 := Lib.hid (lock_free OKW.out (.inr HE1.out.1))
            refine (lock_is P4.out.tab (by omega) i wh _ _ F1.out.2 F1.out.1).mono ?_
            rintro e w5 ⟨rfl, hq, gq⟩
            have P5 := Lib.hid (Script.mk hq (P4.out.below.grown gq P4.out.below.size (by have := P4.out.below.size; simp; omega)))
            clear hq gq
            go_wp2_with fail
            have E2 := Lib.hid (st_set HE1.out G1.out HI.out wh)
            have G2 := Lib.hid P5.out.tab.good
            generalize ht2 : setT t1 i wh = t2 at *
            have Ht2 := Lib.hid ht2
            clear ht2
            have F2 := Lib.hid (unlock_mine OKW.out E2.out.1)
            refine (unlock_is P5.out.tab (by omega) i wh _ _ F2.out.2 F2.out.1).mono ?_
            rintro e w6 ⟨rfl, hq, gq⟩
            have P6 := Lib.hid (Script.mk hq (P5.out.below.grown gq P5.out.below.size (by have := P5.out.below.size; simp; omega)))
            clear hq gq
            go_wp2_with fail
            have E3 := Lib.hid (st_set E2.out G2.out HI.out (-1))
            have G3 := Lib.hid P6.out.tab.good
            generalize ht3 : setT t2 i (-1) = t3 at *
            have Ht3 := Lib.hid ht3
            clear ht3
            have F3 := Lib.hid (lock_free OKW.out (.inl (by rw [E3.out.1]; omega)))
            refine (lock_is P6.out.tab (by omega) i wh _ _ F3.out.2 F3.out.1).mono ?_
            rintro e w7 ⟨rfl, hq, gq⟩
            have P7 := Lib.hid (Script.mk hq (P6.out.below.grown gq P6.out.below.size (by have := P6.out.below.size; simp; omega)))
            clear hq gq
            go_wp2_with fail
            have E4 := Lib.hid (st_set E3.out G3.out HI.out wh)
            have G4 := Lib.hid P7.out.tab.good
            generalize ht4 : setT t3 i wh = t4 at *
            have Ht4 := Lib.hid ht4
            clear ht4
            have F4 := Lib.hid (unlock_mine OKW.out E4.out.1)
            refine (break_is P7.out.tab (by omega) i wh _ _ F4.out.2 F4.out.1).mono ?_
            rintro e w8 ⟨rfl, hq, gq⟩
            have P8 := Lib.hid (Script.mk hq (P7.out.below.grown gq P7.out.below.size (by have := P7.out.below.size; simp; omega)))
            clear hq gq
            go_wp2_with fail
            have E5 := Lib.hid (st_set E4.out G4.out HI.out (-1))
            have G5 := Lib.hid P8.out.tab.good
            generalize ht5 : setT t4 i (-1) = t5 at *
            have Ht5 := Lib.hid ht5
            clear ht5
            have F5 := Lib.hid (lock_free OKW.out (.inl (by rw [E5.out.1]; omega)))
            refine (lock_is P8.out.tab (by omega) i wh _ _ F5.out.2 F5.out.1).mono ?_
            rintro e w9 ⟨rfl, hq, gq⟩
            have P9 := Lib.hid (Script.mk hq (P8.out.below.grown gq P8.out.below.size (by have := P8.out.below.size; simp; omega)))
            clear hq gq
            go_wp2_with fail
            have E6 := Lib.hid (st_set E5.out G5.out HI.out wh)
            refine (holds_is P9.out.tab WFI.out wh true (holds_mine E6.out.1 HW.out.1)).mono ?_
            rintro e wz ⟨rfl, rfl⟩
            go_wp2_with fail
            refine (owner_is P9.out.tab WFN.out wn bn (by rw [← HWN.out.1]; unfold heldBy; rw [E6.out.2 nx HN.out.2.2]) (by rw [← HWN.out.2, E6.out.2 nx HN.out.2.2])).mono ?_
            rintro e wz2 ⟨rfl, rfl⟩
            go_wp2_with fail
            go_ret
            exact ⟨by simp, P9.out.below⟩
          · have hs' : (ot == wh) = false := by simpa using hs
            have HSN := Lib.hid hs
            clear hs
            have F1 := Lib.hid (lock_held OKO.out (by rw [HE1.out.1]; exact HW.out.1) (by rw [HE1.out.1]; exact fun e => HSN.out e.symm))
            refine (lock_is P4.out.tab (by omega) i ot _ _ F1.out.2 F1.out.1).mono ?_
            rintro e w5 ⟨rfl, hq, gq⟩
            have P5 := Lib.hid (Script.mk hq (P4.out.below.grown gq P4.out.below.size (by have := P4.out.below.size; simp; omega)))
            clear hq gq
            go_wp2_with fail
            have F2 := Lib.hid (unlock_other OKO.out (by rw [HE1.out.1]; exact fun e => HSN.out e.symm))
            refine (unlock_is P5.out.tab (by omega) i ot _ _ F2.out.2 F2.out.1).mono ?_
            rintro e w6 ⟨rfl, hq, gq⟩
            have P6 := Lib.hid (Script.mk hq (P5.out.below.grown gq P5.out.below.size (by have := P5.out.below.size; simp; omega)))
            clear hq gq
            go_wp2_with fail
            have F3 := Lib.hid (lock_free OKW.out (.inr HE1.out.1))
            refine (lock_is P6.out.tab (by omega) i wh _ _ F3.out.2 F3.out.1).mono ?_
            rintro e w7 ⟨rfl, hq, gq⟩
            have P7 := Lib.hid (Script.mk hq (P6.out.below.grown gq P6.out.below.size (by have := P6.out.below.size; simp; omega)))
            clear hq gq
            go_wp2_with fail
            have E4 := Lib.hid (st_set HE1.out G1.out HI.out wh)
            have G4 := Lib.hid P7.out.tab.good
            generalize ht4 : setT t1 i wh = t4 at *
            have Ht4 := Lib.hid ht4
            clear ht4
            have F4 := Lib.hid (unlock_mine OKW.out E4.out.1)
            refine (break_is P7.out.tab (by omega) i wh _ _ F4.out.2 F4.out.1).mono ?_
            rintro e w8 ⟨rfl, hq, gq⟩
            have P8 := Lib.hid (Script.mk hq (P7.out.below.grown gq P7.out.below.size (by have := P7.out.below.size; simp; omega)))
            clear hq gq
            go_wp2_with fail
            have E5 := Lib.hid (st_set E4.out G4.out HI.out (-1))
            have G5 := Lib.hid P8.out.tab.good
            generalize ht5 : setT t4 i (-1) = t5 at *
            have Ht5 := Lib.hid ht5
            clear ht5
            have F5 := Lib.hid (lock_free OKO.out (.inl (by rw [E5.out.1]; omega)))
            refine (lock_is P8.out.tab (by omega) i ot _ _ F5.out.2 F5.out.1).mono ?_
            rintro e w9 ⟨rfl, hq, gq⟩
            have P9 := Lib.hid (Script.mk hq (P8.out.below.grown gq P8.out.below.size (by have := P8.out.below.size; simp; omega)))
            clear hq gq
            go_wp2_with fail
            have E6 := Lib.hid (st_set E5.out G5.out HI.out ot)
            refine (holds_is P9.out.tab WFI.out ot true (holds_mine E6.out.1 HO.out.1)).mono ?_
            rintro e wz ⟨rfl, rfl⟩
            go_wp2_with fail
            refine (owner_is P9.out.tab WFN.out wn bn (by rw [← HWN.out.1]; unfold heldBy; rw [E6.out.2 nx HN.out.2.2]) (by rw [← HWN.out.2, E6.out.2 nx HN.out.2.2])).mono ?_
            rintro e wz2 ⟨rfl, rfl⟩
            go_wp2_with fail
            go_ret
            exact ⟨by simp, P9.out.below⟩
        · obtain ⟨o, ho, hoo⟩ : ∃ o : Int, hold t i = o ∧ (o == wh) = false := ⟨_, rfl, by simpa using hC.2⟩
          have HA := Lib.hid hC
          have HOO := Lib.hid ho
          have hb0 : heldBy t i = o := by unfold heldBy; rw [if_pos HA.out.1]; exact HOO.out
          have hd0 : decide (0 ≤ hold t i) = true := by have := HA.out.1; simpa using this
          have HB0 := Lib.hid (And.intro hb0 hd0)
          clear hb0 hd0 hC ho
          refine (owner_is HP.out.tab WFI.out o true HB0.out.1 HB0.out.2).mono ?_
          rintro e w5 ⟨rfl, rfl⟩
          go_wp2_with fail
          have F0 := Lib.hid (lock_held OKW.out HA.out.1 HA.out.2)
          refine (lock_is HP.out.tab (by omega) i wh _ _ F0.out.2 F0.out.1).mono ?_
          rintro e w5a ⟨rfl, hq, gq⟩
          have P4 := Lib.hid (Script.mk hq (HP.out.below.grown gq HP.out.below.size (by have := HP.out.below.size; simp; omega)))
          clear hq gq
          go_wp2_with fail
          refine (owner_is P4.out.tab WFN.out wn bn HWN.out.1 HWN.out.2).mono ?_
          rintro e wz2 ⟨rfl, rfl⟩
          go_wp2_with fail
          go_ret
          exact ⟨by simp, P4.out.below⟩

end Go.Proofs.Ytakdmnamohdpaaa
