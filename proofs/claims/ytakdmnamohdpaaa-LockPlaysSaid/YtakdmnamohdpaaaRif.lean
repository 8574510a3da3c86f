/- The document's lock table: a row of four holders; walked. -/
import Derived.Test.YtakdmnamohdpaaaOf
import Derived.Test.YtakdmnamohdpaaaReg
import Derived.Laws.OwnMore
namespace Go.Proofs.Ytakdmnamohdpaaa
open Go.RowKit Go.Maps

/-- The document's row of holders, that the call itself made. -/
structure IsRef (w : World) (lo g cap : Nat) (t : List Int) : Prop where
  own : w.ownsRow lo 3 1 (.slice (some ⟨g, 0, none⟩) 4 cap) 4 (t.map (Value.int .i64))
  len : t.length = 4

theorem IsRef.size {w : World} {lo g cap : Nat} {t : List Int} (h : IsRef w lo g cap t) : 4 ≤ cap ∧ cap ≤ 9223372036854775807 ∧ lo ≤ g ∧ g < w.heap.size := by
  rcases h.own.2 with ⟨h', _⟩ | ⟨g', cap', cur, h', hb, hg, hn, hm, _⟩
  · simp at h'
  · simp only [Value.slice.injEq, Option.some.injEq, Addr.mk.injEq, and_true, true_and] at h'
    obtain ⟨rfl, rfl⟩ := h'
    unfold maxLen at hm
    exact ⟨hn, hm, hb, (Array.getElem?_eq_some_iff.1 hg).1⟩
theorem IsRef.cell {w : World} {lo g cap : Nat} {t : List Int} (h : IsRef w lo g cap t) {j : Nat} (hj : j < 4) : w.cell? ⟨g, j, none⟩ = some (.int .i64 (nth t j)) := by
  rw [h.own.cellAt j (by omega)]
  have := h.len
  simp [nth, List.getElem?_eq_getElem (show j < t.length by omega)]
theorem IsRef.kept {w w' : World} {lo g cap : Nat} {t : List Int} {row : Option Nat} (h : IsRef w lo g cap t) (hg : w.grownBy w' row) (hr : ∀ k, row = some k → k < lo) : IsRef w' lo g cap t := by
  have hs := h.size
  exact ⟨World.ownsRow.kept h.own hg (.inr fun e => by have := hr g e.symm; omega), h.len⟩
theorem IsRef.mono {w : World} {lo lo' g cap : Nat} {t : List Int} (h : IsRef w lo g cap t) (hl : lo' ≤ lo) : IsRef w lo' g cap t := ⟨Ints.mono (l := t) (by simpa only [Ints, h.len] using h.own) hl |> (by simpa only [Ints, h.len] using ·), h.len⟩
theorem hold_nth {t : List Int} {j : Nat} (hj : j < 4) : hold t (j : Int) = nth t j := by
  unfold hold
  rw [if_pos (by omega)]
  simp

theorem ref_new (w : World) : Calls Try.prog 27 #[] w fun e w' => e = .returned (.slice (some ⟨w.heap.size, 0, none⟩) 4 4) ∧ IsRef w' w.heap.size w.heap.size 4 noneT ∧ w.grownBy w' none := by
  have hl := World.ownsRow_lit (base := w.heap.size) (e := 3) (size := 1) w #[.int .i64 (-1), .int .i64 (-1), .int .i64 (-1), .int .i64 (-1)] 4 (Nat.le_refl _) (by unfold maxLen; omega) rfl
  have HL := Lib.hid hl
  clear hl
  go_enter Try.func27, Try.ntmps27
  go_wp2
  go_ret
  exact ⟨rfl, ⟨HL.out, rfl⟩, World.grownBy_alloc _ _ _⟩

/-- Is it an image, and a client? -/
theorem refmay_any (i c : Int) (w : World) : Calls Try.prog 41 #[.int .i64 i, .int .i64 c] w fun e w' => e = .returned (.bool (okB i c)) ∧ w = w' := by
  by_cases h0 : 0 ≤ i
  · by_cases h1 : i < 4
    · by_cases h2 : 0 ≤ c
      · have e : okB i c = decide (c < 8) := by simp [okB, h0, h1, h2]
        rw [e]
        clear e
        go_enter Try.func41, Try.ntmps41
        go_wp2
        go_ret
        exact ⟨rfl, rfl⟩
      · have e : okB i c = false := by simp [okB, h2]
        rw [e]
        clear e
        go_enter Try.func41, Try.ntmps41
        go_wp2
        go_ret
        exact ⟨rfl, rfl⟩
    · have e : okB i c = false := by simp [okB, h1]
      rw [e]
      clear e
      go_enter Try.func41, Try.ntmps41
      go_wp2
      go_ret
      exact ⟨rfl, rfl⟩
  · have e : okB i c = false := by simp [okB, h0]
    rw [e]
    clear e
    go_enter Try.func41, Try.ntmps41
    go_wp2
    go_ret
    exact ⟨rfl, rfl⟩
theorem refmay_is (i c : Int) (b : Bool) (hb : okB i c = b) (w : World) : Calls Try.prog 41 #[.int .i64 i, .int .i64 c] w fun e w' => e = .returned (.bool b) ∧ w = w' := by
  subst hb; exact refmay_any i c w

set_option maxHeartbeats 400000 in
theorem refwith {w : World} {lo g cap : Nat} {t : List Int} (h : IsRef w lo g cap t) {j : Nat} (hj : j < 4) (x : Int) :
    Calls Try.prog 42 #[.slice (some ⟨g, 0, none⟩) 4 cap, .int .i64 j, .int .i64 x] w fun e w' =>
      ∃ g' cap', e = .returned (.slice (some ⟨g', 0, none⟩) 4 cap') ∧ IsRef w' w.heap.size g' cap' (setT t j x) ∧ w.grownBy w' none := by
  obtain ⟨i0, hi, hz0, hz1, hz2⟩ := info_parts Try.info3
  have hown0 := World.ownsRow_nil w w.heap.size 3 1
  have hlen := h.len
  have hsrc : ∀ (k : Nat) (u : Value), (t.map (Value.int .i64))[k]? = some u → w.cell? ((⟨g, 0, none⟩ : Addr).add k) = some u := fun k u hu => h.own.cells rfl k u hu
  have HS := Lib.hid hsrc
  have HZ := Lib.hid h.size
  clear hsrc h
  go_enter Try.func42, Try.ntmps42
  go_wp2_with (first
    | (at_builtin; refine wpList_append_own _ rfl (.tmp 8) (.tmp 9) 22 rfl w.heap.size 3 i0 (.int .i64 0) 1 8 Try.underlying22 hi hz0 hz1 hz2 rfl (by decide) _ _ _ rfl hown0 ⟨g, 0, none⟩ 4 cap (t.map (Value.int .i64)) rfl ?c0 ?c1 ?c2 ?c3 ?c4 ?c5 ?_))
  case c0 => simp [hlen]
  case c1 => exact HS.out
  case c2 => simp [Value.oneCell']
  case c3 => unfold maxLen; omega
  case c4 => omega
  case c5 => omega
  intro v1 w1 hown1 hg1 _
  have hi1 : Ints w1 w.heap.size v1 t := by
    show World.ownsRow _ _ _ _ _ _ _
    rw [hlen]
    simpa using hown1
  rcases hi1.cases with ⟨rfl, rfl⟩ | ⟨g1, cap1, rfl, hb1, hg1', hn1, hm1, hc1, hf1⟩
  · simp at hlen
  · rw [hlen] at hn1
    unfold maxLen at hm1
    have hst := World.ownsRow.stored (g := g1) (n := 4) (cap := cap1) (xs := t.map (Value.int .i64)) (by simpa only [Ints, hlen] using hi1) j (.int .i64 x)
    have HST := Lib.hid hst
    have HG1 := Lib.hid (grown_none hg1 (by simp [Value.ownBlock]))
    have hcj := hc1 j (by omega)
    have hfj := hf1 j
    have hsz := hg1.size
    clear hst hown1 hi1 hg1 hc1 hf1
    simp only [hlen]
    go_wp2
    go_ret
    refine ⟨g1, cap1, rfl, ⟨?_, ?_⟩, ?_⟩
    · have := HST.out.1
      simpa only [setT, Int.toNat_natCast, List.map_set] using this
    · simp [setT, hlen]
    · exact grown_none (grown_chain (grown_some HG1.out g1) HST.out.2) (by rintro k ⟨⟩; exact hb1)

set_option maxHeartbeats 400000 in
theorem reflock {w : World} {lo g cap : Nat} {t : List Int} (h : IsRef w lo g cap t) (hlo : lo ≤ w.heap.size) (i c : Int) (er : Int) (t' : List Int) (her : lockE t i c = er) (ht' : lockT t i c = t') :
    Calls Try.prog 29 #[.slice (some ⟨g, 0, none⟩) 4 cap, .int .i64 i, .int .i64 c] w fun e w' =>
      ∃ g' cap', e = .returned (.tuple #[.slice (some ⟨g', 0, none⟩) 4 cap', .int .i64 er]) ∧ IsRef w' lo g' cap' t' ∧ w.grownBy w' none := by
  have H := Lib.hid h
  have HZ := h.size
  by_cases hok : okB i c = true
  · have hb := okB_iff.1 hok
    obtain ⟨j, rfl⟩ := Int.eq_ofNat_of_zero_le hb.1
    have hj : j < 4 := by omega
    have hc0 : 0 ≤ c := hb.2.2.1
    have hcell := h.cell hj
    have hh := hold_nth (t := t) hj
    have HOK := Lib.hid hok
    clear h hok
    generalize hy : nth t j = y at *
    have HY := Lib.hid hy
    clear hy
    by_cases hcond : 0 ≤ y ∧ y ≠ c
    · have hne : (y == c) = false := by simp; omega
      obtain ⟨hy0, _⟩ := hcond
      have hz : busyE t j c = 130 := by rw [busyE, hh]; exact if_pos (by omega)
      have hE : er = 130 := by rw [← her, lockE, if_pos HOK.out, hz]
      have hT : t' = t := by rw [← ht', lockT, if_neg (by rw [hz]; simp)]
      subst hE hT
      clear her hz
      go_enter Try.func29, Try.ntmps29
      go_wp2_with fail
      refine (refmay_is _ _ true HOK.out _).mono ?_
      rintro e wx ⟨rfl, rfl⟩
      go_wp2_with fail
      go_ret2
      exact ⟨g, cap, rfl, H.out, grown_same _ _⟩
    · have hz : busyE t j c = 0 := by rw [busyE, hh]; exact if_neg (by omega)
      have hE : er = 0 := by rw [← her, lockE, if_pos HOK.out, hz]
      have hT : t' = setT t j c := by rw [← ht', lockT, if_pos ⟨HOK.out, hz⟩]
      subst hE hT
      clear her hz
      by_cases hyc : y < 0
      · clear hcond
        go_enter Try.func29, Try.ntmps29
        go_wp2_with fail
        refine (refmay_is _ _ true HOK.out _).mono ?_
        rintro e wx ⟨rfl, rfl⟩
        go_wp2_with fail
        refine (refwith H.out hj c).mono ?_
        rintro e w1 ⟨g', cap', rfl, h1, g1⟩
        have P := Lib.hid (And.intro (h1.mono hlo) g1)
        clear h1 g1
        go_wp2_with fail
        go_ret2
        exact ⟨g', cap', rfl, P.out.1, P.out.2⟩
      · have hye : y = c := by omega
        subst hye
        clear hcond
        go_enter Try.func29, Try.ntmps29
        go_wp2_with fail
        refine (refmay_is _ _ true HOK.out _).mono ?_
        rintro e wx ⟨rfl, rfl⟩
        go_wp2_with fail
        refine (refwith H.out hj y).mono ?_
        rintro e w1 ⟨g', cap', rfl, h1, g1⟩
        have P := Lib.hid (And.intro (h1.mono hlo) g1)
        clear h1 g1
        go_wp2_with fail
        go_ret2
        exact ⟨g', cap', rfl, P.out.1, P.out.2⟩
  · have hok' : okB i c = false := by simpa using hok
    have hE : er = 1 := by rw [← her, lockE, if_neg hok]
    have hT : t' = t := by rw [← ht', lockT, if_neg (fun e => hok e.1)]
    subst hE hT
    have HOK := Lib.hid hok'
    clear her hok hok' h
    go_enter Try.func29, Try.ntmps29
    go_wp2_with fail
    refine (refmay_is _ _ false HOK.out _).mono ?_
    rintro e wx ⟨rfl, rfl⟩
    go_wp2_with fail
    go_ret2
    exact ⟨g, cap, rfl, H.out, grown_same _ _⟩

set_option maxHeartbeats 400000 in
theorem refunlock {w : World} {lo g cap : Nat} {t : List Int} (h : IsRef w lo g cap t) (hlo : lo ≤ w.heap.size) (i c : Int) (er : Int) (t' : List Int) (her : unlockE t i c = er) (ht' : unlockT t i c = t') :
    Calls Try.prog 31 #[.slice (some ⟨g, 0, none⟩) 4 cap, .int .i64 i, .int .i64 c] w fun e w' =>
      ∃ g' cap', e = .returned (.tuple #[.slice (some ⟨g', 0, none⟩) 4 cap', .int .i64 er]) ∧ IsRef w' lo g' cap' t' ∧ w.grownBy w' none := by
  have H := Lib.hid h
  have HZ := h.size
  by_cases hok : okB i c = true
  · have hb := okB_iff.1 hok
    obtain ⟨j, rfl⟩ := Int.eq_ofNat_of_zero_le hb.1
    have hj : j < 4 := by omega
    have hc0 : 0 ≤ c := hb.2.2.1
    have hcell := h.cell hj
    have hh := hold_nth (t := t) hj
    have HOK := Lib.hid hok
    clear h hok
    generalize hy : nth t j = y at *
    have HY := Lib.hid hy
    clear hy
    by_cases hcond : y = c
    · have hz : holderE t j c = 0 := by rw [holderE, hh]; exact if_pos (by omega)
      have hE : er = 0 := by rw [← her, unlockE, if_pos HOK.out, hz]
      have hT : t' = setT t j (-1) := by rw [← ht', unlockT, if_pos ⟨HOK.out, hz⟩]
      subst hE hT
      clear her hz
      subst hcond
      go_enter Try.func31, Try.ntmps31
      go_wp2_with fail
      refine (refmay_is _ _ true HOK.out _).mono ?_
      rintro e wx ⟨rfl, rfl⟩
      go_wp2_with fail
      refine (refwith H.out hj (-1)).mono ?_
      rintro e w1 ⟨g', cap', rfl, h1, g1⟩
      have P := Lib.hid (And.intro (h1.mono hlo) g1)
      clear h1 g1
      go_wp2_with fail
      go_ret2
      exact ⟨g', cap', rfl, P.out.1, P.out.2⟩
    · have hne : (y == c) = false := by simp; omega
      have hz : holderE t j c = 131 := by rw [holderE, hh]; exact if_neg (by omega)
      have hE : er = 131 := by rw [← her, unlockE, if_pos HOK.out, hz]
      have hT : t' = t := by rw [← ht', unlockT, if_neg (by rw [hz]; simp)]
      subst hE hT
      clear her hz
      go_enter Try.func31, Try.ntmps31
      go_wp2_with fail
      refine (refmay_is _ _ true HOK.out _).mono ?_
      rintro e wx ⟨rfl, rfl⟩
      go_wp2_with fail
      go_ret2
      exact ⟨g, cap, rfl, H.out, grown_same _ _⟩
  · have hok' : okB i c = false := by simpa using hok
    have hE : er = 1 := by rw [← her, unlockE, if_neg hok]
    have hT : t' = t := by rw [← ht', unlockT, if_neg (fun e => hok e.1)]
    subst hE hT
    have HOK := Lib.hid hok'
    clear her hok hok' h
    go_enter Try.func31, Try.ntmps31
    go_wp2_with fail
    refine (refmay_is _ _ false HOK.out _).mono ?_
    rintro e wx ⟨rfl, rfl⟩
    go_wp2_with fail
    go_ret2
    exact ⟨g, cap, rfl, H.out, grown_same _ _⟩

set_option maxHeartbeats 400000 in
theorem refowner {w : World} {lo g cap : Nat} {t : List Int} (h : IsRef w lo g cap t) (x o : Int) (b : Bool) (ho : heldBy t x = o) (hb : decide (0 ≤ hold t x) = b) :
    Calls Try.prog 34 #[.slice (some ⟨g, 0, none⟩) 4 cap, .int .i64 x] w fun e w' => e = .returned (.tuple #[.int .i64 o, .bool b]) ∧ w = w' := by
  have HZ := h.size
  by_cases h0 : x < 0
  · have hx : hold t x = -1 := by rw [hold, if_neg (by omega)]
    have hO : o = 0 := by rw [← ho, heldBy, hx]; rfl
    have hB : b = false := by rw [← hb, hx]; rfl
    subst hO hB
    clear ho hb hx h
    go_enter Try.func34, Try.ntmps34
    go_wp2
    go_ret2
    exact ⟨rfl, rfl⟩
  · by_cases h4 : 4 ≤ x
    · have hx : hold t x = -1 := by rw [hold, if_neg (by omega)]
      have hO : o = 0 := by rw [← ho, heldBy, hx]; rfl
      have hB : b = false := by rw [← hb, hx]; rfl
      subst hO hB
      clear ho hb hx h
      go_enter Try.func34, Try.ntmps34
      go_wp2
      go_ret2
      exact ⟨rfl, rfl⟩
    · obtain ⟨j, rfl⟩ := Int.eq_ofNat_of_zero_le (show 0 ≤ x by omega)
      have hj : j < 4 := by omega
      have hcell := h.cell hj
      have hh := hold_nth (t := t) hj
      clear h h0 h4
      generalize nth t j = y at *
      by_cases hy : y < 0
      · have hO : o = 0 := by rw [← ho, heldBy, hh, if_neg (by omega)]
        have hB : b = false := by rw [← hb, hh]; simp; omega
        subst hO hB
        clear ho hb hh
        go_enter Try.func34, Try.ntmps34
        go_wp2
        go_ret2
        exact ⟨rfl, rfl⟩
      · have hO : o = y := by rw [← ho, heldBy, hh, if_pos (by omega)]
        have hB : b = true := by rw [← hb, hh]; simp; omega
        subst hO hB
        clear ho hb hh
        go_enter Try.func34, Try.ntmps34
        go_wp2
        go_ret2
        exact ⟨rfl, rfl⟩

theorem holdsB_nth {t : List Int} {j : Nat} (hj : j < 4) (c : Int) : holdsB t j c = (decide (0 ≤ nth t j) && decide (nth t j = c)) := by
  unfold holdsB heldBy
  rw [hold_nth hj]
  by_cases h : 0 ≤ nth t j <;> simp [h]
  by_cases e : nth t j = c <;> simp [e]

set_option maxHeartbeats 400000 in
theorem refof {w : World} {lo g cap : Nat} {t : List Int} (h : IsRef w lo g cap t) (c : Int) : Calls Try.prog 38 #[.slice (some ⟨g, 0, none⟩) 4 cap, .int .i64 c] w fun e w' =>
    ∃ v, e = .returned v ∧ Ints w' w.heap.size v (ofL t c 4) ∧ w.grownBy w' none := by
  obtain ⟨i0, hi, hz0, hz1, hz2⟩ := info_parts Try.info3
  have HZ := h.size
  have H := Lib.hid h
  clear h
  go_enter Try.func38, Try.ntmps38
  go_wp2_with fail
  go_loopw [5, 6] (fun v i wr => ∃ k : Nat, k ≤ 4 ∧ i = .int .i64 k ∧ Ints wr w.heap.size v (ofL t c k) ∧ w.grownBy wr none ∧ IsRef wr 0 g cap t) (fun _ i _ => 4 - (intOf i).toNat)
  case atStart => exact ⟨0, by omega, rfl, Ints.nil _ _, grown_same _ _, H.out.mono (Nat.zero_le _)⟩
  case round =>
    obtain ⟨k, hk, rfl, hv, hg, hr⟩ := hrel
    have HV := Lib.hid hv
    have HG := Lib.hid hg
    have HR := Lib.hid hr
    have hs := hg.size
    have hl := ofL_len t c k
    clear hv hg
    by_cases hlt : k < 4
    · have hcell := hr.cell hlt
      have hsu := ofL_succ t c k
      rw [holdsB_nth hlt] at hsu
      clear hr
      generalize nth t k = y at *
      by_cases hyc : y = c
      · by_cases hc0 : 0 ≤ c
        · rw [if_pos (by simp; omega)] at hsu
          have HSU := Lib.hid hsu
          clear hsu
          have heq : (y == c) = true := by simp [hyc]
          generalize ofL t c k = L at *
          go_wp2_with (first
            | (at_builtin; refine wpList_append_own _ rfl (.tmp 21) (.tmp 23) 22 rfl w.heap.size 3 i0 (.int .i64 0) 1 8 Try.underlying22 hi hz0 hz1 hz2 rfl (by decide) _ _ _ rfl (HV.out.alloc _) ⟨wr.heap.size, 0, none⟩ 1 1 [.int .i64 k] rfl rfl ?c1 ?c2 ?c3 ?c4 ?c5 ?_))
          case c1 => exact cell_one_new _ _ _
          case c2 => simp [Value.oneCell']
          case c3 => unfold maxLen; omega
          case c4 => omega
          case c5 => simp; omega
          intro v2 w2 hown2 hg2 _
          have P2 := Lib.hid (And.intro (Ints.snoc rfl hown2) (grown_append HG.out hg2 (fun q hq => (HV.out.lt q hq).1)))
          clear hown2 hg2
          go_wp2_with fail
          go_roundw
          case rel => exact ⟨k + 1, by omega, by go_num, by rw [HSU.out]; exact P2.out.1, P2.out.2, (H.out.kept P2.out.2 (by simp)).mono (Nat.zero_le _)⟩
          case measure => simp [intOf]; omega
        · rw [if_neg (by simp; omega)] at hsu
          have HSU := Lib.hid hsu
          clear hsu
          have heq : (y == c) = true := by simp [hyc]
          go_wp2_with fail
          go_roundw
          case rel => exact ⟨k + 1, by omega, by go_num, HSU.out.symm ▸ HV.out, HG.out, HR.out⟩
          case measure => simp [intOf]; omega
      · rw [if_neg (by simp [hyc])] at hsu
        have HSU := Lib.hid hsu
        clear hsu
        have heq : (y == c) = false := by simp [hyc]
        go_wp2_with fail
        go_roundw
        case rel => exact ⟨k + 1, by omega, by go_num, HSU.out.symm ▸ HV.out, HG.out, HR.out⟩
        case measure => simp [intOf]; omega
    · have h4 : k = 4 := by omega
      have HV4 := Lib.hid (h4 ▸ HV.out)
      clear h4 hr
      go_wp2_with fail
      go_ret
      exact ⟨_, rfl, HV4.out, HG.out⟩

/-- What a round of a comparison rests on. -/
structure Same (w : World) (g g' k : Nat) (x : Int) (wr : World) : Prop where
  a : wr.cell? ⟨g, k, none⟩ = some (.int .i64 x)
  b : wr.cell? ⟨g', k, none⟩ = some (.int .i64 x)
  grown : w.grownBy wr none

set_option maxHeartbeats 1000000 in
theorem ints_same {w : World} {lo lo' : Nat} {v v' : Value} {l : List Int} (h : Ints w lo v l) (h' : Ints w lo' v' l) : Calls Try.prog 36 #[v, v'] w fun e w' => e = .returned (.bool true) ∧ w.grownBy w' none := by
  rcases h.cases with ⟨rfl, rfl⟩ | ⟨g, cap, rfl, _, hgl, hn, hm, hc, _⟩
  · rcases h'.cases with ⟨rfl, _⟩ | ⟨g', cap', rfl, _, hgl', hn', hm', hc', _⟩
    · clear h h'
      go_enter Try.func36, Try.ntmps36
      go_wp2_with fail
      go_loop [5] (fun i => i = .int .i64 0) (fun _ => 0)
      case atStart => rfl
      case round =>
        obtain rfl := hrel
        go_wp2_with fail
        go_ret
        exact ⟨rfl, grown_same _ _⟩
    · clear h h' hc'
      unfold maxLen at hm'
      go_enter Try.func36, Try.ntmps36
      go_wp2_with fail
      go_loop [5] (fun i => i = .int .i64 0) (fun _ => 0)
      case atStart => rfl
      case round =>
        obtain rfl := hrel
        go_wp2_with fail
        go_ret
        exact ⟨rfl, grown_same _ _⟩
  · rcases h'.cases with ⟨rfl, rfl⟩ | ⟨g', cap', rfl, _, hgl', hn', hm', hc', _⟩
    · clear h h' hc
      unfold maxLen at hm
      go_enter Try.func36, Try.ntmps36
      go_wp2_with fail
      go_loop [5] (fun i => i = .int .i64 0) (fun _ => 0)
      case atStart => rfl
      case round =>
        obtain rfl := hrel
        go_wp2_with fail
        go_ret
        exact ⟨rfl, grown_same _ _⟩
    · have HA : Hid (∀ k, k < l.length → ∀ wr : World, w.grownBy wr none → Same w g g' k (nth l k) wr) := Lib.hid fun k hk wr hg =>
        ⟨by rw [((Below.refl w.heap.size w).grown hg (Nat.le_refl _) nofun).cell (p := ⟨g, k, none⟩) hgl]; exact hc k hk, by rw [((Below.refl w.heap.size w).grown hg (Nat.le_refl _) nofun).cell (p := ⟨g', k, none⟩) hgl']; exact hc' k hk, hg⟩
      clear h h' hc hc'
      unfold maxLen at hm hm'
      go_enter Try.func36, Try.ntmps36
      go_wp2_with fail
      go_loopw [5] (fun i wr => ∃ k : Nat, k ≤ l.length ∧ i = .int .i64 k ∧ w.grownBy wr none) (fun i _ => l.length - (intOf i).toNat)
      case atStart => exact ⟨0, Nat.zero_le _, rfl, grown_same _ _⟩
      case round =>
        obtain ⟨k, hk, rfl, hg⟩ := hrel
        have HG := Lib.hid hg
        clear hg
        by_cases hlt : k < l.length
        · have hS0 : Same w g g' k (nth l k) wr.drew := HA.out k hlt _ (grown_chain HG.out (grown_drew wr none))
          generalize nth l k = y at *
          go_wp2_with fail
          refine held_begin (Same w g g' k y) (by kernel_rfl) hS0 ?_
          refine held_take 0 ?_ rfl (by kernel_rfl) (by kernel_rfl) (by kernel_rfl) (fun _ _ _ h => h) (by rfl) ?_ hS0 ?_
          rotate_left
          · intro wS hSw; go_simp <;> with_reducible rfl
          simp only [Act.put, List.setIfInBounds_toArray, List.set_cons_zero, List.set_cons_succ]
          refine held_take 1 ?_ rfl (by kernel_rfl) (by kernel_rfl) (by kernel_rfl) (fun _ _ _ h => h) (by rfl) ?_ hS0 ?_
          rotate_left
          · intro wS hSw; go_simp <;> with_reducible rfl
          simp only [Act.put, List.setIfInBounds_toArray, List.set_cons_zero, List.set_cons_succ]
          refine held_take 2 ?_ rfl (by kernel_rfl) (by kernel_rfl) (by kernel_rfl) (fun _ _ _ h => h) (by rfl) ?_ hS0 ?_
          rotate_left
          · intro wS hSw; go_simp <;> with_reducible rfl
          simp only [Act.put, List.setIfInBounds_toArray, List.set_cons_zero, List.set_cons_succ]
          refine held_take 3 ?_ rfl (by kernel_rfl) (by kernel_rfl) (by kernel_rfl) (fun _ _ _ h => h) (by rfl) ?_ hS0 ?_
          rotate_left
          · intro wS hSw; (have cS := hSw.a; go_simp) <;> with_reducible rfl
          simp only [Act.put, List.setIfInBounds_toArray, List.set_cons_zero, List.set_cons_succ]
          refine held_take 4 ?_ rfl (by kernel_rfl) (by kernel_rfl) (by kernel_rfl) (fun _ _ _ h => h) (by rfl) ?_ hS0 ?_
          rotate_left
          · intro wS hSw; go_simp <;> with_reducible rfl
          simp only [Act.put, List.setIfInBounds_toArray, List.set_cons_zero, List.set_cons_succ]
          refine held_take 5 ?_ rfl (by kernel_rfl) (by kernel_rfl) (by kernel_rfl) (fun _ _ _ h => h) (by rfl) ?_ hS0 ?_
          rotate_left
          · intro wS hSw; go_simp <;> with_reducible rfl
          simp only [Act.put, List.setIfInBounds_toArray, List.set_cons_zero, List.set_cons_succ]
          refine held_take 6 ?_ rfl (by kernel_rfl) (by kernel_rfl) (by kernel_rfl) (fun _ _ _ h => h) (by rfl) ?_ hS0 ?_
          rotate_left
          · intro wS hSw; go_simp <;> with_reducible rfl
          simp only [Act.put, List.setIfInBounds_toArray, List.set_cons_zero, List.set_cons_succ]
          refine held_take 7 ?_ rfl (by kernel_rfl) (by kernel_rfl) (by kernel_rfl) (fun _ _ _ h => h) (by rfl) ?_ hS0 ?_
          rotate_left
          · intro wS hSw; (have cS := hSw.b; go_simp) <;> with_reducible rfl
          simp only [Act.put, List.setIfInBounds_toArray, List.set_cons_zero, List.set_cons_succ]
          refine held_take 8 ?_ rfl (by kernel_rfl) (by kernel_rfl) (by kernel_rfl) (fun _ _ _ h => h) (by rfl) ?_ hS0 ?_
          rotate_left
          · intro wS hSw; go_simp <;> with_reducible rfl
          simp only [Act.put, List.setIfInBounds_toArray, List.set_cons_zero, List.set_cons_succ]
          refine wpAnyH_done (by kernel_rfl) ?_ _
          refine NoPanic.normal ?_
          go_wp2_with fail
          go_roundw
          case rel => exact ⟨k + 1, by omega, by go_num, hS0.grown⟩
          case measure => simp [intOf]; omega
        · go_wp2_with fail
          go_ret
          exact ⟨rfl, HG.out⟩

end Go.Proofs.Ytakdmnamohdpaaa
