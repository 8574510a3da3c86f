/- Lock, Unlock, Break, Holds and Of, walked. -/
import Derived.Test.YtakdmnamohdpaaaTab
import Derived.Test.YtakdmnamohdpaaaRow
namespace Go.Proofs.Ytakdmnamohdpaaa
open Go.RowKit Go.Maps

/-- What Lock answers, and what it leaves. -/
def lockE (t : List Int) (i c : Int) : Int := if okB i c = true then busyE t i c else 1
def lockT (t : List Int) (i c : Int) : List Int := if okB i c = true ∧ busyE t i c = 0 then setT t i c else t
/-- What Unlock answers, and what it leaves. -/
def unlockE (t : List Int) (i c : Int) : Int := if okB i c = true then holderE t i c else 1
def unlockT (t : List Int) (i c : Int) : List Int := if okB i c = true ∧ holderE t i c = 0 then setT t i (-1) else t

theorem okB_iff {i c : Int} : okB i c = true ↔ 0 ≤ i ∧ i < 4 ∧ 0 ≤ c ∧ c < 8 := by simp [okB]

theorem wf_small {c : Int} (h : 0 ≤ c ∧ c < 8) : (Lit.int .i64 c).wf = true := WalkArith.wf_i64 (by omega)

theorem Reads.put {D : DataW Unit} {t : List Int} {w : World} {mb n : Nat} (h : Reads D t) (hD : w.ownsMap Try.prog 3 (plainElem Try.prog 3) mb n D) (g : GoodT t) {i c : Int} (hi : 0 ≤ i ∧ i < 4) (hc : 0 ≤ c ∧ c < 8) :
    Reads (D.put (.int .i64 i) (.lit (.int .i64 c))) (setT t i c) := by
  intro x hx
  have hm := hD.isMap
  have hs := hold_set g hi c x
  by_cases e : x = i
  · subst e
    rw [if_pos rfl] at hs
    refine ⟨?_, ?_⟩
    · rw [has_put_same hm (by trivial), hs]; simp; omega
    · rw [atKey_put_same hm (by trivial)]
      unfold heldBy
      rw [hs, if_pos (by omega)]
  · rw [if_neg e] at hs
    have hne : (Lit.int .i64 x) ≠ (Lit.int .i64 i) := fun h => e (by injection h)
    obtain ⟨h1, h2⟩ := h x hx
    refine ⟨?_, ?_⟩
    · rw [has_put_other hne, h1, hs]
    · rw [atKey_put_other hne, h2]
      unfold heldBy
      rw [hs]

theorem Reads.del {D : DataW Unit} {t : List Int} (h : Reads D t) (g : GoodT t) {i : Int} (hi : 0 ≤ i ∧ i < 4) :
    Reads (D.del (.int .i64 i)) (setT t i (-1)) := by
  intro x hx
  have hs := hold_set g hi (-1) x
  by_cases e : x = i
  · subst e
    rw [if_pos rfl] at hs
    refine ⟨?_, ?_⟩
    · rw [has_del_same, hs]; rfl
    · rw [atKey_del_same]
      unfold heldBy
      rw [hs]
      rfl
  · rw [if_neg e] at hs
    have hne : (Lit.int .i64 x) ≠ (Lit.int .i64 i) := fun h => e (by injection h)
    obtain ⟨h1, h2⟩ := h x hx
    refine ⟨?_, ?_⟩
    · rw [has_del_other hne, h1, hs]
    · rw [atKey_del_other hne, h2]
      unfold heldBy
      rw [hs]

theorem lock_nil (i c : Int) (w : World) : Calls Try.prog 28 #[.pointer none, .int .i64 i, .int .i64 c] w fun e w' => e = .returned (.int .i64 1) ∧ Below w.heap.size w w' := by
  have hb := (Below.refl w.heap.size w).alloc (Nat.le_refl _) (.cells #[.int .i64 i, .int .i64 c] 71)
  have B := Lib.hid hb
  clear hb
  go_enter Try.func28, Try.ntmps28
  go_wp2_with fail
  refine (may_nil i c _ _).mono ?_
  rintro e w1 ⟨rfl, b1⟩
  have B1 := Lib.hid (B.out.trans (b1.mono B.out.size))
  clear b1
  go_wp2_with fail
  go_ret
  exact ⟨rfl, B1.out⟩

theorem unlock_nil (i c : Int) (w : World) : Calls Try.prog 30 #[.pointer none, .int .i64 i, .int .i64 c] w fun e w' => e = .returned (.int .i64 1) ∧ Below w.heap.size w w' := by
  have hb := (Below.refl w.heap.size w).alloc (Nat.le_refl _) (.cells #[.int .i64 i, .int .i64 c] 71)
  have B := Lib.hid hb
  clear hb
  go_enter Try.func30, Try.ntmps30
  go_wp2_with fail
  refine (may_nil i c _ _).mono ?_
  rintro e w1 ⟨rfl, b1⟩
  have B1 := Lib.hid (B.out.trans (b1.mono B.out.size))
  clear b1
  go_wp2_with fail
  go_ret
  exact ⟨rfl, B1.out⟩

theorem lock_bad (tb : Nat) (i c : Int) (w : World) (h : okB i c = false) : Calls Try.prog 28 #[.pointer (some ⟨tb, 0, none⟩), .int .i64 i, .int .i64 c] w fun e w' => e = .returned (.int .i64 1) ∧ Below w.heap.size w w' := by
  have hb := (Below.refl w.heap.size w).alloc (Nat.le_refl _) (.cells #[.int .i64 i, .int .i64 c] 71)
  have B := Lib.hid hb
  have H := Lib.hid h
  clear hb h
  go_enter Try.func28, Try.ntmps28
  go_wp2_with fail
  refine (may_bad tb i c _ _ H.out).mono ?_
  rintro e w1 ⟨rfl, b1⟩
  have B1 := Lib.hid (B.out.trans (b1.mono B.out.size))
  clear b1
  go_wp2_with fail
  go_ret
  exact ⟨rfl, B1.out⟩

theorem unlock_bad (tb : Nat) (i c : Int) (w : World) (h : okB i c = false) : Calls Try.prog 30 #[.pointer (some ⟨tb, 0, none⟩), .int .i64 i, .int .i64 c] w fun e w' => e = .returned (.int .i64 1) ∧ Below w.heap.size w w' := by
  have hb := (Below.refl w.heap.size w).alloc (Nat.le_refl _) (.cells #[.int .i64 i, .int .i64 c] 71)
  have B := Lib.hid hb
  have H := Lib.hid h
  clear hb h
  go_enter Try.func30, Try.ntmps30
  go_wp2_with fail
  refine (may_bad tb i c _ _ H.out).mono ?_
  rintro e w1 ⟨rfl, b1⟩
  have B1 := Lib.hid (B.out.trans (b1.mono B.out.size))
  clear b1
  go_wp2_with fail
  go_ret
  exact ⟨rfl, B1.out⟩

set_option maxHeartbeats 400000 in
theorem lock_ok {w : World} {tb mb n : Nat} {t : List Int} (h : IsTab w tb mb n t) (hn : n < 1000) {i c : Int} (hok : okB i c = true) :
    Calls Try.prog 28 #[.pointer (some ⟨tb, 0, none⟩), .int .i64 i, .int .i64 c] w fun e w' => e = .returned (.int .i64 (busyE t i c)) ∧ IsTab w' tb mb (n + 1) (if busyE t i c = 0 then setT t i c else t) ∧ w.grownBy w' (some mb) := by
  have hr := okB_iff.1 hok
  have hi : (Lit.int .i64 i).wf = true := WalkArith.wf_i64 (by omega)
  have hc : (Lit.int .i64 c).wf = true := WalkArith.wf_i64 (by omega)
  have Hi := Lib.hid hi
  have Hc := Lib.hid hc
  have Hr := Lib.hid hr
  have hb := (Below.refl w.heap.size w).alloc (Nat.le_refl _) (.cells #[.int .i64 i, .int .i64 c] 71)
  have B := Lib.hid hb
  have H := Lib.hid h
  have Hok := Lib.hid hok
  have h1 := h.alloc (.cells #[.int .i64 i, .int .i64 c] 71)
  have H1 := Lib.hid h1
  have hne := h.ne
  have hmb := h.ltm
  clear hb h hok h1 hi hc hr
  obtain ⟨er, her⟩ : ∃ er, busyE t i c = er := ⟨_, rfl⟩
  have Her := Lib.hid her
  rw [her]
  clear her
  go_enter Try.func28, Try.ntmps28
  go_wp2_with fail
  refine (may_taker H1.out Hi.out c Hok.out).mono ?_
  rintro e w1 ⟨rfl, b1⟩
  have B1 := Lib.hid (B.out.trans (b1.mono B.out.size))
  have P1 := Lib.hid (H.out.grown (below_grown B1.out) (by simp) (by simp))
  have hs1 := B1.out.size
  clear b1
  rw [Her.out]
  by_cases hz : er = 0
  · subst hz
    obtain ⟨D, hD, hR⟩ := P1.out.map
    have HD := Lib.hid hD
    have HR := Lib.hid hR
    have hc1 := P1.out.at
    clear hD hR
    have hki := keyOf_int_mk Try.underlying3 Hi.out
    have HKI := Lib.hid hki
    clear hki
    go_wp2_with (at_mapUpdate; refine wpList_mapUpdate_in _ rfl _ _ _ 67 rfl 3 3 tab_law Try.underlying67 (plainElem Try.prog 3) mb n D rfl HD.out (by unfold maxLen; omega) _ _ _ rfl rfl HKI.out _ [] (plainElem_int Try.underlying3 Hc.out) ?_)
    intro w2 hown hturn
    have hg := below_grown B1.out
    have hg2 := grown_chain (grown_some hg mb) hturn.grown
    have hT : IsTab w2 tb mb (n + 1) (setT t i c) := ⟨(hturn.grown.block tb P1.out.lt (by simp; omega)).trans P1.out.cell, ⟨_, hown, HR.out.put HD.out P1.out.good ⟨Hr.out.1, Hr.out.2.1⟩ ⟨Hr.out.2.2.1, Hr.out.2.2.2⟩⟩, P1.out.good.set ⟨Hr.out.1, Hr.out.2.1⟩ (by have := Hr.out; omega)⟩
    have HT := Lib.hid (And.intro hT hg2)
    clear hg hg2 hT hown hturn hc1
    go_wp2_with fail
    go_ret
    exact ⟨rfl, HT.out.1, HT.out.2⟩
  · have hz' : (er == 0) = false := by simpa using hz
    have Hz := Lib.hid hz
    clear hz
    go_wp2_with fail
    go_ret
    exact ⟨rfl, P1.out.mono (by omega), grown_some (below_grown B1.out) mb⟩

set_option maxHeartbeats 400000 in
theorem unlock_ok {w : World} {tb mb n : Nat} {t : List Int} (h : IsTab w tb mb n t) (_hn : n < 1000) {i c : Int} (hok : okB i c = true) :
    Calls Try.prog 30 #[.pointer (some ⟨tb, 0, none⟩), .int .i64 i, .int .i64 c] w fun e w' => e = .returned (.int .i64 (holderE t i c)) ∧ IsTab w' tb mb n (if holderE t i c = 0 then setT t i (-1) else t) ∧ w.grownBy w' (some mb) := by
  have hr := okB_iff.1 hok
  have hi : (Lit.int .i64 i).wf = true := WalkArith.wf_i64 (by omega)
  have hc : (Lit.int .i64 c).wf = true := WalkArith.wf_i64 (by omega)
  have Hi := Lib.hid hi
  have Hc := Lib.hid hc
  have Hr := Lib.hid hr
  have hb := (Below.refl w.heap.size w).alloc (Nat.le_refl _) (.cells #[.int .i64 i, .int .i64 c] 71)
  have B := Lib.hid hb
  have H := Lib.hid h
  have Hok := Lib.hid hok
  have h1 := h.alloc (.cells #[.int .i64 i, .int .i64 c] 71)
  have H1 := Lib.hid h1
  have hne := h.ne
  have hmb := h.ltm
  clear hb h hok h1 hi hc hr
  obtain ⟨er, her⟩ : ∃ er, holderE t i c = er := ⟨_, rfl⟩
  have Her := Lib.hid her
  rw [her]
  clear her
  go_enter Try.func30, Try.ntmps30
  go_wp2_with fail
  refine (may_giver H1.out Hi.out c Hok.out).mono ?_
  rintro e w1 ⟨rfl, b1⟩
  have B1 := Lib.hid (B.out.trans (b1.mono B.out.size))
  have P1 := Lib.hid (H.out.grown (below_grown B1.out) (by simp) (by simp))
  have hs1 := B1.out.size
  clear b1
  rw [Her.out]
  by_cases hz : er = 0
  · subst hz
    obtain ⟨D, hD, hR⟩ := P1.out.map
    have HD := Lib.hid hD
    have HR := Lib.hid hR
    have hc1 := P1.out.at
    clear hD hR
    have hki := keyOf_int_mk Try.underlying3 Hi.out
    have HKI := Lib.hid hki
    clear hki
    go_wp2_with (at_delete; refine wpList_delete_own _ rfl _ _ 67 3 rfl 3 tab_law Try.underlying67 (plainElem Try.prog 3) mb n D rfl HD.out _ _ rfl HKI.out ?_)
    intro w2 hown hturn
    have hg := below_grown B1.out
    have hg2 := grown_chain (grown_some hg mb) hturn.grown
    have hT : IsTab w2 tb mb n (setT t i (-1)) := ⟨(hturn.grown.block tb P1.out.lt (by simp; omega)).trans P1.out.cell, ⟨_, hown, HR.out.del P1.out.good ⟨Hr.out.1, Hr.out.2.1⟩⟩, P1.out.good.set ⟨Hr.out.1, Hr.out.2.1⟩ (by have := Hr.out; omega)⟩
    have HT := Lib.hid (And.intro hT hg2)
    clear hg hg2 hT hown hturn hc1
    go_wp2_with fail
    go_ret
    exact ⟨rfl, HT.out.1, HT.out.2⟩
  · have hz' : (er == 0) = false := by simpa using hz
    have Hz := Lib.hid hz
    clear hz
    go_wp2_with fail
    go_ret
    exact ⟨rfl, P1.out.mono (by omega), grown_some (below_grown B1.out) mb⟩


theorem busy_of {t : List Int} {i c : Int} (h : okB i c = true) : lockE t i c = busyE t i c := if_pos h
theorem lock_any {w : World} {tb mb n : Nat} {t : List Int} (h : IsTab w tb mb n t) (hn : n < 1000) (i c : Int) :
    Calls Try.prog 28 #[.pointer (some ⟨tb, 0, none⟩), .int .i64 i, .int .i64 c] w fun e w' => e = .returned (.int .i64 (lockE t i c)) ∧ IsTab w' tb mb (n + 1) (lockT t i c) ∧ w.grownBy w' (some mb) := by
  cases hok : okB i c
  · refine (lock_bad tb i c w hok).mono fun e w' ⟨he, hb⟩ => ⟨?_, ?_, grown_some (below_grown hb) mb⟩
    · rw [he, lockE, hok]; rfl
    · rw [lockT, hok, if_neg (by simp)]; exact (h.grown (below_grown hb) (by simp) (by simp)).mono (by omega)
  · refine (lock_ok h hn hok).mono fun e w' ⟨he, hT, hg⟩ => ⟨?_, ?_, hg⟩
    · rw [he, lockE, if_pos hok]
    · rw [lockT, hok]; simpa using hT

theorem unlock_any {w : World} {tb mb n : Nat} {t : List Int} (h : IsTab w tb mb n t) (hn : n < 1000) (i c : Int) :
    Calls Try.prog 30 #[.pointer (some ⟨tb, 0, none⟩), .int .i64 i, .int .i64 c] w fun e w' => e = .returned (.int .i64 (unlockE t i c)) ∧ IsTab w' tb mb n (unlockT t i c) ∧ w.grownBy w' (some mb) := by
  cases hok : okB i c
  · refine (unlock_bad tb i c w hok).mono fun e w' ⟨he, hb⟩ => ⟨?_, ?_, grown_some (below_grown hb) mb⟩
    · rw [he, unlockE, hok]; rfl
    · rw [unlockT, hok, if_neg (by simp)]; exact h.grown (below_grown hb) (by simp) (by simp)
  · refine (unlock_ok h hn hok).mono fun e w' ⟨he, hT, hg⟩ => ⟨?_, ?_, hg⟩
    · rw [he, unlockE, if_pos hok]
    · rw [unlockT, hok]; simpa using hT

/-- Break is Unlock. -/
theorem break_of {p : Value} {i c er : Int} {w : World} {R : World → Prop} (h : Calls Try.prog 30 #[p, .int .i64 i, .int .i64 c] w fun e w' => e = .returned (.int .i64 er) ∧ R w') :
    Calls Try.prog 32 #[p, .int .i64 i, .int .i64 c] w fun e w' => e = .returned (.int .i64 er) ∧ R w' := by
  have H := Lib.hid h
  clear h
  go_enter Try.func32, Try.ntmps32
  go_wp2_with fail
  refine (H.out).mono ?_
  rintro e w1 ⟨rfl, h1⟩
  have H1 := Lib.hid h1
  clear h1
  go_wp2_with fail
  go_ret
  exact ⟨rfl, H1.out⟩

theorem break_any {w : World} {tb mb n : Nat} {t : List Int} (h : IsTab w tb mb n t) (hn : n < 1000) (i c : Int) :
    Calls Try.prog 32 #[.pointer (some ⟨tb, 0, none⟩), .int .i64 i, .int .i64 c] w fun e w' => e = .returned (.int .i64 (unlockE t i c)) ∧ IsTab w' tb mb n (unlockT t i c) ∧ w.grownBy w' (some mb) :=
  break_of (unlock_any h hn i c)
theorem break_nil (i c : Int) (w : World) : Calls Try.prog 32 #[.pointer none, .int .i64 i, .int .i64 c] w fun e w' => e = .returned (.int .i64 1) ∧ Below w.heap.size w w' := break_of (unlock_nil i c w)

/-- Does somebody hold it? -/
def holdsB (t : List Int) (i c : Int) : Bool := decide (0 ≤ hold t i) && (heldBy t i == c)

theorem holds_nil (i c : Int) (w : World) : Calls Try.prog 35 #[.pointer none, .int .i64 i, .int .i64 c] w fun e w' => e = .returned (.bool false) ∧ w = w' := by
  go_enter Try.func35, Try.ntmps35
  go_wp2_with fail
  refine (owner_nil i _).mono ?_
  rintro e w1 ⟨rfl, rfl⟩
  go_wp2_with fail
  go_ret
  exact ⟨rfl, rfl⟩

theorem holds_tab {w : World} {tb mb n : Nat} {t : List Int} (h : IsTab w tb mb n t) {i : Int} (hi : (Lit.int .i64 i).wf = true) (c : Int) :
    Calls Try.prog 35 #[.pointer (some ⟨tb, 0, none⟩), .int .i64 i, .int .i64 c] w fun e w' => e = .returned (.bool (holdsB t i c)) ∧ w = w' := by
  have H := Lib.hid (owner_tab h hi)
  obtain ⟨o, bo, ho, hbo⟩ : ∃ (o : Int) (bo : Bool), heldBy t i = o ∧ decide (0 ≤ hold t i) = bo := ⟨_, _, rfl, rfl⟩
  have he : holdsB t i c = (bo && (o == c)) := by rw [holdsB, ho, hbo]
  rw [he]
  have Ho := Lib.hid ho
  have Hb := Lib.hid hbo
  clear he ho hbo h
  go_enter Try.func35, Try.ntmps35
  go_wp2_with fail
  refine (H.out).mono ?_
  rintro e w1 ⟨rfl, rfl⟩
  rw [Ho.out, Hb.out]
  cases bo
  · go_wp2_with fail
    go_ret
    exact ⟨rfl, rfl⟩
  · go_wp2_with fail
    go_ret
    exact ⟨by simp, rfl⟩

end Go.Proofs.Ytakdmnamohdpaaa
