/- The lock's table, walked: what each of its methods hands back and what becomes of it. -/
import Derived.Test.YtakdmnamohdpaaaHold
import Derived.Test.YtakdmnamohdpaaaProg
import Derived.Test.YtakdmnamohdpaaaReg
import Derived.Maps.OwnSet
import Derived.WalkKit
import Derived.WalkSpells
import Derived.WalkLawsBesides
import Derived.Lib.Hide
namespace Go.Proofs.Ytakdmnamohdpaaa
open Go.RowKit Go.Maps

theorem tab_law : Keyed Try.prog 3 := int_keyed Try.underlying3
theorem tab_zero (w : World) : (zeroValue 3).run Try.prog w = .ok (.int .i64 0) w := by kernel_rfl

/-- The map reads as the row of holders. -/
def Reads (D : DataW Unit) (t : List Int) : Prop := ∀ x : Int, (Lit.int .i64 x).wf = true → has D (.int .i64 x) = decide (0 ≤ hold t x) ∧ D.atKey (.int .i64 x) (.lit (.int .i64 0)) = .lit (.int .i64 (heldBy t x))

/-- Block tb is a table over the map of block mb: each image's lock is held as the row tells. -/
structure IsTab (w : World) (tb mb n : Nat) (t : List Int) : Prop where
  cell : w.heap[tb]? = some (.cells #[.map (some mb)] 69 (0, 0))
  map : ∃ D : DataW Unit, w.ownsMap Try.prog 3 (plainElem Try.prog 3) mb n D ∧ Reads D t
  good : GoodT t

theorem IsTab.lt {w : World} {tb mb n : Nat} {t : List Int} (h : IsTab w tb mb n t) : tb < w.heap.size := (Array.getElem?_eq_some_iff.1 h.cell).1
theorem IsTab.ltm {w : World} {tb mb n : Nat} {t : List Int} (h : IsTab w tb mb n t) : mb < w.heap.size := by
  obtain ⟨D, hD, _⟩ := h.map
  exact hD.lt
theorem IsTab.ne {w : World} {tb mb n : Nat} {t : List Int} (h : IsTab w tb mb n t) : tb ≠ mb := by
  obtain ⟨D, ⟨es, clock, hb, _⟩, _⟩ := h.map
  intro e
  have := h.cell
  rw [e, hb] at this
  cases this
theorem IsTab.at {w : World} {tb mb n : Nat} {t : List Int} (h : IsTab w tb mb n t) : w.cell? ⟨tb, 0, none⟩ = some (.map (some mb)) := by
  rw [cell_of_row _ _ _ _ _ _ h.cell]; rfl
theorem IsTab.grown {w w' : World} {tb mb n : Nat} {t : List Int} {row : Option Nat} (h : IsTab w tb mb n t) (hg : w.grownBy w' row) (h1 : some tb ≠ row) (h2 : some mb ≠ row) : IsTab w' tb mb n t := by
  obtain ⟨D, hD, hR⟩ := h.map
  exact ⟨(hg.block tb h.lt h1).trans h.cell, ⟨D, hD.kept hg h2, hR⟩, h.good⟩
theorem IsTab.drew {w : World} {tb mb n : Nat} {t : List Int} (h : IsTab w tb mb n t) : IsTab w.drew tb mb n t := ⟨h.cell, h.map, h.good⟩
theorem IsTab.alloc {w : World} {tb mb n : Nat} {t : List Int} (h : IsTab w tb mb n t) (o : Obj) : IsTab (w.alloc o) tb mb n t := h.grown (World.grownBy_alloc w o none) (by simp) (by simp)
theorem IsTab.mono {w : World} {tb mb n n' : Nat} {t : List Int} (h : IsTab w tb mb n t) (hn : n ≤ n') : IsTab w tb mb n' t := by
  obtain ⟨D, hD, hR⟩ := h.map
  exact ⟨h.cell, ⟨D, hD.mono hn, hR⟩, h.good⟩

/-- The look-up. -/
theorem IsTab.look {w : World} {tb mb n : Nat} {t : List Int} (h : IsTab w tb mb n t) {x : Int} (hx : (Lit.int .i64 x).wf = true) :
    (Instr.lookup 67 (.map (some mb)) (.int .i64 x) true).run Try.prog w = .ok (.tuple #[.int .i64 (heldBy t x), .bool (decide (0 ≤ hold t x))]) w := by
  obtain ⟨D, hD, hR⟩ := h.map
  obtain ⟨v, ps, hrun, hv⟩ := hD.look_ok (t := 67) (e := 3) tab_law Try.underlying67 (tab_zero w) (plainElem_int Try.underlying3 (by decide)) (keyOf_int_mk Try.underlying3 hx)
  obtain ⟨a, rfl, ha, _⟩ := plainElem_int_inv Try.underlying3 hv
  simp only [Prod.mk.injEq] at ha
  obtain ⟨h1, h2⟩ := hR x hx
  rw [h2] at ha
  have : heldBy t x = a := by have := ha.1; injection this with this; injection this
  rw [hrun, h1, this]

theorem new_tab (w : World) : Calls Try.prog 26 #[] w fun e w' => e = .returned (.pointer (some ⟨w.heap.size + 1, 0, none⟩)) ∧ IsTab w' (w.heap.size + 1) w.heap.size 0 noneT ∧ w.grownBy w' none := by
  have hmm := @run_makeMap Try.prog
  go_enter Try.func26, Try.ntmps26
  go_wp2
  go_ret
  refine ⟨rfl, ⟨Go.heap_alloc2_new w _ _, ⟨.map [], (World.ownsMap_made w Try.prog 3 (plainElem Try.prog 3)).alloc _, fun x _ => ?_⟩, GoodT.none⟩, ?_⟩
  · have hf : has (.map [] : DataW Unit) (.int .i64 x) = false := rfl
    refine ⟨by rw [hf, hold_none]; rfl, ?_⟩
    rw [atKey_of_not_has hf]
    unfold heldBy
    rw [hold_none]
    rfl
  · have g1 := World.grownBy_alloc w (.map #[] 0) none
    have g2 := World.grownBy_alloc (w.alloc (.map #[] 0)) (.cells #[.map (some w.heap.size)] 69) none
    exact ⟨rfl, rfl, rfl, by simp; omega, fun k hk hn => (g2.block k (by simp; omega) hn).trans (g1.block k hk hn)⟩

/-- An error of the table. -/
theorem owner_nil (x : Int) (w : World) : Calls Try.prog 33 #[.pointer none, .int .i64 x] w fun e w' => e = .returned (.tuple #[.int .i64 0, .bool false]) ∧ w = w' := by
  go_enter Try.func33, Try.ntmps33
  go_wp2
  go_ret2
  exact ⟨rfl, rfl⟩

theorem owner_tab {w : World} {tb mb n : Nat} {t : List Int} (h : IsTab w tb mb n t) {x : Int} (hx : (Lit.int .i64 x).wf = true) :
    Calls Try.prog 33 #[.pointer (some ⟨tb, 0, none⟩), .int .i64 x] w fun e w' => e = .returned (.tuple #[.int .i64 (heldBy t x), .bool (decide (0 ≤ hold t x))]) ∧ w = w' := by
  have hl := h.look hx
  have hc := h.at
  go_enter Try.func33, Try.ntmps33
  go_wp2
  go_ret2
  exact ⟨rfl, rfl⟩


/-- Is it an image, and a client? -/
theorem right_any (i c : Int) (w : World) : Calls Try.prog 43 #[.agg #[.int .i64 i, .int .i64 c]] w fun e w' => e = .returned (.bool (okB i c)) ∧ Below w.heap.size w w' := by
  have hb := (Below.refl w.heap.size w).alloc (Nat.le_refl _) (.cells #[.int .i64 i, .int .i64 c] 71)
  have B := Lib.hid hb
  clear hb
  by_cases h0 : 0 ≤ i
  · by_cases h1 : i < 4
    · by_cases h2 : 0 ≤ c
      · have e : okB i c = decide (c < 8) := by simp [okB, h0, h1, h2]
        rw [e]
        clear e
        go_enter Try.func43, Try.ntmps43
        go_wp2
        go_ret
        exact ⟨rfl, B.out⟩
      · have e : okB i c = false := by simp [okB, h2]
        rw [e]
        clear e
        go_enter Try.func43, Try.ntmps43
        go_wp2
        go_ret
        exact ⟨rfl, B.out⟩
    · have e : okB i c = false := by simp [okB, h1]
      rw [e]
      clear e
      go_enter Try.func43, Try.ntmps43
      go_wp2
      go_ret
      exact ⟨rfl, B.out⟩
  · have e : okB i c = false := by simp [okB, h0]
    rw [e]
    clear e
    go_enter Try.func43, Try.ntmps43
    go_wp2
    go_ret
    exact ⟨rfl, B.out⟩

/-- What a boxed pair and the table are, while a taker or a giver asks. -/
structure Asks (w : World) (tb mb n : Nat) (t : List Int) (g : Nat) (i c : Int) (ty : TypeId) (wr : World) : Prop where
  tab : IsTab wr tb mb n t
  box : wr.heap[g]? = some (.cells #[.int .i64 i, .int .i64 c] ty (0, 0))
  below : Below w.heap.size w wr

theorem Asks.drew {w : World} {tb mb n : Nat} {t : List Int} {g : Nat} {i c : Int} {ty : TypeId} {wr : World} (h : Asks w tb mb n t g i c ty wr) : Asks w tb mb n t g i c ty wr.drew := ⟨h.tab.drew, h.box, h.below.drew⟩
theorem Asks.c0 {w : World} {tb mb n : Nat} {t : List Int} {g : Nat} {i c : Int} {ty : TypeId} {wr : World} (h : Asks w tb mb n t g i c ty wr) : wr.cell? ⟨g, 0, none⟩ = some (.int .i64 i) := by
  rw [cell_of_row _ _ _ _ _ _ h.box]; rfl
theorem Asks.c1 {w : World} {tb mb n : Nat} {t : List Int} {g : Nat} {i c : Int} {ty : TypeId} {wr : World} (h : Asks w tb mb n t g i c ty wr) : wr.cell? ⟨g, 1, none⟩ = some (.int .i64 c) := by
  rw [cell_of_row _ _ _ _ _ _ h.box]; rfl

theorem taker_any {w : World} {tb mb n : Nat} {t : List Int} (h : IsTab w tb mb n t) {i : Int} (hi : (Lit.int .i64 i).wf = true) (c : Int) :
    Calls Try.prog 60 #[.agg #[.int .i64 i, .int .i64 c], .pointer (some ⟨tb, 0, none⟩)] w fun e w' => e = .returned (.int .i64 (busyE t i c)) ∧ Below w.heap.size w w' := by
  have hA : Asks w tb mb n t w.heap.size i c 73 (w.alloc (.cells #[.int .i64 i, .int .i64 c] 73)) := ⟨h.alloc _, Go.heap_alloc_new w _, (Below.refl _ _).alloc (Nat.le_refl _) _⟩
  have A := Lib.hid hA
  clear hA
  obtain ⟨o, bo, ho, hbo⟩ : ∃ (o : Int) (bo : Bool), heldBy t i = o ∧ decide (0 ≤ hold t i) = bo := ⟨_, _, rfl, rfl⟩
  have hE : busyE t i c = if bo = true ∧ o = c then 0 else if bo = true then 130 else 0 := by
    subst ho hbo
    unfold busyE heldBy
    by_cases h1 : 0 ≤ hold t i <;> by_cases h2 : hold t i = c <;> simp [h1, h2] <;> omega
  have hlk : ∀ wS, IsTab wS tb mb n t → (Instr.lookup 67 (.map (some mb)) (.int .i64 i) true).run Try.prog wS = .ok (.tuple #[.int .i64 o, .bool bo]) wS := fun wS hS => by
    rw [hS.look hi, ho, hbo]
  have Hlk := Lib.hid hlk
  clear hlk ho hbo h
  rw [hE]
  clear hE
  go_enter Try.func60, Try.ntmps60
  go_wp2_with fail
  refine held_begin (fun w' => Asks w tb mb n t w.heap.size i c 73 w') (by kernel_rfl) A.out.drew ?_
  have hS0 : (fun w' => Asks w tb mb n t w.heap.size i c 73 w') (w.alloc (.cells #[.int .i64 i, .int .i64 c] 73)).drew := A.out.drew
  refine held_take 0 ?_ rfl (by kernel_rfl) (by kernel_rfl) (by kernel_rfl) (fun _ _ _ h => h) (by rfl) ?_ hS0 ?_
  rotate_left
  · intro wS hSw; go_simp <;> with_reducible rfl
  simp only [Act.put, List.setIfInBounds_toArray, List.set_cons_zero, List.set_cons_succ]
  refine held_take 1 ?_ rfl (by kernel_rfl) (by kernel_rfl) (by kernel_rfl) (fun _ _ _ h => h) (by rfl) ?_ hS0 ?_
  rotate_left
  · intro wS hSw; go_simp <;> with_reducible rfl
  simp only [Act.put, List.setIfInBounds_toArray, List.set_cons_zero, List.set_cons_succ]
  refine held_take 2 ?_ rfl (by kernel_rfl) (by kernel_rfl) (by kernel_rfl) (fun _ _ _ h => h) (by rfl) ?_ hS0 ?_
  rotate_left
  · intro wS hSw; go_simp <;> with_reducible rfl
  simp only [Act.put, List.setIfInBounds_toArray, List.set_cons_zero, List.set_cons_succ]
  refine held_take 3 ?_ rfl (by kernel_rfl) (by kernel_rfl) (by kernel_rfl) (fun _ _ _ h => h) (by rfl) ?_ hS0 ?_
  rotate_left
  · intro wS hSw; (have hc := hSw.tab.at; go_simp) <;> with_reducible rfl
  simp only [Act.put, List.setIfInBounds_toArray, List.set_cons_zero, List.set_cons_succ]
  refine held_take 4 ?_ rfl (by kernel_rfl) (by kernel_rfl) (by kernel_rfl) (fun _ _ _ h => h) (by rfl) ?_ hS0 ?_
  rotate_left
  · intro wS hSw; go_simp <;> with_reducible rfl
  simp only [Act.put, List.setIfInBounds_toArray, List.set_cons_zero, List.set_cons_succ]
  refine held_take 5 ?_ rfl (by kernel_rfl) (by kernel_rfl) (by kernel_rfl) (fun _ _ _ h => h) (by rfl) ?_ hS0 ?_
  rotate_left
  · intro wS hSw; (have hc := hSw.c0; go_simp) <;> with_reducible rfl
  simp only [Act.put, List.setIfInBounds_toArray, List.set_cons_zero, List.set_cons_succ]
  refine held_take 6 ?_ rfl (by kernel_rfl) (by kernel_rfl) (by kernel_rfl) (fun _ _ _ h => h) (by rfl) ?_ hS0 ?_
  rotate_left
  · intro wS hSw; (have hc := Hlk.out wS hSw.tab; go_simp) <;> with_reducible rfl
  simp only [Act.put, List.setIfInBounds_toArray, List.set_cons_zero, List.set_cons_succ]
  refine held_take 7 ?_ rfl (by kernel_rfl) (by kernel_rfl) (by kernel_rfl) (fun _ _ _ h => h) (by rfl) ?_ hS0 ?_
  rotate_left
  · intro wS hSw; go_simp <;> with_reducible rfl
  simp only [Act.put, List.setIfInBounds_toArray, List.set_cons_zero, List.set_cons_succ]
  refine held_take 8 ?_ rfl (by kernel_rfl) (by kernel_rfl) (by kernel_rfl) (fun _ _ _ h => h) (by rfl) ?_ hS0 ?_
  rotate_left
  · intro wS hSw; go_simp <;> with_reducible rfl
  simp only [Act.put, List.setIfInBounds_toArray, List.set_cons_zero, List.set_cons_succ]
  refine held_take 9 ?_ rfl (by kernel_rfl) (by kernel_rfl) (by kernel_rfl) (fun _ _ _ h => h) (by rfl) ?_ hS0 ?_
  rotate_left
  · intro wS hSw; go_simp <;> with_reducible rfl
  simp only [Act.put, List.setIfInBounds_toArray, List.set_cons_zero, List.set_cons_succ]
  refine held_take 10 ?_ rfl (by kernel_rfl) (by kernel_rfl) (by kernel_rfl) (fun _ _ _ h => h) (by rfl) ?_ hS0 ?_
  rotate_left
  · intro wS hSw; go_simp <;> with_reducible rfl
  simp only [Act.put, List.setIfInBounds_toArray, List.set_cons_zero, List.set_cons_succ]
  refine held_take 11 ?_ rfl (by kernel_rfl) (by kernel_rfl) (by kernel_rfl) (fun _ _ _ h => h) (by rfl) ?_ hS0 ?_
  rotate_left
  · intro wS hSw; go_simp <;> with_reducible rfl
  simp only [Act.put, List.setIfInBounds_toArray, List.set_cons_zero, List.set_cons_succ]
  refine wpAnyH_done (by kernel_rfl) ?_ _
  refine NoPanic.normal ?_
  have HS := Lib.hid hS0
  have hc1 := hS0.c1
  clear hS0
  cases bo
  · go_wp2
    go_ret
    exact ⟨rfl, HS.out.below⟩
  · by_cases hoc : o = c
    · subst hoc
      go_wp2
      go_ret
      exact ⟨by simp, HS.out.below⟩
    · have hoc' : (o == c) = false := by simpa using hoc
      go_wp2
      go_ret
      exact ⟨by simp, HS.out.below⟩

theorem giver_any {w : World} {tb mb n : Nat} {t : List Int} (h : IsTab w tb mb n t) {i : Int} (hi : (Lit.int .i64 i).wf = true) (c : Int) :
    Calls Try.prog 61 #[.agg #[.int .i64 i, .int .i64 c], .pointer (some ⟨tb, 0, none⟩)] w fun e w' => e = .returned (.int .i64 (holderE t i c)) ∧ Below w.heap.size w w' := by
  have hA : Asks w tb mb n t w.heap.size i c 75 (w.alloc (.cells #[.int .i64 i, .int .i64 c] 75)) := ⟨h.alloc _, Go.heap_alloc_new w _, (Below.refl _ _).alloc (Nat.le_refl _) _⟩
  have A := Lib.hid hA
  clear hA
  obtain ⟨o, bo, ho, hbo⟩ : ∃ (o : Int) (bo : Bool), heldBy t i = o ∧ decide (0 ≤ hold t i) = bo := ⟨_, _, rfl, rfl⟩
  have hE : holderE t i c = if bo = true ∧ o = c then 0 else if bo = true then 131 else 131 := by
    subst ho hbo
    unfold holderE heldBy
    by_cases h1 : 0 ≤ hold t i <;> by_cases h2 : hold t i = c <;> simp [h1, h2] <;> omega
  have hlk : ∀ wS, IsTab wS tb mb n t → (Instr.lookup 67 (.map (some mb)) (.int .i64 i) true).run Try.prog wS = .ok (.tuple #[.int .i64 o, .bool bo]) wS := fun wS hS => by
    rw [hS.look hi, ho, hbo]
  have Hlk := Lib.hid hlk
  clear hlk ho hbo h
  rw [hE]
  clear hE
  go_enter Try.func61, Try.ntmps61
  go_wp2_with fail
  refine held_begin (fun w' => Asks w tb mb n t w.heap.size i c 75 w') (by kernel_rfl) A.out.drew ?_
  have hS0 : (fun w' => Asks w tb mb n t w.heap.size i c 75 w') (w.alloc (.cells #[.int .i64 i, .int .i64 c] 75)).drew := A.out.drew
  refine held_take 0 ?_ rfl (by kernel_rfl) (by kernel_rfl) (by kernel_rfl) (fun _ _ _ h => h) (by rfl) ?_ hS0 ?_
  rotate_left
  · intro wS hSw; go_simp <;> with_reducible rfl
  simp only [Act.put, List.setIfInBounds_toArray, List.set_cons_zero, List.set_cons_succ]
  refine held_take 1 ?_ rfl (by kernel_rfl) (by kernel_rfl) (by kernel_rfl) (fun _ _ _ h => h) (by rfl) ?_ hS0 ?_
  rotate_left
  · intro wS hSw; go_simp <;> with_reducible rfl
  simp only [Act.put, List.setIfInBounds_toArray, List.set_cons_zero, List.set_cons_succ]
  refine held_take 2 ?_ rfl (by kernel_rfl) (by kernel_rfl) (by kernel_rfl) (fun _ _ _ h => h) (by rfl) ?_ hS0 ?_
  rotate_left
  · intro wS hSw; go_simp <;> with_reducible rfl
  simp only [Act.put, List.setIfInBounds_toArray, List.set_cons_zero, List.set_cons_succ]
  refine held_take 3 ?_ rfl (by kernel_rfl) (by kernel_rfl) (by kernel_rfl) (fun _ _ _ h => h) (by rfl) ?_ hS0 ?_
  rotate_left
  · intro wS hSw; (have hc := hSw.tab.at; go_simp) <;> with_reducible rfl
  simp only [Act.put, List.setIfInBounds_toArray, List.set_cons_zero, List.set_cons_succ]
  refine held_take 4 ?_ rfl (by kernel_rfl) (by kernel_rfl) (by kernel_rfl) (fun _ _ _ h => h) (by rfl) ?_ hS0 ?_
  rotate_left
  · intro wS hSw; go_simp <;> with_reducible rfl
  simp only [Act.put, List.setIfInBounds_toArray, List.set_cons_zero, List.set_cons_succ]
  refine held_take 5 ?_ rfl (by kernel_rfl) (by kernel_rfl) (by kernel_rfl) (fun _ _ _ h => h) (by rfl) ?_ hS0 ?_
  rotate_left
  · intro wS hSw; (have hc := hSw.c0; go_simp) <;> with_reducible rfl
  simp only [Act.put, List.setIfInBounds_toArray, List.set_cons_zero, List.set_cons_succ]
  refine held_take 6 ?_ rfl (by kernel_rfl) (by kernel_rfl) (by kernel_rfl) (fun _ _ _ h => h) (by rfl) ?_ hS0 ?_
  rotate_left
  · intro wS hSw; (have hc := Hlk.out wS hSw.tab; go_simp) <;> with_reducible rfl
  simp only [Act.put, List.setIfInBounds_toArray, List.set_cons_zero, List.set_cons_succ]
  refine held_take 7 ?_ rfl (by kernel_rfl) (by kernel_rfl) (by kernel_rfl) (fun _ _ _ h => h) (by rfl) ?_ hS0 ?_
  rotate_left
  · intro wS hSw; go_simp <;> with_reducible rfl
  simp only [Act.put, List.setIfInBounds_toArray, List.set_cons_zero, List.set_cons_succ]
  refine held_take 8 ?_ rfl (by kernel_rfl) (by kernel_rfl) (by kernel_rfl) (fun _ _ _ h => h) (by rfl) ?_ hS0 ?_
  rotate_left
  · intro wS hSw; go_simp <;> with_reducible rfl
  simp only [Act.put, List.setIfInBounds_toArray, List.set_cons_zero, List.set_cons_succ]
  refine held_take 9 ?_ rfl (by kernel_rfl) (by kernel_rfl) (by kernel_rfl) (fun _ _ _ h => h) (by rfl) ?_ hS0 ?_
  rotate_left
  · intro wS hSw; go_simp <;> with_reducible rfl
  simp only [Act.put, List.setIfInBounds_toArray, List.set_cons_zero, List.set_cons_succ]
  refine held_take 10 ?_ rfl (by kernel_rfl) (by kernel_rfl) (by kernel_rfl) (fun _ _ _ h => h) (by rfl) ?_ hS0 ?_
  rotate_left
  · intro wS hSw; go_simp <;> with_reducible rfl
  simp only [Act.put, List.setIfInBounds_toArray, List.set_cons_zero, List.set_cons_succ]
  refine held_take 11 ?_ rfl (by kernel_rfl) (by kernel_rfl) (by kernel_rfl) (fun _ _ _ h => h) (by rfl) ?_ hS0 ?_
  rotate_left
  · intro wS hSw; go_simp <;> with_reducible rfl
  simp only [Act.put, List.setIfInBounds_toArray, List.set_cons_zero, List.set_cons_succ]
  refine wpAnyH_done (by kernel_rfl) ?_ _
  refine NoPanic.normal ?_
  have HS := Lib.hid hS0
  have hc1 := hS0.c1
  clear hS0
  cases bo
  · go_wp2
    go_ret
    exact ⟨rfl, HS.out.below⟩
  · by_cases hoc : o = c
    · subst hoc
      go_wp2
      go_ret
      exact ⟨by simp, HS.out.below⟩
    · have hoc' : (o == c) = false := by simpa using hoc
      go_wp2
      go_ret
      exact ⟨by simp, HS.out.below⟩


theorem may_nil (i c : Int) (v : Value) (w : World) : Calls Try.prog 40 #[.pointer none, .agg #[.int .i64 i, .int .i64 c], v] w fun e w' => e = .returned (.int .i64 1) ∧ Below w.heap.size w w' := by
  have hb := (Below.refl w.heap.size w).alloc (Nat.le_refl _) (.cells #[.int .i64 i, .int .i64 c] 71)
  have B := Lib.hid hb
  clear hb
  go_enter Try.func40, Try.ntmps40
  go_wp2_with fail
  go_ret
  exact ⟨rfl, B.out⟩

theorem may_bad (tb : Nat) (i c : Int) (v : Value) (w : World) (h : okB i c = false) : Calls Try.prog 40 #[.pointer (some ⟨tb, 0, none⟩), .agg #[.int .i64 i, .int .i64 c], v] w fun e w' => e = .returned (.int .i64 1) ∧ Below w.heap.size w w' := by
  have hb := (Below.refl w.heap.size w).alloc (Nat.le_refl _) (.cells #[.int .i64 i, .int .i64 c] 71)
  have B := Lib.hid hb
  have H := Lib.hid h
  clear hb h
  go_enter Try.func40, Try.ntmps40
  go_wp2_with fail
  refine (right_any i c _).mono ?_
  rintro e w1 ⟨rfl, b1⟩
  have B1 := Lib.hid (B.out.trans (b1.mono B.out.size))
  clear b1
  rw [H.out]
  go_wp2_with fail
  go_ret
  exact ⟨rfl, B1.out⟩

theorem upon_then {P : Program} {o : Oper} {a : Act} {next : Act → World → Prop} {Q : Exit → Act → World → Prop} {α : Type} {r : Result α} {f : α → World → Result Next} {x : α} {w' : World}
    (h : r = .ok x w') (h2 : o.upon P a next Q (f x w')) : o.upon P a next Q (r.andThen f) := by
  subst h
  exact h2

theorem may_taker {w : World} {tb mb n : Nat} {t : List Int} (h : IsTab w tb mb n t) {i : Int} (hi : (Lit.int .i64 i).wf = true) (c : Int) (hok : okB i c = true) :
    Calls Try.prog 40 #[.pointer (some ⟨tb, 0, none⟩), .agg #[.int .i64 i, .int .i64 c], .iface 73 (.agg #[.int .i64 i, .int .i64 c])] w fun e w' => e = .returned (.int .i64 (busyE t i c)) ∧ Below w.heap.size w w' := by
  have hb := (Below.refl w.heap.size w).alloc (Nat.le_refl _) (.cells #[.int .i64 i, .int .i64 c] 71)
  have B := Lib.hid hb
  have H := Lib.hid h
  have Hok := Lib.hid hok
  clear hb h hok
  go_enter Try.func40, Try.ntmps40
  go_wp2_with fail
  refine (right_any i c _).mono ?_
  rintro e w1 ⟨rfl, b1⟩
  have B1 := Lib.hid (B.out.trans (b1.mono B.out.size))
  clear b1
  rw [Hok.out]
  go_wp2_with fail
  refine upon_then (x := (60, Value.agg #[.int .i64 i, .int .i64 c])) (w' := w1) (by kernel_rfl) ?_
  have ht1 : IsTab w1 tb mb n t := H.out.grown (row := none) ⟨B1.out.os, B1.out.tape, B1.out.output, B1.out.size, fun k hk _ => B1.out.block k hk⟩ (by simp) (by simp)
  have HT1 := Lib.hid ht1
  clear ht1
  go_wp2_with fail
  refine (taker_any HT1.out hi c).mono ?_
  rintro e w2 ⟨rfl, b2⟩
  have B2 := Lib.hid (B1.out.trans (b2.mono B1.out.size))
  clear b2
  go_wp2_with fail
  go_ret
  exact ⟨rfl, B2.out⟩

theorem may_giver {w : World} {tb mb n : Nat} {t : List Int} (h : IsTab w tb mb n t) {i : Int} (hi : (Lit.int .i64 i).wf = true) (c : Int) (hok : okB i c = true) :
    Calls Try.prog 40 #[.pointer (some ⟨tb, 0, none⟩), .agg #[.int .i64 i, .int .i64 c], .iface 75 (.agg #[.int .i64 i, .int .i64 c])] w fun e w' => e = .returned (.int .i64 (holderE t i c)) ∧ Below w.heap.size w w' := by
  have hb := (Below.refl w.heap.size w).alloc (Nat.le_refl _) (.cells #[.int .i64 i, .int .i64 c] 71)
  have B := Lib.hid hb
  have H := Lib.hid h
  have Hok := Lib.hid hok
  clear hb h hok
  go_enter Try.func40, Try.ntmps40
  go_wp2_with fail
  refine (right_any i c _).mono ?_
  rintro e w1 ⟨rfl, b1⟩
  have B1 := Lib.hid (B.out.trans (b1.mono B.out.size))
  clear b1
  rw [Hok.out]
  go_wp2_with fail
  refine upon_then (x := (61, Value.agg #[.int .i64 i, .int .i64 c])) (w' := w1) (by kernel_rfl) ?_
  have ht1 : IsTab w1 tb mb n t := H.out.grown (row := none) ⟨B1.out.os, B1.out.tape, B1.out.output, B1.out.size, fun k hk _ => B1.out.block k hk⟩ (by simp) (by simp)
  have HT1 := Lib.hid ht1
  clear ht1
  go_wp2_with fail
  refine (giver_any HT1.out hi c).mono ?_
  rintro e w2 ⟨rfl, b2⟩
  have B2 := Lib.hid (B1.out.trans (b2.mono B1.out.size))
  clear b2
  go_wp2_with fail
  go_ret
  exact ⟨rfl, B2.out⟩

end Go.Proofs.Ytakdmnamohdpaaa
