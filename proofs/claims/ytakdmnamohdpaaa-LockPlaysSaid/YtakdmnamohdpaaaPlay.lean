/- LockPlays, walked: it returns true, and writes nothing that was there. -/
import Derived.Test.YtakdmnamohdpaaaRif
import Derived.Test.YtakdmnamohdpaaaActs
namespace Go.Proofs.Ytakdmnamohdpaaa
open Go.RowKit Go.Maps

/-- What a round of a script rests on. -/
structure Play (w : World) (tb mb lo n g cap : Nat) (t : List Int) (wr : World) : Prop where
  tab : IsTab wr tb mb n t
  ref : IsRef wr lo g cap t
  below : Below w.heap.size w wr

/-- Within a round: besides, the act's own box. -/
structure Turn (w : World) (tb mb lo nb : Nat) (ak am ac : Int) (n g cap : Nat) (t s : List Int) (wr : World) : Prop where
  tab : IsTab wr tb mb n t
  ref : IsRef wr lo g cap s
  below : Below w.heap.size w wr
  box : wr.heap[nb]? = some (.cells #[.int .i64 ak, .int .i64 am, .int .i64 ac] 47 (0, 0))

theorem Turn.lt {w : World} {tb mb lo nb : Nat} {ak am ac : Int} {n g cap : Nat} {t s : List Int} {wr : World} (h : Turn w tb mb lo nb ak am ac n g cap t s wr) : nb < wr.heap.size := (Array.getElem?_eq_some_iff.1 h.box).1
theorem Turn.c1 {w : World} {tb mb lo nb : Nat} {ak am ac : Int} {n g cap : Nat} {t s : List Int} {wr : World} (h : Turn w tb mb lo nb ak am ac n g cap t s wr) : wr.cell? ⟨nb, 1, none⟩ = some (.int .i64 am) := by
  rw [cell_of_row _ _ _ _ _ _ h.box]; rfl
theorem Turn.c2 {w : World} {tb mb lo nb : Nat} {ak am ac : Int} {n g cap : Nat} {t s : List Int} {wr : World} (h : Turn w tb mb lo nb ak am ac n g cap t s wr) : wr.cell? ⟨nb, 2, none⟩ = some (.int .i64 ac) := by
  rw [cell_of_row _ _ _ _ _ _ h.box]; rfl
theorem Turn.start {w : World} {tb mb lo : Nat} {ak am ac : Int} {n g cap : Nat} {t : List Int} {wr : World} (h : Play w tb mb lo n g cap t wr) : Turn w tb mb lo wr.heap.size ak am ac n g cap t t (wr.alloc (.cells #[.int .i64 ak, .int .i64 am, .int .i64 ac] 47)) :=
  ⟨h.tab.alloc _, h.ref.kept (World.grownBy_alloc wr _ none) (by simp), h.below.alloc h.below.size _, heap_alloc_new wr _⟩
/-- The table was written. -/
theorem Turn.wrote {w : World} {tb mb lo nb : Nat} {ak am ac : Int} {n g cap : Nat} {t s : List Int} {wr : World} (h : Turn w tb mb lo nb ak am ac n g cap t s wr) (hm : w.heap.size ≤ mb) (hl : mb < lo) (hn : mb ≠ nb) {n' : Nat} {t' : List Int} {w' : World}
    (h' : IsTab w' tb mb n' t') (hg : wr.grownBy w' (some mb)) : Turn w tb mb lo nb ak am ac n' g cap t' s w' :=
  ⟨h', h.ref.kept hg (by rintro k ⟨⟩; exact hl), h.below.grown hg h.below.size (by simp; omega), (hg.block nb h.lt (by simpa using fun e => hn e.symm)).trans h.box⟩
/-- The document's row was answered anew. -/
theorem Turn.told {w : World} {tb mb lo nb : Nat} {ak am ac : Int} {n g cap : Nat} {t s : List Int} {wr : World} (h : Turn w tb mb lo nb ak am ac n g cap t s wr) {g' cap' : Nat} {s' : List Int} {w' : World}
    (h' : IsRef w' lo g' cap' s') (hg : wr.grownBy w' none) : Turn w tb mb lo nb ak am ac n g' cap' t s' w' :=
  ⟨h.tab.grown hg (by simp) (by simp), h', h.below.grown hg h.below.size (by simp), (hg.block nb h.lt (by simp)).trans h.box⟩
theorem Turn.grown {w : World} {tb mb lo nb : Nat} {ak am ac : Int} {n g cap : Nat} {t s : List Int} {wr w' : World} (h : Turn w tb mb lo nb ak am ac n g cap t s wr) (hg : wr.grownBy w' none) : Turn w tb mb lo nb ak am ac n g cap t s w' :=
  h.told (h.ref.kept hg (by simp)) hg
theorem Turn.lo {w : World} {tb mb lo nb : Nat} {ak am ac : Int} {n g cap : Nat} {t s : List Int} {wr : World} (h : Turn w tb mb lo nb ak am ac n g cap t s wr) : lo ≤ wr.heap.size := by have := h.ref.size; omega

set_option maxHeartbeats 4000000 in
set_option maxRecDepth 100000 in
theorem lockPlays_walk (a0 : Option Addr) (len0 cap0 : Nat) (w : World) (w0 : IsActs w a0 len0) :
    Calls Try.prog 8 #[.slice a0 len0 cap0] w fun e w' => e = .returned (.bool true) ∧ Below w.heap.size w w' := by
  have hlen := w0.short
  unfold maxLen at hlen
  have W0 := Lib.hid w0
  clear w0
  go_enter Try.func8, Try.ntmps8
  go_wp2_with fail
  refine (awake13 w).mono ?_
  rintro e w1 ⟨rfl, b1⟩
  have B1 := Lib.hid b1
  have hs1 := b1.size
  clear b1
  go_wp2_with fail
  refine (new_tab w1).mono ?_
  rintro e w2 ⟨rfl, h2, g2⟩
  have P2 := Lib.hid (And.intro h2 (B1.out.grown g2 hs1 (by simp)))
  have htl := h2.lt
  have hs2 := g2.size
  clear h2 g2
  generalize htb : w1.heap.size + 1 = tb at *
  have Htb := Lib.hid htb
  have hmt : w1.heap.size < tb := by omega
  clear htb
  generalize hmb : w1.heap.size = mb at *
  have hwm : w.heap.size ≤ mb := hs1
  have Hmb := Lib.hid hmb
  clear hmb
  go_wp2_with fail
  refine (ref_new w2).mono ?_
  rintro e w3 ⟨rfl, h3, g3⟩
  have P3 := Lib.hid (Play.mk (P2.out.1.grown g3 (by simp) (by simp)) h3 (P2.out.2.grown g3 (by omega) (by simp)))
  clear h3 g3
  generalize hlo : w2.heap.size = lo at *
  have hml : mb < lo := by omega
  have hwl : w.heap.size ≤ lo := by omega
  have Hlo := Lib.hid hlo
  clear hlo
  go_wp2_with fail
  go_loopw [5, 6] (fun rv iv wr => ∃ (k g cap : Nat) (t : List Int), k ≤ len0 ∧ k ≤ 80 ∧ rv = .slice (some ⟨g, 0, none⟩) 4 cap ∧ iv = .int .i64 k ∧ Play w tb mb lo k g cap t wr) (fun _ i _ => len0 - (intOf i).toNat)
  case atStart => exact ⟨0, lo, 4, noneT, Nat.zero_le _, by omega, rfl, rfl, P3.out⟩
  case round =>
    obtain ⟨k, g, cap, t, hk, hk80, rfl, rfl, hP⟩ := hrel
    have HP := Lib.hid hP
    have hbw := hP.below.size
    have hrs := hP.ref.size
    clear hP
    by_cases hlt : k < len0 ∧ k < 80
    · obtain ⟨hlt, h80⟩ := hlt
      obtain ⟨b, off, rfl, hb, hc⟩ := W0.out.row (by omega)
      obtain ⟨ak, am, ac, wm, wc, hcells⟩ := hc k hlt
      have HC := Lib.hid hcells
      have HWM := Lib.hid wm
      clear hc wm wc hcells
      obtain ⟨d0, d1, d2⟩ := HC.out wr HP.out.below
      have hd : decide ((k : Int) < 80) = true := by simp; omega
      obtain ⟨q, hq, hq4⟩ : ∃ q, bits .and .i64 ak 3 = q ∧ q = ak % 4 := ⟨_, rfl, and3 ak⟩
      have hcase : q = 0 ∨ q = 1 ∨ q = 2 ∨ q = 3 := by omega
      rcases hcase with rfl | rfl | rfl | rfl
      · clear hq4
        obtain ⟨er, t1, her, ht1⟩ : ∃ er t1, lockE t am ac = er ∧ lockT t am ac = t1 := ⟨_, _, rfl, rfl⟩
        have HF := Lib.hid (And.intro her ht1)
        clear her ht1
        have HT0 := Lib.hid (Turn.start (ak := ak) (am := am) (ac := ac) HP.out)
        have hmn : mb ≠ wr.heap.size := by have := HP.out.tab.ltm; omega
        go_wp2_with fail
        clear d0 d1 d2
        refine (lock_is HT0.out.tab (by omega) am ac t1 er HF.out.2 HF.out.1).mono ?_
        rintro e w4 ⟨rfl, h4, g4⟩
        have HT1 := Lib.hid (HT0.out.wrote hwm hml hmn h4 g4)
        have k1 := HT1.out.c1
        have k2 := HT1.out.c2
        clear h4 g4
        go_wp2_with fail
        refine (reflock HT1.out.ref HT1.out.lo am ac er t1 HF.out.1 HF.out.2).mono ?_
        rintro e w5 ⟨g1, cap1, rfl, h5, g5⟩
        have HT2 := Lib.hid (HT1.out.told h5 g5)
        clear h5 g5 k1 k2
        have k1 := HT2.out.c1
        have k2 := HT2.out.c2
        obtain ⟨o, bo, ho, hbo⟩ : ∃ (o : Int) (bo : Bool), heldBy t1 am = o ∧ decide (0 ≤ hold t1 am) = bo := ⟨_, _, rfl, rfl⟩
        have hbh : holdsB t1 am ac = (bo && (o == ac)) := by rw [← ho, ← hbo]; rfl
        have HO := Lib.hid (And.intro ho (And.intro hbo hbh))
        clear ho hbo hbh
        go_wp2_with fail
        refine (owner_is HT2.out.tab HWM.out o bo HO.out.1 HO.out.2.1).mono ?_
        rintro e w6 ⟨rfl, rfl⟩
        go_wp2_with fail
        refine (refowner HT2.out.ref am o bo HO.out.1 HO.out.2.1).mono ?_
        rintro e w7 ⟨rfl, rfl⟩
        have hS0 := HT2.out.grown (grown_drew _ none)
        clear k1 k2
        cases bo
        · have hoc : holdsB t1 am ac = false := by rw [HO.out.2.2]; rfl
          have HB := Lib.hid hoc
          clear hoc
          go_wp2_with fail
          refine held_begin (Turn w tb mb lo wr.heap.size ak am ac (k + 1) g1 cap1 t1 t1) (by kernel_rfl) hS0 ?_
          refine held_take 0 ?_ rfl (by kernel_rfl) (by kernel_rfl) (by kernel_rfl) (fun _ _ _ h => h) (by rfl) ?_ hS0 ?_
          rotate_left
          · intro wS hSw; go_simp <;> with_reducible rfl
          simp only [Act.put, List.setIfInBounds_toArray, List.set_cons_zero, List.set_cons_succ]
          refine held_take 1 ?_ rfl (by kernel_rfl) (by kernel_rfl) (by kernel_rfl) (fun _ _ _ h => h) (by rfl) ?_ hS0 ?_
          rotate_left
          · intro wS hSw; go_simp <;> with_reducible rfl
          simp only [Act.put, List.setIfInBounds_toArray, List.set_cons_zero, List.set_cons_succ]
          refine held_take 2 ?_ rfl (by kernel_rfl) (by kernel_rfl) (by kernel_rfl) (fun _ _ _ h => h) (by rfl) ?_ hS0 ?_
          rotate_left
          · intro wS hSw; go_simp <;> with_reducible rfl
          simp only [Act.put, List.setIfInBounds_toArray, List.set_cons_zero, List.set_cons_succ]
          refine held_take 3 ?_ rfl (by kernel_rfl) (by kernel_rfl) (by kernel_rfl) (fun _ _ _ h => h) (by rfl) ?_ hS0 ?_
          rotate_left
          · intro wS hSw; go_simp <;> with_reducible rfl
          simp only [Act.put, List.setIfInBounds_toArray, List.set_cons_zero, List.set_cons_succ]
          refine held_take 4 ?_ rfl (by kernel_rfl) (by kernel_rfl) (by kernel_rfl) (fun _ _ _ h => h) (by rfl) ?_ hS0 ?_
          rotate_left
          · intro wS hSw; go_simp <;> with_reducible rfl
          simp only [Act.put, List.setIfInBounds_toArray, List.set_cons_zero, List.set_cons_succ]
          refine held_take 5 ?_ rfl (by kernel_rfl) (by kernel_rfl) (by kernel_rfl) (fun _ _ _ h => h) (by rfl) ?_ hS0 ?_
          rotate_left
          · intro wS hSw; go_simp <;> with_reducible rfl
          simp only [Act.put, List.setIfInBounds_toArray, List.set_cons_zero, List.set_cons_succ]
          refine held_take 6 ?_ rfl (by kernel_rfl) (by kernel_rfl) (by kernel_rfl) (fun _ _ _ h => h) (by rfl) ?_ hS0 ?_
          rotate_left
          · intro wS hSw; go_simp <;> with_reducible rfl
          simp only [Act.put, List.setIfInBounds_toArray, List.set_cons_zero, List.set_cons_succ]
          refine held_take 7 ?_ rfl (by kernel_rfl) (by kernel_rfl) (by kernel_rfl) (fun _ _ _ h => h) (by rfl) ?_ hS0 ?_
          rotate_left
          · intro wS hSw; go_simp <;> with_reducible rfl
          simp only [Act.put, List.setIfInBounds_toArray, List.set_cons_zero, List.set_cons_succ]
          refine held_take 8 ?_ rfl (by kernel_rfl) (by kernel_rfl) (by kernel_rfl) (fun _ _ _ h => h) (by rfl) ?_ hS0 ?_
          rotate_left
          · intro wS hSw; go_simp <;> with_reducible rfl
          simp only [Act.put, List.setIfInBounds_toArray, List.set_cons_zero, List.set_cons_succ]
          refine held_take 9 ?_ rfl (by kernel_rfl) (by kernel_rfl) (by kernel_rfl) (fun _ _ _ h => h) (by rfl) ?_ hS0 ?_
          rotate_left
          · intro wS hSw; go_simp <;> with_reducible rfl
          simp only [Act.put, List.setIfInBounds_toArray, List.set_cons_zero, List.set_cons_succ]
          refine held_take 10 ?_ rfl (by kernel_rfl) (by kernel_rfl) (by kernel_rfl) (fun _ _ _ h => h) (by rfl) ?_ hS0 ?_
          rotate_left
          · intro wS hSw; go_simp <;> with_reducible rfl
          simp only [Act.put, List.setIfInBounds_toArray, List.set_cons_zero, List.set_cons_succ]
          refine held_take 11 ?_ rfl (by kernel_rfl) (by kernel_rfl) (by kernel_rfl) (fun _ _ _ h => h) (by rfl) ?_ hS0 ?_
          rotate_left
          · intro wS hSw; go_simp <;> with_reducible rfl
          simp only [Act.put, List.setIfInBounds_toArray, List.set_cons_zero, List.set_cons_succ]
          refine held_take 12 ?_ rfl (by kernel_rfl) (by kernel_rfl) (by kernel_rfl) (fun _ _ _ h => h) (by rfl) ?_ hS0 ?_
          rotate_left
          · intro wS hSw; go_simp <;> with_reducible rfl
          simp only [Act.put, List.setIfInBounds_toArray, List.set_cons_zero, List.set_cons_succ]
          refine held_take 13 ?_ rfl (by kernel_rfl) (by kernel_rfl) (by kernel_rfl) (fun _ _ _ h => h) (by rfl) ?_ hS0 ?_
          rotate_left
          · intro wS hSw; go_simp <;> with_reducible rfl
          simp only [Act.put, List.setIfInBounds_toArray, List.set_cons_zero, List.set_cons_succ]
          refine held_take 14 ?_ rfl (by kernel_rfl) (by kernel_rfl) (by kernel_rfl) (fun _ _ _ h => h) (by rfl) ?_ hS0 ?_
          rotate_left
          · intro wS hSw; go_simp <;> with_reducible rfl
          simp only [Act.put, List.setIfInBounds_toArray, List.set_cons_zero, List.set_cons_succ]
          refine held_take 15 ?_ rfl (by kernel_rfl) (by kernel_rfl) (by kernel_rfl) (fun _ _ _ h => h) (by rfl) ?_ hS0 ?_
          rotate_left
          · intro wS hSw; go_simp <;> with_reducible rfl
          simp only [Act.put, List.setIfInBounds_toArray, List.set_cons_zero, List.set_cons_succ]
          refine held_take 16 ?_ rfl (by kernel_rfl) (by kernel_rfl) (by kernel_rfl) (fun _ _ _ h => h) (by rfl) ?_ hS0 ?_
          rotate_left
          · intro wS hSw; (have cS := hSw.c1; go_simp) <;> with_reducible rfl
          simp only [Act.put, List.setIfInBounds_toArray, List.set_cons_zero, List.set_cons_succ]
          refine held_take 17 ?_ rfl (by kernel_rfl) (by kernel_rfl) (by kernel_rfl) (fun _ _ _ h => h) (by rfl) ?_ hS0 ?_
          rotate_left
          · intro wS hSw; go_simp <;> with_reducible rfl
          simp only [Act.put, List.setIfInBounds_toArray, List.set_cons_zero, List.set_cons_succ]
          refine held_take 18 ?_ rfl (by kernel_rfl) (by kernel_rfl) (by kernel_rfl) (fun _ _ _ h => h) (by rfl) ?_ hS0 ?_
          rotate_left
          · intro wS hSw; (have cS := hSw.c2; go_simp) <;> with_reducible rfl
          simp only [Act.put, List.setIfInBounds_toArray, List.set_cons_zero, List.set_cons_succ]
          refine held_take 20 ?_ rfl (by kernel_rfl) (by kernel_rfl) (by kernel_rfl) (fun _ _ _ h => h) (by rfl) ?_ hS0 ?_
          rotate_left
          · intro wS hSw; go_simp <;> with_reducible rfl
          simp only [Act.put, List.setIfInBounds_toArray, List.set_cons_zero, List.set_cons_succ]
          refine held_one 19 rfl (by kernel_rfl) (by rfl) (fun K hK => ?_)
          go_simp
          refine (holds_is hS0.tab HWM.out ac false HB.out).mono ?_
          rintro e wx ⟨rfl, rfl⟩
          refine hK.out _ _ _ (fun _ h => h) hS0 (fun _ => ?_)
          clear hK K
          refine held_take 21 ?_ rfl (by kernel_rfl) (by kernel_rfl) (by kernel_rfl) (fun _ _ _ h => h) (by rfl) ?_ hS0 ?_
          rotate_left
          · intro wS hSw; go_simp <;> with_reducible rfl
          simp only [Act.put, List.setIfInBounds_toArray, List.set_cons_zero, List.set_cons_succ]
          refine held_skip 22 rfl (by kernel_rfl) (by kernel_rfl) (by kernel_rfl) (fun _ _ _ h => h) (by rfl) hS0 ?_
          simp only [Act.put, List.setIfInBounds_toArray, List.set_cons_zero, List.set_cons_succ]
          refine held_skip 23 rfl (by kernel_rfl) (by kernel_rfl) (by kernel_rfl) (fun _ _ _ h => h) (by rfl) hS0 ?_
          simp only [Act.put, List.setIfInBounds_toArray, List.set_cons_zero, List.set_cons_succ]
          refine held_skip 24 rfl (by kernel_rfl) (by kernel_rfl) (by kernel_rfl) (fun _ _ _ h => h) (by rfl) hS0 ?_
          simp only [Act.put, List.setIfInBounds_toArray, List.set_cons_zero, List.set_cons_succ]
          refine held_skip 25 rfl (by kernel_rfl) (by kernel_rfl) (by kernel_rfl) (fun _ _ _ h => h) (by rfl) hS0 ?_
          simp only [Act.put, List.setIfInBounds_toArray, List.set_cons_zero, List.set_cons_succ]
          refine held_take 26 ?_ rfl (by kernel_rfl) (by kernel_rfl) (by kernel_rfl) (fun _ _ _ h => h) (by rfl) ?_ hS0 ?_
          rotate_left
          · intro wS hSw; go_simp <;> with_reducible rfl
          simp only [Act.put, List.setIfInBounds_toArray, List.set_cons_zero, List.set_cons_succ]
          refine held_take 27 ?_ rfl (by kernel_rfl) (by kernel_rfl) (by kernel_rfl) (fun _ _ _ h => h) (by rfl) ?_ hS0 ?_
          rotate_left
          · intro wS hSw; go_simp <;> with_reducible rfl
          simp only [Act.put, List.setIfInBounds_toArray, List.set_cons_zero, List.set_cons_succ]
          refine held_take 28 ?_ rfl (by kernel_rfl) (by kernel_rfl) (by kernel_rfl) (fun _ _ _ h => h) (by rfl) ?_ hS0 ?_
          rotate_left
          · intro wS hSw; go_simp <;> with_reducible rfl
          simp only [Act.put, List.setIfInBounds_toArray, List.set_cons_zero, List.set_cons_succ]
          refine held_take 29 ?_ rfl (by kernel_rfl) (by kernel_rfl) (by kernel_rfl) (fun _ _ _ h => h) (by rfl) ?_ hS0 ?_
          rotate_left
          · intro wS hSw; go_simp <;> with_reducible rfl
          simp only [Act.put, List.setIfInBounds_toArray, List.set_cons_zero, List.set_cons_succ]
          refine held_take 30 ?_ rfl (by kernel_rfl) (by kernel_rfl) (by kernel_rfl) (fun _ _ _ h => h) (by rfl) ?_ hS0 ?_
          rotate_left
          · intro wS hSw; go_simp <;> with_reducible rfl
          simp only [Act.put, List.setIfInBounds_toArray, List.set_cons_zero, List.set_cons_succ]
          refine held_take 31 ?_ rfl (by kernel_rfl) (by kernel_rfl) (by kernel_rfl) (fun _ _ _ h => h) (by rfl) ?_ hS0 ?_
          rotate_left
          · intro wS hSw; go_simp <;> with_reducible rfl
          simp only [Act.put, List.setIfInBounds_toArray, List.set_cons_zero, List.set_cons_succ]
          refine held_take 32 ?_ rfl (by kernel_rfl) (by kernel_rfl) (by kernel_rfl) (fun _ _ _ h => h) (by rfl) ?_ hS0 ?_
          rotate_left
          · intro wS hSw; (have cS := hSw.c2; go_simp) <;> with_reducible rfl
          simp only [Act.put, List.setIfInBounds_toArray, List.set_cons_zero, List.set_cons_succ]
          refine held_take 34 ?_ rfl (by kernel_rfl) (by kernel_rfl) (by kernel_rfl) (fun _ _ _ h => h) (by rfl) ?_ hS0 ?_
          rotate_left
          · intro wS hSw; go_simp <;> with_reducible rfl
          simp only [Act.put, List.setIfInBounds_toArray, List.set_cons_zero, List.set_cons_succ]
          refine held_take 35 ?_ rfl (by kernel_rfl) (by kernel_rfl) (by kernel_rfl) (fun _ _ _ h => h) (by rfl) ?_ hS0 ?_
          rotate_left
          · intro wS hSw; go_simp <;> with_reducible rfl
          simp only [Act.put, List.setIfInBounds_toArray, List.set_cons_zero, List.set_cons_succ]
          refine held_take 36 ?_ rfl (by kernel_rfl) (by kernel_rfl) (by kernel_rfl) (fun _ _ _ h => h) (by rfl) ?_ hS0 ?_
          rotate_left
          · intro wS hSw; (have cS := hSw.c2; go_simp) <;> with_reducible rfl
          simp only [Act.put, List.setIfInBounds_toArray, List.set_cons_zero, List.set_cons_succ]
          refine held_one 33 rfl (by kernel_rfl) (by rfl) (fun K hK => ?_)
          go_simp
          refine (of_tab hS0.tab ac).mono ?_
          rintro e wx ⟨v, rfl, h5, g5⟩
          have hT5 := hS0.grown g5
          refine hK.out (fun wS => Turn w tb mb lo wr.heap.size ak am ac (k + 1) g1 cap1 t1 t1 wS ∧ Ints wS _ v (ofL t1 ac 4)) _ _ (fun _ h => h.1) ⟨hT5, h5⟩ (fun hS1 => ?_)
          clear hK K
          refine held_one 37 rfl (by kernel_rfl) (by rfl) (fun K hK => ?_)
          go_simp
          refine (refof hS1.1.ref ac).mono ?_
          rintro e wx ⟨v2, rfl, h6, g6⟩
          have hT6 := hS1.1.grown g6
          have h7 := hS1.2.kept g6 (by simp)
          refine hK.out (fun wS => (Turn w tb mb lo wr.heap.size ak am ac (k + 1) g1 cap1 t1 t1 wS ∧ Ints wS _ v (ofL t1 ac 4)) ∧ Ints wS _ v2 (ofL t1 ac 4)) _ _ (fun _ h => h.1) ⟨⟨hT6, h7⟩, h6⟩ (fun hS2 => ?_)
          clear hK K
          refine held_one 38 rfl (by kernel_rfl) (by rfl) (fun K hK => ?_)
          go_simp
          refine (ints_same hS2.1.2 hS2.2).mono ?_
          rintro e wx ⟨rfl, g8⟩
          have hS3 := And.intro (And.intro (hS2.1.1.grown g8) (hS2.1.2.kept g8 (by simp))) (hS2.2.kept g8 (by simp))
          refine hK.out _ _ _ (fun _ h => h) hS3 (fun _ => ?_)
          clear hK K
          refine held_take 39 ?_ rfl (by kernel_rfl) (by kernel_rfl) (by kernel_rfl) (fun _ _ _ h => h) (by rfl) ?_ hS3 ?_
          rotate_left
          · intro wS hSw; go_simp <;> with_reducible rfl
          simp only [Act.put, List.setIfInBounds_toArray, List.set_cons_zero, List.set_cons_succ]
          refine held_take 40 ?_ rfl (by kernel_rfl) (by kernel_rfl) (by kernel_rfl) (fun _ _ _ h => h) (by rfl) ?_ hS3 ?_
          rotate_left
          · intro wS hSw; go_simp <;> with_reducible rfl
          simp only [Act.put, List.setIfInBounds_toArray, List.set_cons_zero, List.set_cons_succ]
          refine wpAnyH_done (by kernel_rfl) ?_ _
          refine NoPanic.normal ?_
          go_wp2_with fail
          go_roundw
          case rel => exact ⟨k + 1, g1, cap1, t1, by omega, by omega, rfl, by go_num, ⟨hS3.1.1.tab, hS3.1.1.ref, hS3.1.1.below⟩⟩
          case measure => simp [intOf]; omega
        · have hoc : holdsB t1 am ac = (o == ac) := by rw [HO.out.2.2]; rfl
          have HB := Lib.hid hoc
          clear hoc
          obtain ⟨bh, hbh⟩ : ∃ bh, (o == ac) = bh := ⟨_, rfl⟩
          have HB2 := Lib.hid (HB.out.trans hbh)
          go_wp2_with fail
          refine held_begin (Turn w tb mb lo wr.heap.size ak am ac (k + 1) g1 cap1 t1 t1) (by kernel_rfl) hS0 ?_
          refine held_take 0 ?_ rfl (by kernel_rfl) (by kernel_rfl) (by kernel_rfl) (fun _ _ _ h => h) (by rfl) ?_ hS0 ?_
          rotate_left
          · intro wS hSw; go_simp <;> with_reducible rfl
          simp only [Act.put, List.setIfInBounds_toArray, List.set_cons_zero, List.set_cons_succ]
          refine held_take 1 ?_ rfl (by kernel_rfl) (by kernel_rfl) (by kernel_rfl) (fun _ _ _ h => h) (by rfl) ?_ hS0 ?_
          rotate_left
          · intro wS hSw; go_simp <;> with_reducible rfl
          simp only [Act.put, List.setIfInBounds_toArray, List.set_cons_zero, List.set_cons_succ]
          refine held_take 2 ?_ rfl (by kernel_rfl) (by kernel_rfl) (by kernel_rfl) (fun _ _ _ h => h) (by rfl) ?_ hS0 ?_
          rotate_left
          · intro wS hSw; go_simp <;> with_reducible rfl
          simp only [Act.put, List.setIfInBounds_toArray, List.set_cons_zero, List.set_cons_succ]
          refine held_take 3 ?_ rfl (by kernel_rfl) (by kernel_rfl) (by kernel_rfl) (fun _ _ _ h => h) (by rfl) ?_ hS0 ?_
          rotate_left
          · intro wS hSw; go_simp <;> with_reducible rfl
          simp only [Act.put, List.setIfInBounds_toArray, List.set_cons_zero, List.set_cons_succ]
          refine held_take 4 ?_ rfl (by kernel_rfl) (by kernel_rfl) (by kernel_rfl) (fun _ _ _ h => h) (by rfl) ?_ hS0 ?_
          rotate_left
          · intro wS hSw; go_simp <;> with_reducible rfl
          simp only [Act.put, List.setIfInBounds_toArray, List.set_cons_zero, List.set_cons_succ]
          refine held_take 5 ?_ rfl (by kernel_rfl) (by kernel_rfl) (by kernel_rfl) (fun _ _ _ h => h) (by rfl) ?_ hS0 ?_
          rotate_left
          · intro wS hSw; go_simp <;> with_reducible rfl
          simp only [Act.put, List.setIfInBounds_toArray, List.set_cons_zero, List.set_cons_succ]
          refine held_take 6 ?_ rfl (by kernel_rfl) (by kernel_rfl) (by kernel_rfl) (fun _ _ _ h => h) (by rfl) ?_ hS0 ?_
          rotate_left
          · intro wS hSw; go_simp <;> with_reducible rfl
          simp only [Act.put, List.setIfInBounds_toArray, List.set_cons_zero, List.set_cons_succ]
          refine held_take 7 ?_ rfl (by kernel_rfl) (by kernel_rfl) (by kernel_rfl) (fun _ _ _ h => h) (by rfl) ?_ hS0 ?_
          rotate_left
          · intro wS hSw; go_simp <;> with_reducible rfl
          simp only [Act.put, List.setIfInBounds_toArray, List.set_cons_zero, List.set_cons_succ]
          refine held_take 8 ?_ rfl (by kernel_rfl) (by kernel_rfl) (by kernel_rfl) (fun _ _ _ h => h) (by rfl) ?_ hS0 ?_
          rotate_left
          · intro wS hSw; go_simp <;> with_reducible rfl
          simp only [Act.put, List.setIfInBounds_toArray, List.set_cons_zero, List.set_cons_succ]
          refine held_take 9 ?_ rfl (by kernel_rfl) (by kernel_rfl) (by kernel_rfl) (fun _ _ _ h => h) (by rfl) ?_ hS0 ?_
          rotate_left
          · intro wS hSw; go_simp <;> with_reducible rfl
          simp only [Act.put, List.setIfInBounds_toArray, List.set_cons_zero, List.set_cons_succ]
          refine held_take 10 ?_ rfl (by kernel_rfl) (by kernel_rfl) (by kernel_rfl) (fun _ _ _ h => h) (by rfl) ?_ hS0 ?_
          rotate_left
          · intro wS hSw; go_simp <;> with_reducible rfl
          simp only [Act.put, List.setIfInBounds_toArray, List.set_cons_zero, List.set_cons_succ]
          refine held_take 11 ?_ rfl (by kernel_rfl) (by kernel_rfl) (by kernel_rfl) (fun _ _ _ h => h) (by rfl) ?_ hS0 ?_
          rotate_left
          · intro wS hSw; go_simp <;> with_reducible rfl
          simp only [Act.put, List.setIfInBounds_toArray, List.set_cons_zero, List.set_cons_succ]
          refine held_take 12 ?_ rfl (by kernel_rfl) (by kernel_rfl) (by kernel_rfl) (fun _ _ _ h => h) (by rfl) ?_ hS0 ?_
          rotate_left
          · intro wS hSw; go_simp <;> with_reducible rfl
          simp only [Act.put, List.setIfInBounds_toArray, List.set_cons_zero, List.set_cons_succ]
          refine held_take 13 ?_ rfl (by kernel_rfl) (by kernel_rfl) (by kernel_rfl) (fun _ _ _ h => h) (by rfl) ?_ hS0 ?_
          rotate_left
          · intro wS hSw; go_simp <;> with_reducible rfl
          simp only [Act.put, List.setIfInBounds_toArray, List.set_cons_zero, List.set_cons_succ]
          refine held_take 14 ?_ rfl (by kernel_rfl) (by kernel_rfl) (by kernel_rfl) (fun _ _ _ h => h) (by rfl) ?_ hS0 ?_
          rotate_left
          · intro wS hSw; go_simp <;> with_reducible rfl
          simp only [Act.put, List.setIfInBounds_toArray, List.set_cons_zero, List.set_cons_succ]
          refine held_take 15 ?_ rfl (by kernel_rfl) (by kernel_rfl) (by kernel_rfl) (fun _ _ _ h => h) (by rfl) ?_ hS0 ?_
          rotate_left
          · intro wS hSw; go_simp <;> with_reducible rfl
          simp only [Act.put, List.setIfInBounds_toArray, List.set_cons_zero, List.set_cons_succ]
          refine held_take 16 ?_ rfl (by kernel_rfl) (by kernel_rfl) (by kernel_rfl) (fun _ _ _ h => h) (by rfl) ?_ hS0 ?_
          rotate_left
          · intro wS hSw; (have cS := hSw.c1; go_simp) <;> with_reducible rfl
          simp only [Act.put, List.setIfInBounds_toArray, List.set_cons_zero, List.set_cons_succ]
          refine held_take 17 ?_ rfl (by kernel_rfl) (by kernel_rfl) (by kernel_rfl) (fun _ _ _ h => h) (by rfl) ?_ hS0 ?_
          rotate_left
          · intro wS hSw; go_simp <;> with_reducible rfl
          simp only [Act.put, List.setIfInBounds_toArray, List.set_cons_zero, List.set_cons_succ]
          refine held_take 18 ?_ rfl (by kernel_rfl) (by kernel_rfl) (by kernel_rfl) (fun _ _ _ h => h) (by rfl) ?_ hS0 ?_
          rotate_left
          · intro wS hSw; (have cS := hSw.c2; go_simp) <;> with_reducible rfl
          simp only [Act.put, List.setIfInBounds_toArray, List.set_cons_zero, List.set_cons_succ]
          refine held_take 20 ?_ rfl (by kernel_rfl) (by kernel_rfl) (by kernel_rfl) (fun _ _ _ h => h) (by rfl) ?_ hS0 ?_
          rotate_left
          · intro wS hSw; go_simp <;> with_reducible rfl
          simp only [Act.put, List.setIfInBounds_toArray, List.set_cons_zero, List.set_cons_succ]
          refine held_one 19 rfl (by kernel_rfl) (by rfl) (fun K hK => ?_)
          go_simp
          refine (holds_is hS0.tab HWM.out ac bh HB2.out).mono ?_
          rintro e wx ⟨rfl, rfl⟩
          refine hK.out _ _ _ (fun _ h => h) hS0 (fun _ => ?_)
          clear hK K
          refine held_take 21 ?_ rfl (by kernel_rfl) (by kernel_rfl) (by kernel_rfl) (fun _ _ _ h => h) (by rfl) ?_ hS0 ?_
          rotate_left
          · intro wS hSw; go_simp <;> with_reducible rfl
          simp only [Act.put, List.setIfInBounds_toArray, List.set_cons_zero, List.set_cons_succ]
          refine held_take 22 ?_ rfl (by kernel_rfl) (by kernel_rfl) (by kernel_rfl) (fun _ _ _ h => h) (by rfl) ?_ hS0 ?_
          rotate_left
          · intro wS hSw; go_simp <;> with_reducible rfl
          simp only [Act.put, List.setIfInBounds_toArray, List.set_cons_zero, List.set_cons_succ]
          refine held_take 23 ?_ rfl (by kernel_rfl) (by kernel_rfl) (by kernel_rfl) (fun _ _ _ h => h) (by rfl) ?_ hS0 ?_
          rotate_left
          · intro wS hSw; go_simp <;> with_reducible rfl
          simp only [Act.put, List.setIfInBounds_toArray, List.set_cons_zero, List.set_cons_succ]
          refine held_take 24 ?_ rfl (by kernel_rfl) (by kernel_rfl) (by kernel_rfl) (fun _ _ _ h => h) (by rfl) ?_ hS0 ?_
          rotate_left
          · intro wS hSw; (have cS := hSw.c2; go_simp) <;> with_reducible rfl
          simp only [Act.put, List.setIfInBounds_toArray, List.set_cons_zero, List.set_cons_succ]
          refine held_take 25 ?_ rfl (by kernel_rfl) (by kernel_rfl) (by kernel_rfl) (fun _ _ _ h => h) (by rfl) ?_ hS0 ?_
          rotate_left
          · intro wS hSw; go_simp <;> with_reducible rfl
          simp only [Act.put, List.setIfInBounds_toArray, List.set_cons_zero, List.set_cons_succ]
          refine held_take 26 ?_ rfl (by kernel_rfl) (by kernel_rfl) (by kernel_rfl) (fun _ _ _ h => h) (by rfl) ?_ hS0 ?_
          rotate_left
          · intro wS hSw; go_simp <;> with_reducible rfl
          simp only [Act.put, List.setIfInBounds_toArray, List.set_cons_zero, List.set_cons_succ]
          refine held_take 27 ?_ rfl (by kernel_rfl) (by kernel_rfl) (by kernel_rfl) (fun _ _ _ h => h) (by rfl) ?_ hS0 ?_
          rotate_left
          · intro wS hSw; go_simp <;> with_reducible rfl
          simp only [Act.put, List.setIfInBounds_toArray, List.set_cons_zero, List.set_cons_succ]
          refine held_take 28 ?_ rfl (by kernel_rfl) (by kernel_rfl) (by kernel_rfl) (fun _ _ _ h => h) (by rfl) ?_ hS0 ?_
          rotate_left
          · intro wS hSw; go_simp <;> with_reducible rfl
          simp only [Act.put, List.setIfInBounds_toArray, List.set_cons_zero, List.set_cons_succ]
          refine held_take 29 ?_ rfl (by kernel_rfl) (by kernel_rfl) (by kernel_rfl) (fun _ _ _ h => h) (by rfl) ?_ hS0 ?_
          rotate_left
          · intro wS hSw; go_simp <;> with_reducible rfl
          simp only [Act.put, List.setIfInBounds_toArray, List.set_cons_zero, List.set_cons_succ]
          refine held_take 30 ?_ rfl (by kernel_rfl) (by kernel_rfl) (by kernel_rfl) (fun _ _ _ h => h) (by rfl) ?_ hS0 ?_
          rotate_left
          · intro wS hSw; go_simp <;> with_reducible rfl
          simp only [Act.put, List.setIfInBounds_toArray, List.set_cons_zero, List.set_cons_succ]
          refine held_take 31 ?_ rfl (by kernel_rfl) (by kernel_rfl) (by kernel_rfl) (fun _ _ _ h => h) (by rfl) ?_ hS0 ?_
          rotate_left
          · intro wS hSw; go_simp <;> with_reducible rfl
          simp only [Act.put, List.setIfInBounds_toArray, List.set_cons_zero, List.set_cons_succ]
          refine held_take 32 ?_ rfl (by kernel_rfl) (by kernel_rfl) (by kernel_rfl) (fun _ _ _ h => h) (by rfl) ?_ hS0 ?_
          rotate_left
          · intro wS hSw; (have cS := hSw.c2; go_simp) <;> with_reducible rfl
          simp only [Act.put, List.setIfInBounds_toArray, List.set_cons_zero, List.set_cons_succ]
          refine held_take 34 ?_ rfl (by kernel_rfl) (by kernel_rfl) (by kernel_rfl) (fun _ _ _ h => h) (by rfl) ?_ hS0 ?_
          rotate_left
          · intro wS hSw; go_simp <;> with_reducible rfl
          simp only [Act.put, List.setIfInBounds_toArray, List.set_cons_zero, List.set_cons_succ]
          refine held_take 35 ?_ rfl (by kernel_rfl) (by kernel_rfl) (by kernel_rfl) (fun _ _ _ h => h) (by rfl) ?_ hS0 ?_
          rotate_left
          · intro wS hSw; go_simp <;> with_reducible rfl
          simp only [Act.put, List.setIfInBounds_toArray, List.set_cons_zero, List.set_cons_succ]
          refine held_take 36 ?_ rfl (by kernel_rfl) (by kernel_rfl) (by kernel_rfl) (fun _ _ _ h => h) (by rfl) ?_ hS0 ?_
          rotate_left
          · intro wS hSw; (have cS := hSw.c2; go_simp) <;> with_reducible rfl
          simp only [Act.put, List.setIfInBounds_toArray, List.set_cons_zero, List.set_cons_succ]
          refine held_one 33 rfl (by kernel_rfl) (by rfl) (fun K hK => ?_)
          go_simp
          refine (of_tab hS0.tab ac).mono ?_
          rintro e wx ⟨v, rfl, h5, g5⟩
          have hT5 := hS0.grown g5
          refine hK.out (fun wS => Turn w tb mb lo wr.heap.size ak am ac (k + 1) g1 cap1 t1 t1 wS ∧ Ints wS _ v (ofL t1 ac 4)) _ _ (fun _ h => h.1) ⟨hT5, h5⟩ (fun hS1 => ?_)
          clear hK K
          refine held_one 37 rfl (by kernel_rfl) (by rfl) (fun K hK => ?_)
          go_simp
          refine (refof hS1.1.ref ac).mono ?_
          rintro e wx ⟨v2, rfl, h6, g6⟩
          have hT6 := hS1.1.grown g6
          have h7 := hS1.2.kept g6 (by simp)
          refine hK.out (fun wS => (Turn w tb mb lo wr.heap.size ak am ac (k + 1) g1 cap1 t1 t1 wS ∧ Ints wS _ v (ofL t1 ac 4)) ∧ Ints wS _ v2 (ofL t1 ac 4)) _ _ (fun _ h => h.1) ⟨⟨hT6, h7⟩, h6⟩ (fun hS2 => ?_)
          clear hK K
          refine held_one 38 rfl (by kernel_rfl) (by rfl) (fun K hK => ?_)
          go_simp
          refine (ints_same hS2.1.2 hS2.2).mono ?_
          rintro e wx ⟨rfl, g8⟩
          have hS3 := And.intro (And.intro (hS2.1.1.grown g8) (hS2.1.2.kept g8 (by simp))) (hS2.2.kept g8 (by simp))
          refine hK.out _ _ _ (fun _ h => h) hS3 (fun _ => ?_)
          clear hK K
          refine held_take 39 ?_ rfl (by kernel_rfl) (by kernel_rfl) (by kernel_rfl) (fun _ _ _ h => h) (by rfl) ?_ hS3 ?_
          rotate_left
          · intro wS hSw; go_simp <;> with_reducible rfl
          simp only [Act.put, List.setIfInBounds_toArray, List.set_cons_zero, List.set_cons_succ]
          refine held_take 40 ?_ rfl (by kernel_rfl) (by kernel_rfl) (by kernel_rfl) (fun _ _ _ h => h) (by rfl) ?_ hS3 ?_
          rotate_left
          · intro wS hSw; go_simp <;> with_reducible rfl
          simp only [Act.put, List.setIfInBounds_toArray, List.set_cons_zero, List.set_cons_succ]
          refine wpAnyH_done (by kernel_rfl) ?_ _
          refine NoPanic.normal ?_
          go_wp2_with fail
          go_roundw
          case rel => exact ⟨k + 1, g1, cap1, t1, by omega, by omega, rfl, by go_num, ⟨hS3.1.1.tab, hS3.1.1.ref, hS3.1.1.below⟩⟩
          case measure => simp [intOf]; omega
      · clear hq4
        obtain ⟨er, t1, her, ht1⟩ : ∃ er t1, lockE t am ac = er ∧ lockT t am ac = t1 := ⟨_, _, rfl, rfl⟩
        have HF := Lib.hid (And.intro her ht1)
        clear her ht1
        have HT0 := Lib.hid (Turn.start (ak := ak) (am := am) (ac := ac) HP.out)
        have hmn : mb ≠ wr.heap.size := by have := HP.out.tab.ltm; omega
        go_wp2_with fail
        clear d0 d1 d2
        refine (lock_is HT0.out.tab (by omega) am ac t1 er HF.out.2 HF.out.1).mono ?_
        rintro e w4 ⟨rfl, h4, g4⟩
        have HT1 := Lib.hid (HT0.out.wrote hwm hml hmn h4 g4)
        have k1 := HT1.out.c1
        have k2 := HT1.out.c2
        clear h4 g4
        go_wp2_with fail
        refine (reflock HT1.out.ref HT1.out.lo am ac er t1 HF.out.1 HF.out.2).mono ?_
        rintro e w5 ⟨g1, cap1, rfl, h5, g5⟩
        have HT2 := Lib.hid (HT1.out.told h5 g5)
        clear h5 g5 k1 k2
        have k1 := HT2.out.c1
        have k2 := HT2.out.c2
        obtain ⟨o, bo, ho, hbo⟩ : ∃ (o : Int) (bo : Bool), heldBy t1 am = o ∧ decide (0 ≤ hold t1 am) = bo := ⟨_, _, rfl, rfl⟩
        have hbh : holdsB t1 am ac = (bo && (o == ac)) := by rw [← ho, ← hbo]; rfl
        have HO := Lib.hid (And.intro ho (And.intro hbo hbh))
        clear ho hbo hbh
        go_wp2_with fail
        refine (owner_is HT2.out.tab HWM.out o bo HO.out.1 HO.out.2.1).mono ?_
        rintro e w6 ⟨rfl, rfl⟩
        go_wp2_with fail
        refine (refowner HT2.out.ref am o bo HO.out.1 HO.out.2.1).mono ?_
        rintro e w7 ⟨rfl, rfl⟩
        have hS0 := HT2.out.grown (grown_drew _ none)
        clear k1 k2
        cases bo
        · have hoc : holdsB t1 am ac = false := by rw [HO.out.2.2]; rfl
          have HB := Lib.hid hoc
          clear hoc
          go_wp2_with fail
          refine held_begin (Turn w tb mb lo wr.heap.size ak am ac (k + 1) g1 cap1 t1 t1) (by kernel_rfl) hS0 ?_
          refine held_take 0 ?_ rfl (by kernel_rfl) (by kernel_rfl) (by kernel_rfl) (fun _ _ _ h => h) (by rfl) ?_ hS0 ?_
          rotate_left
          · intro wS hSw; go_simp <;> with_reducible rfl
          simp only [Act.put, List.setIfInBounds_toArray, List.set_cons_zero, List.set_cons_succ]
          refine held_take 1 ?_ rfl (by kernel_rfl) (by kernel_rfl) (by kernel_rfl) (fun _ _ _ h => h) (by rfl) ?_ hS0 ?_
          rotate_left
          · intro wS hSw; go_simp <;> with_reducible rfl
          simp only [Act.put, List.setIfInBounds_toArray, List.set_cons_zero, List.set_cons_succ]
          refine held_take 2 ?_ rfl (by kernel_rfl) (by kernel_rfl) (by kernel_rfl) (fun _ _ _ h => h) (by rfl) ?_ hS0 ?_
          rotate_left
          · intro wS hSw; go_simp <;> with_reducible rfl
          simp only [Act.put, List.setIfInBounds_toArray, List.set_cons_zero, List.set_cons_succ]
          refine held_take 3 ?_ rfl (by kernel_rfl) (by kernel_rfl) (by kernel_rfl) (fun _ _ _ h => h) (by rfl) ?_ hS0 ?_
          rotate_left
          · intro wS hSw; go_simp <;> with_reducible rfl
          simp only [Act.put, List.setIfInBounds_toArray, List.set_cons_zero, List.set_cons_succ]
          refine held_take 4 ?_ rfl (by kernel_rfl) (by kernel_rfl) (by kernel_rfl) (fun _ _ _ h => h) (by rfl) ?_ hS0 ?_
          rotate_left
          · intro wS hSw; go_simp <;> with_reducible rfl
          simp only [Act.put, List.setIfInBounds_toArray, List.set_cons_zero, List.set_cons_succ]
          refine held_take 5 ?_ rfl (by kernel_rfl) (by kernel_rfl) (by kernel_rfl) (fun _ _ _ h => h) (by rfl) ?_ hS0 ?_
          rotate_left
          · intro wS hSw; go_simp <;> with_reducible rfl
          simp only [Act.put, List.setIfInBounds_toArray, List.set_cons_zero, List.set_cons_succ]
          refine held_take 6 ?_ rfl (by kernel_rfl) (by kernel_rfl) (by kernel_rfl) (fun _ _ _ h => h) (by rfl) ?_ hS0 ?_
          rotate_left
          · intro wS hSw; go_simp <;> with_reducible rfl
          simp only [Act.put, List.setIfInBounds_toArray, List.set_cons_zero, List.set_cons_succ]
          refine held_take 7 ?_ rfl (by kernel_rfl) (by kernel_rfl) (by kernel_rfl) (fun _ _ _ h => h) (by rfl) ?_ hS0 ?_
          rotate_left
          · intro wS hSw; go_simp <;> with_reducible rfl
          simp only [Act.put, List.setIfInBounds_toArray, List.set_cons_zero, List.set_cons_succ]
          refine held_take 8 ?_ rfl (by kernel_rfl) (by kernel_rfl) (by kernel_rfl) (fun _ _ _ h => h) (by rfl) ?_ hS0 ?_
          rotate_left
          · intro wS hSw; go_simp <;> with_reducible rfl
          simp only [Act.put, List.setIfInBounds_toArray, List.set_cons_zero, List.set_cons_succ]
          refine held_take 9 ?_ rfl (by kernel_rfl) (by kernel_rfl) (by kernel_rfl) (fun _ _ _ h => h) (by rfl) ?_ hS0 ?_
          rotate_left
          · intro wS hSw; go_simp <;> with_reducible rfl
          simp only [Act.put, List.setIfInBounds_toArray, List.set_cons_zero, List.set_cons_succ]
          refine held_take 10 ?_ rfl (by kernel_rfl) (by kernel_rfl) (by kernel_rfl) (fun _ _ _ h => h) (by rfl) ?_ hS0 ?_
          rotate_left
          · intro wS hSw; go_simp <;> with_reducible rfl
          simp only [Act.put, List.setIfInBounds_toArray, List.set_cons_zero, List.set_cons_succ]
          refine held_take 11 ?_ rfl (by kernel_rfl) (by kernel_rfl) (by kernel_rfl) (fun _ _ _ h => h) (by rfl) ?_ hS0 ?_
          rotate_left
          · intro wS hSw; go_simp <;> with_reducible rfl
          simp only [Act.put, List.setIfInBounds_toArray, List.set_cons_zero, List.set_cons_succ]
          refine held_take 12 ?_ rfl (by kernel_rfl) (by kernel_rfl) (by kernel_rfl) (fun _ _ _ h => h) (by rfl) ?_ hS0 ?_
          rotate_left
          · intro wS hSw; go_simp <;> with_reducible rfl
          simp only [Act.put, List.setIfInBounds_toArray, List.set_cons_zero, List.set_cons_succ]
          refine held_take 13 ?_ rfl (by kernel_rfl) (by kernel_rfl) (by kernel_rfl) (fun _ _ _ h => h) (by rfl) ?_ hS0 ?_
          rotate_left
          · intro wS hSw; go_simp <;> with_reducible rfl
          simp only [Act.put, List.setIfInBounds_toArray, List.set_cons_zero, List.set_cons_succ]
          refine held_take 14 ?_ rfl (by kernel_rfl) (by kernel_rfl) (by kernel_rfl) (fun _ _ _ h => h) (by rfl) ?_ hS0 ?_
          rotate_left
          · intro wS hSw; go_simp <;> with_reducible rfl
          simp only [Act.put, List.setIfInBounds_toArray, List.set_cons_zero, List.set_cons_succ]
          refine held_take 15 ?_ rfl (by kernel_rfl) (by kernel_rfl) (by kernel_rfl) (fun _ _ _ h => h) (by rfl) ?_ hS0 ?_
          rotate_left
          · intro wS hSw; go_simp <;> with_reducible rfl
          simp only [Act.put, List.setIfInBounds_toArray, List.set_cons_zero, List.set_cons_succ]
          refine held_take 16 ?_ rfl (by kernel_rfl) (by kernel_rfl) (by kernel_rfl) (fun _ _ _ h => h) (by rfl) ?_ hS0 ?_
          rotate_left
          · intro wS hSw; (have cS := hSw.c1; go_simp) <;> with_reducible rfl
          simp only [Act.put, List.setIfInBounds_toArray, List.set_cons_zero, List.set_cons_succ]
          refine held_take 17 ?_ rfl (by kernel_rfl) (by kernel_rfl) (by kernel_rfl) (fun _ _ _ h => h) (by rfl) ?_ hS0 ?_
          rotate_left
          · intro wS hSw; go_simp <;> with_reducible rfl
          simp only [Act.put, List.setIfInBounds_toArray, List.set_cons_zero, List.set_cons_succ]
          refine held_take 18 ?_ rfl (by kernel_rfl) (by kernel_rfl) (by kernel_rfl) (fun _ _ _ h => h) (by rfl) ?_ hS0 ?_
          rotate_left
          · intro wS hSw; (have cS := hSw.c2; go_simp) <;> with_reducible rfl
          simp only [Act.put, List.setIfInBounds_toArray, List.set_cons_zero, List.set_cons_succ]
          refine held_take 20 ?_ rfl (by kernel_rfl) (by kernel_rfl) (by kernel_rfl) (fun _ _ _ h => h) (by rfl) ?_ hS0 ?_
          rotate_left
          · intro wS hSw; go_simp <;> with_reducible rfl
          simp only [Act.put, List.setIfInBounds_toArray, List.set_cons_zero, List.set_cons_succ]
          refine held_one 19 rfl (by kernel_rfl) (by rfl) (fun K hK => ?_)
          go_simp
          refine (holds_is hS0.tab HWM.out ac false HB.out).mono ?_
          rintro e wx ⟨rfl, rfl⟩
          refine hK.out _ _ _ (fun _ h => h) hS0 (fun _ => ?_)
          clear hK K
          refine held_take 21 ?_ rfl (by kernel_rfl) (by kernel_rfl) (by kernel_rfl) (fun _ _ _ h => h) (by rfl) ?_ hS0 ?_
          rotate_left
          · intro wS hSw; go_simp <;> with_reducible rfl
          simp only [Act.put, List.setIfInBounds_toArray, List.set_cons_zero, List.set_cons_succ]
          refine held_skip 22 rfl (by kernel_rfl) (by kernel_rfl) (by kernel_rfl) (fun _ _ _ h => h) (by rfl) hS0 ?_
          simp only [Act.put, List.setIfInBounds_toArray, List.set_cons_zero, List.set_cons_succ]
          refine held_skip 23 rfl (by kernel_rfl) (by kernel_rfl) (by kernel_rfl) (fun _ _ _ h => h) (by rfl) hS0 ?_
          simp only [Act.put, List.setIfInBounds_toArray, List.set_cons_zero, List.set_cons_succ]
          refine held_skip 24 rfl (by kernel_rfl) (by kernel_rfl) (by kernel_rfl) (fun _ _ _ h => h) (by rfl) hS0 ?_
          simp only [Act.put, List.setIfInBounds_toArray, List.set_cons_zero, List.set_cons_succ]
          refine held_skip 25 rfl (by kernel_rfl) (by kernel_rfl) (by kernel_rfl) (fun _ _ _ h => h) (by rfl) hS0 ?_
          simp only [Act.put, List.setIfInBounds_toArray, List.set_cons_zero, List.set_cons_succ]
          refine held_take 26 ?_ rfl (by kernel_rfl) (by kernel_rfl) (by kernel_rfl) (fun _ _ _ h => h) (by rfl) ?_ hS0 ?_
          rotate_left
          · intro wS hSw; go_simp <;> with_reducible rfl
          simp only [Act.put, List.setIfInBounds_toArray, List.set_cons_zero, List.set_cons_succ]
          refine held_take 27 ?_ rfl (by kernel_rfl) (by kernel_rfl) (by kernel_rfl) (fun _ _ _ h => h) (by rfl) ?_ hS0 ?_
          rotate_left
          · intro wS hSw; go_simp <;> with_reducible rfl
          simp only [Act.put, List.setIfInBounds_toArray, List.set_cons_zero, List.set_cons_succ]
          refine held_take 28 ?_ rfl (by kernel_rfl) (by kernel_rfl) (by kernel_rfl) (fun _ _ _ h => h) (by rfl) ?_ hS0 ?_
          rotate_left
          · intro wS hSw; go_simp <;> with_reducible rfl
          simp only [Act.put, List.setIfInBounds_toArray, List.set_cons_zero, List.set_cons_succ]
          refine held_take 29 ?_ rfl (by kernel_rfl) (by kernel_rfl) (by kernel_rfl) (fun _ _ _ h => h) (by rfl) ?_ hS0 ?_
          rotate_left
          · intro wS hSw; go_simp <;> with_reducible rfl
          simp only [Act.put, List.setIfInBounds_toArray, List.set_cons_zero, List.set_cons_succ]
          refine held_take 30 ?_ rfl (by kernel_rfl) (by kernel_rfl) (by kernel_rfl) (fun _ _ _ h => h) (by rfl) ?_ hS0 ?_
          rotate_left
          · intro wS hSw; go_simp <;> with_reducible rfl
          simp only [Act.put, List.setIfInBounds_toArray, List.set_cons_zero, List.set_cons_succ]
          refine held_take 31 ?_ rfl (by kernel_rfl) (by kernel_rfl) (by kernel_rfl) (fun _ _ _ h => h) (by rfl) ?_ hS0 ?_
          rotate_left
          · intro wS hSw; go_simp <;> with_reducible rfl
          simp only [Act.put, List.setIfInBounds_toArray, List.set_cons_zero, List.set_cons_succ]
          refine held_take 32 ?_ rfl (by kernel_rfl) (by kernel_rfl) (by kernel_rfl) (fun _ _ _ h => h) (by rfl) ?_ hS0 ?_
          rotate_left
          · intro wS hSw; (have cS := hSw.c2; go_simp) <;> with_reducible rfl
          simp only [Act.put, List.setIfInBounds_toArray, List.set_cons_zero, List.set_cons_succ]
          refine held_take 34 ?_ rfl (by kernel_rfl) (by kernel_rfl) (by kernel_rfl) (fun _ _ _ h => h) (by rfl) ?_ hS0 ?_
          rotate_left
          · intro wS hSw; go_simp <;> with_reducible rfl
          simp only [Act.put, List.setIfInBounds_toArray, List.set_cons_zero, List.set_cons_succ]
          refine held_take 35 ?_ rfl (by kernel_rfl) (by kernel_rfl) (by kernel_rfl) (fun _ _ _ h => h) (by rfl) ?_ hS0 ?_
          rotate_left
          · intro wS hSw; go_simp <;> with_reducible rfl
          simp only [Act.put, List.setIfInBounds_toArray, List.set_cons_zero, List.set_cons_succ]
          refine held_take 36 ?_ rfl (by kernel_rfl) (by kernel_rfl) (by kernel_rfl) (fun _ _ _ h => h) (by rfl) ?_ hS0 ?_
          rotate_left
          · intro wS hSw; (have cS := hSw.c2; go_simp) <;> with_reducible rfl
          simp only [Act.put, List.setIfInBounds_toArray, List.set_cons_zero, List.set_cons_succ]
          refine held_one 33 rfl (by kernel_rfl) (by rfl) (fun K hK => ?_)
          go_simp
          refine (of_tab hS0.tab ac).mono ?_
          rintro e wx ⟨v, rfl, h5, g5⟩
          have hT5 := hS0.grown g5
          refine hK.out (fun wS => Turn w tb mb lo wr.heap.size ak am ac (k + 1) g1 cap1 t1 t1 wS ∧ Ints wS _ v (ofL t1 ac 4)) _ _ (fun _ h => h.1) ⟨hT5, h5⟩ (fun hS1 => ?_)
          clear hK K
          refine held_one 37 rfl (by kernel_rfl) (by rfl) (fun K hK => ?_)
          go_simp
          refine (refof hS1.1.ref ac).mono ?_
          rintro e wx ⟨v2, rfl, h6, g6⟩
          have hT6 := hS1.1.grown g6
          have h7 := hS1.2.kept g6 (by simp)
          refine hK.out (fun wS => (Turn w tb mb lo wr.heap.size ak am ac (k + 1) g1 cap1 t1 t1 wS ∧ Ints wS _ v (ofL t1 ac 4)) ∧ Ints wS _ v2 (ofL t1 ac 4)) _ _ (fun _ h => h.1) ⟨⟨hT6, h7⟩, h6⟩ (fun hS2 => ?_)
          clear hK K
          refine held_one 38 rfl (by kernel_rfl) (by rfl) (fun K hK => ?_)
          go_simp
          refine (ints_same hS2.1.2 hS2.2).mono ?_
          rintro e wx ⟨rfl, g8⟩
          have hS3 := And.intro (And.intro (hS2.1.1.grown g8) (hS2.1.2.kept g8 (by simp))) (hS2.2.kept g8 (by simp))
          refine hK.out _ _ _ (fun _ h => h) hS3 (fun _ => ?_)
          clear hK K
          refine held_take 39 ?_ rfl (by kernel_rfl) (by kernel_rfl) (by kernel_rfl) (fun _ _ _ h => h) (by rfl) ?_ hS3 ?_
          rotate_left
          · intro wS hSw; go_simp <;> with_reducible rfl
          simp only [Act.put, List.setIfInBounds_toArray, List.set_cons_zero, List.set_cons_succ]
          refine held_take 40 ?_ rfl (by kernel_rfl) (by kernel_rfl) (by kernel_rfl) (fun _ _ _ h => h) (by rfl) ?_ hS3 ?_
          rotate_left
          · intro wS hSw; go_simp <;> with_reducible rfl
          simp only [Act.put, List.setIfInBounds_toArray, List.set_cons_zero, List.set_cons_succ]
          refine wpAnyH_done (by kernel_rfl) ?_ _
          refine NoPanic.normal ?_
          go_wp2_with fail
          go_roundw
          case rel => exact ⟨k + 1, g1, cap1, t1, by omega, by omega, rfl, by go_num, ⟨hS3.1.1.tab, hS3.1.1.ref, hS3.1.1.below⟩⟩
          case measure => simp [intOf]; omega
        · have hoc : holdsB t1 am ac = (o == ac) := by rw [HO.out.2.2]; rfl
          have HB := Lib.hid hoc
          clear hoc
          obtain ⟨bh, hbh⟩ : ∃ bh, (o == ac) = bh := ⟨_, rfl⟩
          have HB2 := Lib.hid (HB.out.trans hbh)
          go_wp2_with fail
          refine held_begin (Turn w tb mb lo wr.heap.size ak am ac (k + 1) g1 cap1 t1 t1) (by kernel_rfl) hS0 ?_
          refine held_take 0 ?_ rfl (by kernel_rfl) (by kernel_rfl) (by kernel_rfl) (fun _ _ _ h => h) (by rfl) ?_ hS0 ?_
          rotate_left
          · intro wS hSw; go_simp <;> with_reducible rfl
          simp only [Act.put, List.setIfInBounds_toArray, List.set_cons_zero, List.set_cons_succ]
          refine held_take 1 ?_ rfl (by kernel_rfl) (by kernel_rfl) (by kernel_rfl) (fun _ _ _ h => h) (by rfl) ?_ hS0 ?_
          rotate_left
          · intro wS hSw; go_simp <;> with_reducible rfl
          simp only [Act.put, List.setIfInBounds_toArray, List.set_cons_zero, List.set_cons_succ]
          refine held_take 2 ?_ rfl (by kernel_rfl) (by kernel_rfl) (by kernel_rfl) (fun _ _ _ h => h) (by rfl) ?_ hS0 ?_
          rotate_left
          · intro wS hSw; go_simp <;> with_reducible rfl
          simp only [Act.put, List.setIfInBounds_toArray, List.set_cons_zero, List.set_cons_succ]
          refine held_take 3 ?_ rfl (by kernel_rfl) (by kernel_rfl) (by kernel_rfl) (fun _ _ _ h => h) (by rfl) ?_ hS0 ?_
          rotate_left
          · intro wS hSw; go_simp <;> with_reducible rfl
          simp only [Act.put, List.setIfInBounds_toArray, List.set_cons_zero, List.set_cons_succ]
          refine held_take 4 ?_ rfl (by kernel_rfl) (by kernel_rfl) (by kernel_rfl) (fun _ _ _ h => h) (by rfl) ?_ hS0 ?_
          rotate_left
          · intro wS hSw; go_simp <;> with_reducible rfl
          simp only [Act.put, List.setIfInBounds_toArray, List.set_cons_zero, List.set_cons_succ]
          refine held_take 5 ?_ rfl (by kernel_rfl) (by kernel_rfl) (by kernel_rfl) (fun _ _ _ h => h) (by rfl) ?_ hS0 ?_
          rotate_left
          · intro wS hSw; go_simp <;> with_reducible rfl
          simp only [Act.put, List.setIfInBounds_toArray, List.set_cons_zero, List.set_cons_succ]
          refine held_take 6 ?_ rfl (by kernel_rfl) (by kernel_rfl) (by kernel_rfl) (fun _ _ _ h => h) (by rfl) ?_ hS0 ?_
          rotate_left
          · intro wS hSw; go_simp <;> with_reducible rfl
          simp only [Act.put, List.setIfInBounds_toArray, List.set_cons_zero, List.set_cons_succ]
          refine held_take 7 ?_ rfl (by kernel_rfl) (by kernel_rfl) (by kernel_rfl) (fun _ _ _ h => h) (by rfl) ?_ hS0 ?_
          rotate_left
          · intro wS hSw; go_simp <;> with_reducible rfl
          simp only [Act.put, List.setIfInBounds_toArray, List.set_cons_zero, List.set_cons_succ]
          refine held_take 8 ?_ rfl (by kernel_rfl) (by kernel_rfl) (by kernel_rfl) (fun _ _ _ h => h) (by rfl) ?_ hS0 ?_
          rotate_left
          · intro wS hSw; go_simp <;> with_reducible rfl
          simp only [Act.put, List.setIfInBounds_toArray, List.set_cons_zero, List.set_cons_succ]
          refine held_take 9 ?_ rfl (by kernel_rfl) (by kernel_rfl) (by kernel_rfl) (fun _ _ _ h => h) (by rfl) ?_ hS0 ?_
          rotate_left
          · intro wS hSw; go_simp <;> with_reducible rfl
          simp only [Act.put, List.setIfInBounds_toArray, List.set_cons_zero, List.set_cons_succ]
          refine held_take 10 ?_ rfl (by kernel_rfl) (by kernel_rfl) (by kernel_rfl) (fun _ _ _ h => h) (by rfl) ?_ hS0 ?_
          rotate_left
          · intro wS hSw; go_simp <;> with_reducible rfl
          simp only [Act.put, List.setIfInBounds_toArray, List.set_cons_zero, List.set_cons_succ]
          refine held_take 11 ?_ rfl (by kernel_rfl) (by kernel_rfl) (by kernel_rfl) (fun _ _ _ h => h) (by rfl) ?_ hS0 ?_
          rotate_left
          · intro wS hSw; go_simp <;> with_reducible rfl
          simp only [Act.put, List.setIfInBounds_toArray, List.set_cons_zero, List.set_cons_succ]
          refine held_take 12 ?_ rfl (by kernel_rfl) (by kernel_rfl) (by kernel_rfl) (fun _ _ _ h => h) (by rfl) ?_ hS0 ?_
          rotate_left
          · intro wS hSw; go_simp <;> with_reducible rfl
          simp only [Act.put, List.setIfInBounds_toArray, List.set_cons_zero, List.set_cons_succ]
          refine held_take 13 ?_ rfl (by kernel_rfl) (by kernel_rfl) (by kernel_rfl) (fun _ _ _ h => h) (by rfl) ?_ hS0 ?_
          rotate_left
          · intro wS hSw; go_simp <;> with_reducible rfl
          simp only [Act.put, List.setIfInBounds_toArray, List.set_cons_zero, List.set_cons_succ]
          refine held_take 14 ?_ rfl (by kernel_rfl) (by kernel_rfl) (by kernel_rfl) (fun _ _ _ h => h) (by rfl) ?_ hS0 ?_
          rotate_left
          · intro wS hSw; go_simp <;> with_reducible rfl
          simp only [Act.put, List.setIfInBounds_toArray, List.set_cons_zero, List.set_cons_succ]
          refine held_take 15 ?_ rfl (by kernel_rfl) (by kernel_rfl) (by kernel_rfl) (fun _ _ _ h => h) (by rfl) ?_ hS0 ?_
          rotate_left
          · intro wS hSw; go_simp <;> with_reducible rfl
          simp only [Act.put, List.setIfInBounds_toArray, List.set_cons_zero, List.set_cons_succ]
          refine held_take 16 ?_ rfl (by kernel_rfl) (by kernel_rfl) (by kernel_rfl) (fun _ _ _ h => h) (by rfl) ?_ hS0 ?_
          rotate_left
          · intro wS hSw; (have cS := hSw.c1; go_simp) <;> with_reducible rfl
          simp only [Act.put, List.setIfInBounds_toArray, List.set_cons_zero, List.set_cons_succ]
          refine held_take 17 ?_ rfl (by kernel_rfl) (by kernel_rfl) (by kernel_rfl) (fun _ _ _ h => h) (by rfl) ?_ hS0 ?_
          rotate_left
          · intro wS hSw; go_simp <;> with_reducible rfl
          simp only [Act.put, List.setIfInBounds_toArray, List.set_cons_zero, List.set_cons_succ]
          refine held_take 18 ?_ rfl (by kernel_rfl) (by kernel_rfl) (by kernel_rfl) (fun _ _ _ h => h) (by rfl) ?_ hS0 ?_
          rotate_left
          · intro wS hSw; (have cS := hSw.c2; go_simp) <;> with_reducible rfl
          simp only [Act.put, List.setIfInBounds_toArray, List.set_cons_zero, List.set_cons_succ]
          refine held_take 20 ?_ rfl (by kernel_rfl) (by kernel_rfl) (by kernel_rfl) (fun _ _ _ h => h) (by rfl) ?_ hS0 ?_
          rotate_left
          · intro wS hSw; go_simp <;> with_reducible rfl
          simp only [Act.put, List.setIfInBounds_toArray, List.set_cons_zero, List.set_cons_succ]
          refine held_one 19 rfl (by kernel_rfl) (by rfl) (fun K hK => ?_)
          go_simp
          refine (holds_is hS0.tab HWM.out ac bh HB2.out).mono ?_
          rintro e wx ⟨rfl, rfl⟩
          refine hK.out _ _ _ (fun _ h => h) hS0 (fun _ => ?_)
          clear hK K
          refine held_take 21 ?_ rfl (by kernel_rfl) (by kernel_rfl) (by kernel_rfl) (fun _ _ _ h => h) (by rfl) ?_ hS0 ?_
          rotate_left
          · intro wS hSw; go_simp <;> with_reducible rfl
          simp only [Act.put, List.setIfInBounds_toArray, List.set_cons_zero, List.set_cons_succ]
          refine held_take 22 ?_ rfl (by kernel_rfl) (by kernel_rfl) (by kernel_rfl) (fun _ _ _ h => h) (by rfl) ?_ hS0 ?_
          rotate_left
          · intro wS hSw; go_simp <;> with_reducible rfl
          simp only [Act.put, List.setIfInBounds_toArray, List.set_cons_zero, List.set_cons_succ]
          refine held_take 23 ?_ rfl (by kernel_rfl) (by kernel_rfl) (by kernel_rfl) (fun _ _ _ h => h) (by rfl) ?_ hS0 ?_
          rotate_left
          · intro wS hSw; go_simp <;> with_reducible rfl
          simp only [Act.put, List.setIfInBounds_toArray, List.set_cons_zero, List.set_cons_succ]
          refine held_take 24 ?_ rfl (by kernel_rfl) (by kernel_rfl) (by kernel_rfl) (fun _ _ _ h => h) (by rfl) ?_ hS0 ?_
          rotate_left
          · intro wS hSw; (have cS := hSw.c2; go_simp) <;> with_reducible rfl
          simp only [Act.put, List.setIfInBounds_toArray, List.set_cons_zero, List.set_cons_succ]
          refine held_take 25 ?_ rfl (by kernel_rfl) (by kernel_rfl) (by kernel_rfl) (fun _ _ _ h => h) (by rfl) ?_ hS0 ?_
          rotate_left
          · intro wS hSw; go_simp <;> with_reducible rfl
          simp only [Act.put, List.setIfInBounds_toArray, List.set_cons_zero, List.set_cons_succ]
          refine held_take 26 ?_ rfl (by kernel_rfl) (by kernel_rfl) (by kernel_rfl) (fun _ _ _ h => h) (by rfl) ?_ hS0 ?_
          rotate_left
          · intro wS hSw; go_simp <;> with_reducible rfl
          simp only [Act.put, List.setIfInBounds_toArray, List.set_cons_zero, List.set_cons_succ]
          refine held_take 27 ?_ rfl (by kernel_rfl) (by kernel_rfl) (by kernel_rfl) (fun _ _ _ h => h) (by rfl) ?_ hS0 ?_
          rotate_left
          · intro wS hSw; go_simp <;> with_reducible rfl
          simp only [Act.put, List.setIfInBounds_toArray, List.set_cons_zero, List.set_cons_succ]
          refine held_take 28 ?_ rfl (by kernel_rfl) (by kernel_rfl) (by kernel_rfl) (fun _ _ _ h => h) (by rfl) ?_ hS0 ?_
          rotate_left
          · intro wS hSw; go_simp <;> with_reducible rfl
          simp only [Act.put, List.setIfInBounds_toArray, List.set_cons_zero, List.set_cons_succ]
          refine held_take 29 ?_ rfl (by kernel_rfl) (by kernel_rfl) (by kernel_rfl) (fun _ _ _ h => h) (by rfl) ?_ hS0 ?_
          rotate_left
          · intro wS hSw; go_simp <;> with_reducible rfl
          simp only [Act.put, List.setIfInBounds_toArray, List.set_cons_zero, List.set_cons_succ]
          refine held_take 30 ?_ rfl (by kernel_rfl) (by kernel_rfl) (by kernel_rfl) (fun _ _ _ h => h) (by rfl) ?_ hS0 ?_
          rotate_left
          · intro wS hSw; go_simp <;> with_reducible rfl
          simp only [Act.put, List.setIfInBounds_toArray, List.set_cons_zero, List.set_cons_succ]
          refine held_take 31 ?_ rfl (by kernel_rfl) (by kernel_rfl) (by kernel_rfl) (fun _ _ _ h => h) (by rfl) ?_ hS0 ?_
          rotate_left
          · intro wS hSw; go_simp <;> with_reducible rfl
          simp only [Act.put, List.setIfInBounds_toArray, List.set_cons_zero, List.set_cons_succ]
          refine held_take 32 ?_ rfl (by kernel_rfl) (by kernel_rfl) (by kernel_rfl) (fun _ _ _ h => h) (by rfl) ?_ hS0 ?_
          rotate_left
          · intro wS hSw; (have cS := hSw.c2; go_simp) <;> with_reducible rfl
          simp only [Act.put, List.setIfInBounds_toArray, List.set_cons_zero, List.set_cons_succ]
          refine held_take 34 ?_ rfl (by kernel_rfl) (by kernel_rfl) (by kernel_rfl) (fun _ _ _ h => h) (by rfl) ?_ hS0 ?_
          rotate_left
          · intro wS hSw; go_simp <;> with_reducible rfl
          simp only [Act.put, List.setIfInBounds_toArray, List.set_cons_zero, List.set_cons_succ]
          refine held_take 35 ?_ rfl (by kernel_rfl) (by kernel_rfl) (by kernel_rfl) (fun _ _ _ h => h) (by rfl) ?_ hS0 ?_
          rotate_left
          · intro wS hSw; go_simp <;> with_reducible rfl
          simp only [Act.put, List.setIfInBounds_toArray, List.set_cons_zero, List.set_cons_succ]
          refine held_take 36 ?_ rfl (by kernel_rfl) (by kernel_rfl) (by kernel_rfl) (fun _ _ _ h => h) (by rfl) ?_ hS0 ?_
          rotate_left
          · intro wS hSw; (have cS := hSw.c2; go_simp) <;> with_reducible rfl
          simp only [Act.put, List.setIfInBounds_toArray, List.set_cons_zero, List.set_cons_succ]
          refine held_one 33 rfl (by kernel_rfl) (by rfl) (fun K hK => ?_)
          go_simp
          refine (of_tab hS0.tab ac).mono ?_
          rintro e wx ⟨v, rfl, h5, g5⟩
          have hT5 := hS0.grown g5
          refine hK.out (fun wS => Turn w tb mb lo wr.heap.size ak am ac (k + 1) g1 cap1 t1 t1 wS ∧ Ints wS _ v (ofL t1 ac 4)) _ _ (fun _ h => h.1) ⟨hT5, h5⟩ (fun hS1 => ?_)
          clear hK K
          refine held_one 37 rfl (by kernel_rfl) (by rfl) (fun K hK => ?_)
          go_simp
          refine (refof hS1.1.ref ac).mono ?_
          rintro e wx ⟨v2, rfl, h6, g6⟩
          have hT6 := hS1.1.grown g6
          have h7 := hS1.2.kept g6 (by simp)
          refine hK.out (fun wS => (Turn w tb mb lo wr.heap.size ak am ac (k + 1) g1 cap1 t1 t1 wS ∧ Ints wS _ v (ofL t1 ac 4)) ∧ Ints wS _ v2 (ofL t1 ac 4)) _ _ (fun _ h => h.1) ⟨⟨hT6, h7⟩, h6⟩ (fun hS2 => ?_)
          clear hK K
          refine held_one 38 rfl (by kernel_rfl) (by rfl) (fun K hK => ?_)
          go_simp
          refine (ints_same hS2.1.2 hS2.2).mono ?_
          rintro e wx ⟨rfl, g8⟩
          have hS3 := And.intro (And.intro (hS2.1.1.grown g8) (hS2.1.2.kept g8 (by simp))) (hS2.2.kept g8 (by simp))
          refine hK.out _ _ _ (fun _ h => h) hS3 (fun _ => ?_)
          clear hK K
          refine held_take 39 ?_ rfl (by kernel_rfl) (by kernel_rfl) (by kernel_rfl) (fun _ _ _ h => h) (by rfl) ?_ hS3 ?_
          rotate_left
          · intro wS hSw; go_simp <;> with_reducible rfl
          simp only [Act.put, List.setIfInBounds_toArray, List.set_cons_zero, List.set_cons_succ]
          refine held_take 40 ?_ rfl (by kernel_rfl) (by kernel_rfl) (by kernel_rfl) (fun _ _ _ h => h) (by rfl) ?_ hS3 ?_
          rotate_left
          · intro wS hSw; go_simp <;> with_reducible rfl
          simp only [Act.put, List.setIfInBounds_toArray, List.set_cons_zero, List.set_cons_succ]
          refine wpAnyH_done (by kernel_rfl) ?_ _
          refine NoPanic.normal ?_
          go_wp2_with fail
          go_roundw
          case rel => exact ⟨k + 1, g1, cap1, t1, by omega, by omega, rfl, by go_num, ⟨hS3.1.1.tab, hS3.1.1.ref, hS3.1.1.below⟩⟩
          case measure => simp [intOf]; omega
      · clear hq4
        obtain ⟨er, t1, her, ht1⟩ : ∃ er t1, unlockE t am ac = er ∧ unlockT t am ac = t1 := ⟨_, _, rfl, rfl⟩
        have HF := Lib.hid (And.intro her ht1)
        clear her ht1
        have HT0 := Lib.hid (Turn.start (ak := ak) (am := am) (ac := ac) HP.out)
        have hmn : mb ≠ wr.heap.size := by have := HP.out.tab.ltm; omega
        go_wp2_with fail
        clear d0 d1 d2
        refine (unlock_is HT0.out.tab (by omega) am ac t1 er HF.out.2 HF.out.1).mono ?_
        rintro e w4 ⟨rfl, h4, g4⟩
        have HT1 := Lib.hid (HT0.out.wrote hwm hml hmn (h4.mono (Nat.le_succ k)) g4)
        have k1 := HT1.out.c1
        have k2 := HT1.out.c2
        clear h4 g4
        go_wp2_with fail
        refine (refunlock HT1.out.ref HT1.out.lo am ac er t1 HF.out.1 HF.out.2).mono ?_
        rintro e w5 ⟨g1, cap1, rfl, h5, g5⟩
        have HT2 := Lib.hid (HT1.out.told h5 g5)
        clear h5 g5 k1 k2
        have k1 := HT2.out.c1
        have k2 := HT2.out.c2
        obtain ⟨o, bo, ho, hbo⟩ : ∃ (o : Int) (bo : Bool), heldBy t1 am = o ∧ decide (0 ≤ hold t1 am) = bo := ⟨_, _, rfl, rfl⟩
        have hbh : holdsB t1 am ac = (bo && (o == ac)) := by rw [← ho, ← hbo]; rfl
        have HO := Lib.hid (And.intro ho (And.intro hbo hbh))
        clear ho hbo hbh
        go_wp2_with fail
        refine (owner_is HT2.out.tab HWM.out o bo HO.out.1 HO.out.2.1).mono ?_
        rintro e w6 ⟨rfl, rfl⟩
        go_wp2_with fail
        refine (refowner HT2.out.ref am o bo HO.out.1 HO.out.2.1).mono ?_
        rintro e w7 ⟨rfl, rfl⟩
        have hS0 := HT2.out.grown (grown_drew _ none)
        clear k1 k2
        cases bo
        · have hoc : holdsB t1 am ac = false := by rw [HO.out.2.2]; rfl
          have HB := Lib.hid hoc
          clear hoc
          go_wp2_with fail
          refine held_begin (Turn w tb mb lo wr.heap.size ak am ac (k + 1) g1 cap1 t1 t1) (by kernel_rfl) hS0 ?_
          refine held_take 0 ?_ rfl (by kernel_rfl) (by kernel_rfl) (by kernel_rfl) (fun _ _ _ h => h) (by rfl) ?_ hS0 ?_
          rotate_left
          · intro wS hSw; go_simp <;> with_reducible rfl
          simp only [Act.put, List.setIfInBounds_toArray, List.set_cons_zero, List.set_cons_succ]
          refine held_take 1 ?_ rfl (by kernel_rfl) (by kernel_rfl) (by kernel_rfl) (fun _ _ _ h => h) (by rfl) ?_ hS0 ?_
          rotate_left
          · intro wS hSw; go_simp <;> with_reducible rfl
          simp only [Act.put, List.setIfInBounds_toArray, List.set_cons_zero, List.set_cons_succ]
          refine held_take 2 ?_ rfl (by kernel_rfl) (by kernel_rfl) (by kernel_rfl) (fun _ _ _ h => h) (by rfl) ?_ hS0 ?_
          rotate_left
          · intro wS hSw; go_simp <;> with_reducible rfl
          simp only [Act.put, List.setIfInBounds_toArray, List.set_cons_zero, List.set_cons_succ]
          refine held_take 3 ?_ rfl (by kernel_rfl) (by kernel_rfl) (by kernel_rfl) (fun _ _ _ h => h) (by rfl) ?_ hS0 ?_
          rotate_left
          · intro wS hSw; go_simp <;> with_reducible rfl
          simp only [Act.put, List.setIfInBounds_toArray, List.set_cons_zero, List.set_cons_succ]
          refine held_take 4 ?_ rfl (by kernel_rfl) (by kernel_rfl) (by kernel_rfl) (fun _ _ _ h => h) (by rfl) ?_ hS0 ?_
          rotate_left
          · intro wS hSw; go_simp <;> with_reducible rfl
          simp only [Act.put, List.setIfInBounds_toArray, List.set_cons_zero, List.set_cons_succ]
          refine held_take 5 ?_ rfl (by kernel_rfl) (by kernel_rfl) (by kernel_rfl) (fun _ _ _ h => h) (by rfl) ?_ hS0 ?_
          rotate_left
          · intro wS hSw; go_simp <;> with_reducible rfl
          simp only [Act.put, List.setIfInBounds_toArray, List.set_cons_zero, List.set_cons_succ]
          refine held_take 6 ?_ rfl (by kernel_rfl) (by kernel_rfl) (by kernel_rfl) (fun _ _ _ h => h) (by rfl) ?_ hS0 ?_
          rotate_left
          · intro wS hSw; go_simp <;> with_reducible rfl
          simp only [Act.put, List.setIfInBounds_toArray, List.set_cons_zero, List.set_cons_succ]
          refine held_take 7 ?_ rfl (by kernel_rfl) (by kernel_rfl) (by kernel_rfl) (fun _ _ _ h => h) (by rfl) ?_ hS0 ?_
          rotate_left
          · intro wS hSw; go_simp <;> with_reducible rfl
          simp only [Act.put, List.setIfInBounds_toArray, List.set_cons_zero, List.set_cons_succ]
          refine held_take 8 ?_ rfl (by kernel_rfl) (by kernel_rfl) (by kernel_rfl) (fun _ _ _ h => h) (by rfl) ?_ hS0 ?_
          rotate_left
          · intro wS hSw; go_simp <;> with_reducible rfl
          simp only [Act.put, List.setIfInBounds_toArray, List.set_cons_zero, List.set_cons_succ]
          refine held_take 9 ?_ rfl (by kernel_rfl) (by kernel_rfl) (by kernel_rfl) (fun _ _ _ h => h) (by rfl) ?_ hS0 ?_
          rotate_left
          · intro wS hSw; go_simp <;> with_reducible rfl
          simp only [Act.put, List.setIfInBounds_toArray, List.set_cons_zero, List.set_cons_succ]
          refine held_take 10 ?_ rfl (by kernel_rfl) (by kernel_rfl) (by kernel_rfl) (fun _ _ _ h => h) (by rfl) ?_ hS0 ?_
          rotate_left
          · intro wS hSw; go_simp <;> with_reducible rfl
          simp only [Act.put, List.setIfInBounds_toArray, List.set_cons_zero, List.set_cons_succ]
          refine held_take 11 ?_ rfl (by kernel_rfl) (by kernel_rfl) (by kernel_rfl) (fun _ _ _ h => h) (by rfl) ?_ hS0 ?_
          rotate_left
          · intro wS hSw; go_simp <;> with_reducible rfl
          simp only [Act.put, List.setIfInBounds_toArray, List.set_cons_zero, List.set_cons_succ]
          refine held_take 12 ?_ rfl (by kernel_rfl) (by kernel_rfl) (by kernel_rfl) (fun _ _ _ h => h) (by rfl) ?_ hS0 ?_
          rotate_left
          · intro wS hSw; go_simp <;> with_reducible rfl
          simp only [Act.put, List.setIfInBounds_toArray, List.set_cons_zero, List.set_cons_succ]
          refine held_take 13 ?_ rfl (by kernel_rfl) (by kernel_rfl) (by kernel_rfl) (fun _ _ _ h => h) (by rfl) ?_ hS0 ?_
          rotate_left
          · intro wS hSw; go_simp <;> with_reducible rfl
          simp only [Act.put, List.setIfInBounds_toArray, List.set_cons_zero, List.set_cons_succ]
          refine held_take 14 ?_ rfl (by kernel_rfl) (by kernel_rfl) (by kernel_rfl) (fun _ _ _ h => h) (by rfl) ?_ hS0 ?_
          rotate_left
          · intro wS hSw; go_simp <;> with_reducible rfl
          simp only [Act.put, List.setIfInBounds_toArray, List.set_cons_zero, List.set_cons_succ]
          refine held_take 15 ?_ rfl (by kernel_rfl) (by kernel_rfl) (by kernel_rfl) (fun _ _ _ h => h) (by rfl) ?_ hS0 ?_
          rotate_left
          · intro wS hSw; go_simp <;> with_reducible rfl
          simp only [Act.put, List.setIfInBounds_toArray, List.set_cons_zero, List.set_cons_succ]
          refine held_take 16 ?_ rfl (by kernel_rfl) (by kernel_rfl) (by kernel_rfl) (fun _ _ _ h => h) (by rfl) ?_ hS0 ?_
          rotate_left
          · intro wS hSw; (have cS := hSw.c1; go_simp) <;> with_reducible rfl
          simp only [Act.put, List.setIfInBounds_toArray, List.set_cons_zero, List.set_cons_succ]
          refine held_take 17 ?_ rfl (by kernel_rfl) (by kernel_rfl) (by kernel_rfl) (fun _ _ _ h => h) (by rfl) ?_ hS0 ?_
          rotate_left
          · intro wS hSw; go_simp <;> with_reducible rfl
          simp only [Act.put, List.setIfInBounds_toArray, List.set_cons_zero, List.set_cons_succ]
          refine held_take 18 ?_ rfl (by kernel_rfl) (by kernel_rfl) (by kernel_rfl) (fun _ _ _ h => h) (by rfl) ?_ hS0 ?_
          rotate_left
          · intro wS hSw; (have cS := hSw.c2; go_simp) <;> with_reducible rfl
          simp only [Act.put, List.setIfInBounds_toArray, List.set_cons_zero, List.set_cons_succ]
          refine held_take 20 ?_ rfl (by kernel_rfl) (by kernel_rfl) (by kernel_rfl) (fun _ _ _ h => h) (by rfl) ?_ hS0 ?_
          rotate_left
          · intro wS hSw; go_simp <;> with_reducible rfl
          simp only [Act.put, List.setIfInBounds_toArray, List.set_cons_zero, List.set_cons_succ]
          refine held_one 19 rfl (by kernel_rfl) (by rfl) (fun K hK => ?_)
          go_simp
          refine (holds_is hS0.tab HWM.out ac false HB.out).mono ?_
          rintro e wx ⟨rfl, rfl⟩
          refine hK.out _ _ _ (fun _ h => h) hS0 (fun _ => ?_)
          clear hK K
          refine held_take 21 ?_ rfl (by kernel_rfl) (by kernel_rfl) (by kernel_rfl) (fun _ _ _ h => h) (by rfl) ?_ hS0 ?_
          rotate_left
          · intro wS hSw; go_simp <;> with_reducible rfl
          simp only [Act.put, List.setIfInBounds_toArray, List.set_cons_zero, List.set_cons_succ]
          refine held_skip 22 rfl (by kernel_rfl) (by kernel_rfl) (by kernel_rfl) (fun _ _ _ h => h) (by rfl) hS0 ?_
          simp only [Act.put, List.setIfInBounds_toArray, List.set_cons_zero, List.set_cons_succ]
          refine held_skip 23 rfl (by kernel_rfl) (by kernel_rfl) (by kernel_rfl) (fun _ _ _ h => h) (by rfl) hS0 ?_
          simp only [Act.put, List.setIfInBounds_toArray, List.set_cons_zero, List.set_cons_succ]
          refine held_skip 24 rfl (by kernel_rfl) (by kernel_rfl) (by kernel_rfl) (fun _ _ _ h => h) (by rfl) hS0 ?_
          simp only [Act.put, List.setIfInBounds_toArray, List.set_cons_zero, List.set_cons_succ]
          refine held_skip 25 rfl (by kernel_rfl) (by kernel_rfl) (by kernel_rfl) (fun _ _ _ h => h) (by rfl) hS0 ?_
          simp only [Act.put, List.setIfInBounds_toArray, List.set_cons_zero, List.set_cons_succ]
          refine held_take 26 ?_ rfl (by kernel_rfl) (by kernel_rfl) (by kernel_rfl) (fun _ _ _ h => h) (by rfl) ?_ hS0 ?_
          rotate_left
          · intro wS hSw; go_simp <;> with_reducible rfl
          simp only [Act.put, List.setIfInBounds_toArray, List.set_cons_zero, List.set_cons_succ]
          refine held_take 27 ?_ rfl (by kernel_rfl) (by kernel_rfl) (by kernel_rfl) (fun _ _ _ h => h) (by rfl) ?_ hS0 ?_
          rotate_left
          · intro wS hSw; go_simp <;> with_reducible rfl
          simp only [Act.put, List.setIfInBounds_toArray, List.set_cons_zero, List.set_cons_succ]
          refine held_take 28 ?_ rfl (by kernel_rfl) (by kernel_rfl) (by kernel_rfl) (fun _ _ _ h => h) (by rfl) ?_ hS0 ?_
          rotate_left
          · intro wS hSw; go_simp <;> with_reducible rfl
          simp only [Act.put, List.setIfInBounds_toArray, List.set_cons_zero, List.set_cons_succ]
          refine held_take 29 ?_ rfl (by kernel_rfl) (by kernel_rfl) (by kernel_rfl) (fun _ _ _ h => h) (by rfl) ?_ hS0 ?_
          rotate_left
          · intro wS hSw; go_simp <;> with_reducible rfl
          simp only [Act.put, List.setIfInBounds_toArray, List.set_cons_zero, List.set_cons_succ]
          refine held_take 30 ?_ rfl (by kernel_rfl) (by kernel_rfl) (by kernel_rfl) (fun _ _ _ h => h) (by rfl) ?_ hS0 ?_
          rotate_left
          · intro wS hSw; go_simp <;> with_reducible rfl
          simp only [Act.put, List.setIfInBounds_toArray, List.set_cons_zero, List.set_cons_succ]
          refine held_take 31 ?_ rfl (by kernel_rfl) (by kernel_rfl) (by kernel_rfl) (fun _ _ _ h => h) (by rfl) ?_ hS0 ?_
          rotate_left
          · intro wS hSw; go_simp <;> with_reducible rfl
          simp only [Act.put, List.setIfInBounds_toArray, List.set_cons_zero, List.set_cons_succ]
          refine held_take 32 ?_ rfl (by kernel_rfl) (by kernel_rfl) (by kernel_rfl) (fun _ _ _ h => h) (by rfl) ?_ hS0 ?_
          rotate_left
          · intro wS hSw; (have cS := hSw.c2; go_simp) <;> with_reducible rfl
          simp only [Act.put, List.setIfInBounds_toArray, List.set_cons_zero, List.set_cons_succ]
          refine held_take 34 ?_ rfl (by kernel_rfl) (by kernel_rfl) (by kernel_rfl) (fun _ _ _ h => h) (by rfl) ?_ hS0 ?_
          rotate_left
          · intro wS hSw; go_simp <;> with_reducible rfl
          simp only [Act.put, List.setIfInBounds_toArray, List.set_cons_zero, List.set_cons_succ]
          refine held_take 35 ?_ rfl (by kernel_rfl) (by kernel_rfl) (by kernel_rfl) (fun _ _ _ h => h) (by rfl) ?_ hS0 ?_
          rotate_left
          · intro wS hSw; go_simp <;> with_reducible rfl
          simp only [Act.put, List.setIfInBounds_toArray, List.set_cons_zero, List.set_cons_succ]
          refine held_take 36 ?_ rfl (by kernel_rfl) (by kernel_rfl) (by kernel_rfl) (fun _ _ _ h => h) (by rfl) ?_ hS0 ?_
          rotate_left
          · intro wS hSw; (have cS := hSw.c2; go_simp) <;> with_reducible rfl
          simp only [Act.put, List.setIfInBounds_toArray, List.set_cons_zero, List.set_cons_succ]
          refine held_one 33 rfl (by kernel_rfl) (by rfl) (fun K hK => ?_)
          go_simp
          refine (of_tab hS0.tab ac).mono ?_
          rintro e wx ⟨v, rfl, h5, g5⟩
          have hT5 := hS0.grown g5
          refine hK.out (fun wS => Turn w tb mb lo wr.heap.size ak am ac (k + 1) g1 cap1 t1 t1 wS ∧ Ints wS _ v (ofL t1 ac 4)) _ _ (fun _ h => h.1) ⟨hT5, h5⟩ (fun hS1 => ?_)
          clear hK K
          refine held_one 37 rfl (by kernel_rfl) (by rfl) (fun K hK => ?_)
          go_simp
          refine (refof hS1.1.ref ac).mono ?_
          rintro e wx ⟨v2, rfl, h6, g6⟩
          have hT6 := hS1.1.grown g6
          have h7 := hS1.2.kept g6 (by simp)
          refine hK.out (fun wS => (Turn w tb mb lo wr.heap.size ak am ac (k + 1) g1 cap1 t1 t1 wS ∧ Ints wS _ v (ofL t1 ac 4)) ∧ Ints wS _ v2 (ofL t1 ac 4)) _ _ (fun _ h => h.1) ⟨⟨hT6, h7⟩, h6⟩ (fun hS2 => ?_)
          clear hK K
          refine held_one 38 rfl (by kernel_rfl) (by rfl) (fun K hK => ?_)
          go_simp
          refine (ints_same hS2.1.2 hS2.2).mono ?_
          rintro e wx ⟨rfl, g8⟩
          have hS3 := And.intro (And.intro (hS2.1.1.grown g8) (hS2.1.2.kept g8 (by simp))) (hS2.2.kept g8 (by simp))
          refine hK.out _ _ _ (fun _ h => h) hS3 (fun _ => ?_)
          clear hK K
          refine held_take 39 ?_ rfl (by kernel_rfl) (by kernel_rfl) (by kernel_rfl) (fun _ _ _ h => h) (by rfl) ?_ hS3 ?_
          rotate_left
          · intro wS hSw; go_simp <;> with_reducible rfl
          simp only [Act.put, List.setIfInBounds_toArray, List.set_cons_zero, List.set_cons_succ]
          refine held_take 40 ?_ rfl (by kernel_rfl) (by kernel_rfl) (by kernel_rfl) (fun _ _ _ h => h) (by rfl) ?_ hS3 ?_
          rotate_left
          · intro wS hSw; go_simp <;> with_reducible rfl
          simp only [Act.put, List.setIfInBounds_toArray, List.set_cons_zero, List.set_cons_succ]
          refine wpAnyH_done (by kernel_rfl) ?_ _
          refine NoPanic.normal ?_
          go_wp2_with fail
          go_roundw
          case rel => exact ⟨k + 1, g1, cap1, t1, by omega, by omega, rfl, by go_num, ⟨hS3.1.1.tab, hS3.1.1.ref, hS3.1.1.below⟩⟩
          case measure => simp [intOf]; omega
        · have hoc : holdsB t1 am ac = (o == ac) := by rw [HO.out.2.2]; rfl
          have HB := Lib.hid hoc
          clear hoc
          obtain ⟨bh, hbh⟩ : ∃ bh, (o == ac) = bh := ⟨_, rfl⟩
          have HB2 := Lib.hid (HB.out.trans hbh)
          go_wp2_with fail
          refine held_begin (Turn w tb mb lo wr.heap.size ak am ac (k + 1) g1 cap1 t1 t1) (by kernel_rfl) hS0 ?_
          refine held_take 0 ?_ rfl (by kernel_rfl) (by kernel_rfl) (by kernel_rfl) (fun _ _ _ h => h) (by rfl) ?_ hS0 ?_
          rotate_left
          · intro wS hSw; go_simp <;> with_reducible rfl
          simp only [Act.put, List.setIfInBounds_toArray, List.set_cons_zero, List.set_cons_succ]
          refine held_take 1 ?_ rfl (by kernel_rfl) (by kernel_rfl) (by kernel_rfl) (fun _ _ _ h => h) (by rfl) ?_ hS0 ?_
          rotate_left
          · intro wS hSw; go_simp <;> with_reducible rfl
          simp only [Act.put, List.setIfInBounds_toArray, List.set_cons_zero, List.set_cons_succ]
          refine held_take 2 ?_ rfl (by kernel_rfl) (by kernel_rfl) (by kernel_rfl) (fun _ _ _ h => h) (by rfl) ?_ hS0 ?_
          rotate_left
          · intro wS hSw; go_simp <;> with_reducible rfl
          simp only [Act.put, List.setIfInBounds_toArray, List.set_cons_zero, List.set_cons_succ]
          refine held_take 3 ?_ rfl (by kernel_rfl) (by kernel_rfl) (by kernel_rfl) (fun _ _ _ h => h) (by rfl) ?_ hS0 ?_
          rotate_left
          · intro wS hSw; go_simp <;> with_reducible rfl
          simp only [Act.put, List.setIfInBounds_toArray, List.set_cons_zero, List.set_cons_succ]
          refine held_take 4 ?_ rfl (by kernel_rfl) (by kernel_rfl) (by kernel_rfl) (fun _ _ _ h => h) (by rfl) ?_ hS0 ?_
          rotate_left
          · intro wS hSw; go_simp <;> with_reducible rfl
          simp only [Act.put, List.setIfInBounds_toArray, List.set_cons_zero, List.set_cons_succ]
          refine held_take 5 ?_ rfl (by kernel_rfl) (by kernel_rfl) (by kernel_rfl) (fun _ _ _ h => h) (by rfl) ?_ hS0 ?_
          rotate_left
          · intro wS hSw; go_simp <;> with_reducible rfl
          simp only [Act.put, List.setIfInBounds_toArray, List.set_cons_zero, List.set_cons_succ]
          refine held_take 6 ?_ rfl (by kernel_rfl) (by kernel_rfl) (by kernel_rfl) (fun _ _ _ h => h) (by rfl) ?_ hS0 ?_
          rotate_left
          · intro wS hSw; go_simp <;> with_reducible rfl
          simp only [Act.put, List.setIfInBounds_toArray, List.set_cons_zero, List.set_cons_succ]
          refine held_take 7 ?_ rfl (by kernel_rfl) (by kernel_rfl) (by kernel_rfl) (fun _ _ _ h => h) (by rfl) ?_ hS0 ?_
          rotate_left
          · intro wS hSw; go_simp <;> with_reducible rfl
          simp only [Act.put, List.setIfInBounds_toArray, List.set_cons_zero, List.set_cons_succ]
          refine held_take 8 ?_ rfl (by kernel_rfl) (by kernel_rfl) (by kernel_rfl) (fun _ _ _ h => h) (by rfl) ?_ hS0 ?_
          rotate_left
          · intro wS hSw; go_simp <;> with_reducible rfl
          simp only [Act.put, List.setIfInBounds_toArray, List.set_cons_zero, List.set_cons_succ]
          refine held_take 9 ?_ rfl (by kernel_rfl) (by kernel_rfl) (by kernel_rfl) (fun _ _ _ h => h) (by rfl) ?_ hS0 ?_
          rotate_left
          · intro wS hSw; go_simp <;> with_reducible rfl
          simp only [Act.put, List.setIfInBounds_toArray, List.set_cons_zero, List.set_cons_succ]
          refine held_take 10 ?_ rfl (by kernel_rfl) (by kernel_rfl) (by kernel_rfl) (fun _ _ _ h => h) (by rfl) ?_ hS0 ?_
          rotate_left
          · intro wS hSw; go_simp <;> with_reducible rfl
          simp only [Act.put, List.setIfInBounds_toArray, List.set_cons_zero, List.set_cons_succ]
          refine held_take 11 ?_ rfl (by kernel_rfl) (by kernel_rfl) (by kernel_rfl) (fun _ _ _ h => h) (by rfl) ?_ hS0 ?_
          rotate_left
          · intro wS hSw; go_simp <;> with_reducible rfl
          simp only [Act.put, List.setIfInBounds_toArray, List.set_cons_zero, List.set_cons_succ]
          refine held_take 12 ?_ rfl (by kernel_rfl) (by kernel_rfl) (by kernel_rfl) (fun _ _ _ h => h) (by rfl) ?_ hS0 ?_
          rotate_left
          · intro wS hSw; go_simp <;> with_reducible rfl
          simp only [Act.put, List.setIfInBounds_toArray, List.set_cons_zero, List.set_cons_succ]
          refine held_take 13 ?_ rfl (by kernel_rfl) (by kernel_rfl) (by kernel_rfl) (fun _ _ _ h => h) (by rfl) ?_ hS0 ?_
          rotate_left
          · intro wS hSw; go_simp <;> with_reducible rfl
          simp only [Act.put, List.setIfInBounds_toArray, List.set_cons_zero, List.set_cons_succ]
          refine held_take 14 ?_ rfl (by kernel_rfl) (by kernel_rfl) (by kernel_rfl) (fun _ _ _ h => h) (by rfl) ?_ hS0 ?_
          rotate_left
          · intro wS hSw; go_simp <;> with_reducible rfl
          simp only [Act.put, List.setIfInBounds_toArray, List.set_cons_zero, List.set_cons_succ]
          refine held_take 15 ?_ rfl (by kernel_rfl) (by kernel_rfl) (by kernel_rfl) (fun _ _ _ h => h) (by rfl) ?_ hS0 ?_
          rotate_left
          · intro wS hSw; go_simp <;> with_reducible rfl
          simp only [Act.put, List.setIfInBounds_toArray, List.set_cons_zero, List.set_cons_succ]
          refine held_take 16 ?_ rfl (by kernel_rfl) (by kernel_rfl) (by kernel_rfl) (fun _ _ _ h => h) (by rfl) ?_ hS0 ?_
          rotate_left
          · intro wS hSw; (have cS := hSw.c1; go_simp) <;> with_reducible rfl
          simp only [Act.put, List.setIfInBounds_toArray, List.set_cons_zero, List.set_cons_succ]
          refine held_take 17 ?_ rfl (by kernel_rfl) (by kernel_rfl) (by kernel_rfl) (fun _ _ _ h => h) (by rfl) ?_ hS0 ?_
          rotate_left
          · intro wS hSw; go_simp <;> with_reducible rfl
          simp only [Act.put, List.setIfInBounds_toArray, List.set_cons_zero, List.set_cons_succ]
          refine held_take 18 ?_ rfl (by kernel_rfl) (by kernel_rfl) (by kernel_rfl) (fun _ _ _ h => h) (by rfl) ?_ hS0 ?_
          rotate_left
          · intro wS hSw; (have cS := hSw.c2; go_simp) <;> with_reducible rfl
          simp only [Act.put, List.setIfInBounds_toArray, List.set_cons_zero, List.set_cons_succ]
          refine held_take 20 ?_ rfl (by kernel_rfl) (by kernel_rfl) (by kernel_rfl) (fun _ _ _ h => h) (by rfl) ?_ hS0 ?_
          rotate_left
          · intro wS hSw; go_simp <;> with_reducible rfl
          simp only [Act.put, List.setIfInBounds_toArray, List.set_cons_zero, List.set_cons_succ]
          refine held_one 19 rfl (by kernel_rfl) (by rfl) (fun K hK => ?_)
          go_simp
          refine (holds_is hS0.tab HWM.out ac bh HB2.out).mono ?_
          rintro e wx ⟨rfl, rfl⟩
          refine hK.out _ _ _ (fun _ h => h) hS0 (fun _ => ?_)
          clear hK K
          refine held_take 21 ?_ rfl (by kernel_rfl) (by kernel_rfl) (by kernel_rfl) (fun _ _ _ h => h) (by rfl) ?_ hS0 ?_
          rotate_left
          · intro wS hSw; go_simp <;> with_reducible rfl
          simp only [Act.put, List.setIfInBounds_toArray, List.set_cons_zero, List.set_cons_succ]
          refine held_take 22 ?_ rfl (by kernel_rfl) (by kernel_rfl) (by kernel_rfl) (fun _ _ _ h => h) (by rfl) ?_ hS0 ?_
          rotate_left
          · intro wS hSw; go_simp <;> with_reducible rfl
          simp only [Act.put, List.setIfInBounds_toArray, List.set_cons_zero, List.set_cons_succ]
          refine held_take 23 ?_ rfl (by kernel_rfl) (by kernel_rfl) (by kernel_rfl) (fun _ _ _ h => h) (by rfl) ?_ hS0 ?_
          rotate_left
          · intro wS hSw; go_simp <;> with_reducible rfl
          simp only [Act.put, List.setIfInBounds_toArray, List.set_cons_zero, List.set_cons_succ]
          refine held_take 24 ?_ rfl (by kernel_rfl) (by kernel_rfl) (by kernel_rfl) (fun _ _ _ h => h) (by rfl) ?_ hS0 ?_
          rotate_left
          · intro wS hSw; (have cS := hSw.c2; go_simp) <;> with_reducible rfl
          simp only [Act.put, List.setIfInBounds_toArray, List.set_cons_zero, List.set_cons_succ]
          refine held_take 25 ?_ rfl (by kernel_rfl) (by kernel_rfl) (by kernel_rfl) (fun _ _ _ h => h) (by rfl) ?_ hS0 ?_
          rotate_left
          · intro wS hSw; go_simp <;> with_reducible rfl
          simp only [Act.put, List.setIfInBounds_toArray, List.set_cons_zero, List.set_cons_succ]
          refine held_take 26 ?_ rfl (by kernel_rfl) (by kernel_rfl) (by kernel_rfl) (fun _ _ _ h => h) (by rfl) ?_ hS0 ?_
          rotate_left
          · intro wS hSw; go_simp <;> with_reducible rfl
          simp only [Act.put, List.setIfInBounds_toArray, List.set_cons_zero, List.set_cons_succ]
          refine held_take 27 ?_ rfl (by kernel_rfl) (by kernel_rfl) (by kernel_rfl) (fun _ _ _ h => h) (by rfl) ?_ hS0 ?_
          rotate_left
          · intro wS hSw; go_simp <;> with_reducible rfl
          simp only [Act.put, List.setIfInBounds_toArray, List.set_cons_zero, List.set_cons_succ]
          refine held_take 28 ?_ rfl (by kernel_rfl) (by kernel_rfl) (by kernel_rfl) (fun _ _ _ h => h) (by rfl) ?_ hS0 ?_
          rotate_left
          · intro wS hSw; go_simp <;> with_reducible rfl
          simp only [Act.put, List.setIfInBounds_toArray, List.set_cons_zero, List.set_cons_succ]
          refine held_take 29 ?_ rfl (by kernel_rfl) (by kernel_rfl) (by kernel_rfl) (fun _ _ _ h => h) (by rfl) ?_ hS0 ?_
          rotate_left
          · intro wS hSw; go_simp <;> with_reducible rfl
          simp only [Act.put, List.setIfInBounds_toArray, List.set_cons_zero, List.set_cons_succ]
          refine held_take 30 ?_ rfl (by kernel_rfl) (by kernel_rfl) (by kernel_rfl) (fun _ _ _ h => h) (by rfl) ?_ hS0 ?_
          rotate_left
          · intro wS hSw; go_simp <;> with_reducible rfl
          simp only [Act.put, List.setIfInBounds_toArray, List.set_cons_zero, List.set_cons_succ]
          refine held_take 31 ?_ rfl (by kernel_rfl) (by kernel_rfl) (by kernel_rfl) (fun _ _ _ h => h) (by rfl) ?_ hS0 ?_
          rotate_left
          · intro wS hSw; go_simp <;> with_reducible rfl
          simp only [Act.put, List.setIfInBounds_toArray, List.set_cons_zero, List.set_cons_succ]
          refine held_take 32 ?_ rfl (by kernel_rfl) (by kernel_rfl) (by kernel_rfl) (fun _ _ _ h => h) (by rfl) ?_ hS0 ?_
          rotate_left
          · intro wS hSw; (have cS := hSw.c2; go_simp) <;> with_reducible rfl
          simp only [Act.put, List.setIfInBounds_toArray, List.set_cons_zero, List.set_cons_succ]
          refine held_take 34 ?_ rfl (by kernel_rfl) (by kernel_rfl) (by kernel_rfl) (fun _ _ _ h => h) (by rfl) ?_ hS0 ?_
          rotate_left
          · intro wS hSw; go_simp <;> with_reducible rfl
          simp only [Act.put, List.setIfInBounds_toArray, List.set_cons_zero, List.set_cons_succ]
          refine held_take 35 ?_ rfl (by kernel_rfl) (by kernel_rfl) (by kernel_rfl) (fun _ _ _ h => h) (by rfl) ?_ hS0 ?_
          rotate_left
          · intro wS hSw; go_simp <;> with_reducible rfl
          simp only [Act.put, List.setIfInBounds_toArray, List.set_cons_zero, List.set_cons_succ]
          refine held_take 36 ?_ rfl (by kernel_rfl) (by kernel_rfl) (by kernel_rfl) (fun _ _ _ h => h) (by rfl) ?_ hS0 ?_
          rotate_left
          · intro wS hSw; (have cS := hSw.c2; go_simp) <;> with_reducible rfl
          simp only [Act.put, List.setIfInBounds_toArray, List.set_cons_zero, List.set_cons_succ]
          refine held_one 33 rfl (by kernel_rfl) (by rfl) (fun K hK => ?_)
          go_simp
          refine (of_tab hS0.tab ac).mono ?_
          rintro e wx ⟨v, rfl, h5, g5⟩
          have hT5 := hS0.grown g5
          refine hK.out (fun wS => Turn w tb mb lo wr.heap.size ak am ac (k + 1) g1 cap1 t1 t1 wS ∧ Ints wS _ v (ofL t1 ac 4)) _ _ (fun _ h => h.1) ⟨hT5, h5⟩ (fun hS1 => ?_)
          clear hK K
          refine held_one 37 rfl (by kernel_rfl) (by rfl) (fun K hK => ?_)
          go_simp
          refine (refof hS1.1.ref ac).mono ?_
          rintro e wx ⟨v2, rfl, h6, g6⟩
          have hT6 := hS1.1.grown g6
          have h7 := hS1.2.kept g6 (by simp)
          refine hK.out (fun wS => (Turn w tb mb lo wr.heap.size ak am ac (k + 1) g1 cap1 t1 t1 wS ∧ Ints wS _ v (ofL t1 ac 4)) ∧ Ints wS _ v2 (ofL t1 ac 4)) _ _ (fun _ h => h.1) ⟨⟨hT6, h7⟩, h6⟩ (fun hS2 => ?_)
          clear hK K
          refine held_one 38 rfl (by kernel_rfl) (by rfl) (fun K hK => ?_)
          go_simp
          refine (ints_same hS2.1.2 hS2.2).mono ?_
          rintro e wx ⟨rfl, g8⟩
          have hS3 := And.intro (And.intro (hS2.1.1.grown g8) (hS2.1.2.kept g8 (by simp))) (hS2.2.kept g8 (by simp))
          refine hK.out _ _ _ (fun _ h => h) hS3 (fun _ => ?_)
          clear hK K
          refine held_take 39 ?_ rfl (by kernel_rfl) (by kernel_rfl) (by kernel_rfl) (fun _ _ _ h => h) (by rfl) ?_ hS3 ?_
          rotate_left
          · intro wS hSw; go_simp <;> with_reducible rfl
          simp only [Act.put, List.setIfInBounds_toArray, List.set_cons_zero, List.set_cons_succ]
          refine held_take 40 ?_ rfl (by kernel_rfl) (by kernel_rfl) (by kernel_rfl) (fun _ _ _ h => h) (by rfl) ?_ hS3 ?_
          rotate_left
          · intro wS hSw; go_simp <;> with_reducible rfl
          simp only [Act.put, List.setIfInBounds_toArray, List.set_cons_zero, List.set_cons_succ]
          refine wpAnyH_done (by kernel_rfl) ?_ _
          refine NoPanic.normal ?_
          go_wp2_with fail
          go_roundw
          case rel => exact ⟨k + 1, g1, cap1, t1, by omega, by omega, rfl, by go_num, ⟨hS3.1.1.tab, hS3.1.1.ref, hS3.1.1.below⟩⟩
          case measure => simp [intOf]; omega
      · clear hq4
        obtain ⟨er, t1, her, ht1⟩ : ∃ er t1, unlockE t am ac = er ∧ unlockT t am ac = t1 := ⟨_, _, rfl, rfl⟩
        have HF := Lib.hid (And.intro her ht1)
        clear her ht1
        have HT0 := Lib.hid (Turn.start (ak := ak) (am := am) (ac := ac) HP.out)
        have hmn : mb ≠ wr.heap.size := by have := HP.out.tab.ltm; omega
        go_wp2_with fail
        clear d0 d1 d2
        refine (break_is HT0.out.tab (by omega) am ac t1 er HF.out.2 HF.out.1).mono ?_
        rintro e w4 ⟨rfl, h4, g4⟩
        have HT1 := Lib.hid (HT0.out.wrote hwm hml hmn (h4.mono (Nat.le_succ k)) g4)
        have k1 := HT1.out.c1
        have k2 := HT1.out.c2
        clear h4 g4
        go_wp2_with fail
        refine (refunlock HT1.out.ref HT1.out.lo am ac er t1 HF.out.1 HF.out.2).mono ?_
        rintro e w5 ⟨g1, cap1, rfl, h5, g5⟩
        have HT2 := Lib.hid (HT1.out.told h5 g5)
        clear h5 g5 k1 k2
        have k1 := HT2.out.c1
        have k2 := HT2.out.c2
        obtain ⟨o, bo, ho, hbo⟩ : ∃ (o : Int) (bo : Bool), heldBy t1 am = o ∧ decide (0 ≤ hold t1 am) = bo := ⟨_, _, rfl, rfl⟩
        have hbh : holdsB t1 am ac = (bo && (o == ac)) := by rw [← ho, ← hbo]; rfl
        have HO := Lib.hid (And.intro ho (And.intro hbo hbh))
        clear ho hbo hbh
        go_wp2_with fail
        refine (owner_is HT2.out.tab HWM.out o bo HO.out.1 HO.out.2.1).mono ?_
        rintro e w6 ⟨rfl, rfl⟩
        go_wp2_with fail
        refine (refowner HT2.out.ref am o bo HO.out.1 HO.out.2.1).mono ?_
        rintro e w7 ⟨rfl, rfl⟩
        have hS0 := HT2.out.grown (grown_drew _ none)
        clear k1 k2
        cases bo
        · have hoc : holdsB t1 am ac = false := by rw [HO.out.2.2]; rfl
          have HB := Lib.hid hoc
          clear hoc
          go_wp2_with fail
          refine held_begin (Turn w tb mb lo wr.heap.size ak am ac (k + 1) g1 cap1 t1 t1) (by kernel_rfl) hS0 ?_
          refine held_take 0 ?_ rfl (by kernel_rfl) (by kernel_rfl) (by kernel_rfl) (fun _ _ _ h => h) (by rfl) ?_ hS0 ?_
          rotate_left
          · intro wS hSw; go_simp <;> with_reducible rfl
          simp only [Act.put, List.setIfInBounds_toArray, List.set_cons_zero, List.set_cons_succ]
          refine held_take 1 ?_ rfl (by kernel_rfl) (by kernel_rfl) (by kernel_rfl) (fun _ _ _ h => h) (by rfl) ?_ hS0 ?_
          rotate_left
          · intro wS hSw; go_simp <;> with_reducible rfl
          simp only [Act.put, List.setIfInBounds_toArray, List.set_cons_zero, List.set_cons_succ]
          refine held_take 2 ?_ rfl (by kernel_rfl) (by kernel_rfl) (by kernel_rfl) (fun _ _ _ h => h) (by rfl) ?_ hS0 ?_
          rotate_left
          · intro wS hSw; go_simp <;> with_reducible rfl
          simp only [Act.put, List.setIfInBounds_toArray, List.set_cons_zero, List.set_cons_succ]
          refine held_take 3 ?_ rfl (by kernel_rfl) (by kernel_rfl) (by kernel_rfl) (fun _ _ _ h => h) (by rfl) ?_ hS0 ?_
          rotate_left
          · intro wS hSw; go_simp <;> with_reducible rfl
          simp only [Act.put, List.setIfInBounds_toArray, List.set_cons_zero, List.set_cons_succ]
          refine held_take 4 ?_ rfl (by kernel_rfl) (by kernel_rfl) (by kernel_rfl) (fun _ _ _ h => h) (by rfl) ?_ hS0 ?_
          rotate_left
          · intro wS hSw; go_simp <;> with_reducible rfl
          simp only [Act.put, List.setIfInBounds_toArray, List.set_cons_zero, List.set_cons_succ]
          refine held_take 5 ?_ rfl (by kernel_rfl) (by kernel_rfl) (by kernel_rfl) (fun _ _ _ h => h) (by rfl) ?_ hS0 ?_
          rotate_left
          · intro wS hSw; go_simp <;> with_reducible rfl
          simp only [Act.put, List.setIfInBounds_toArray, List.set_cons_zero, List.set_cons_succ]
          refine held_take 6 ?_ rfl (by kernel_rfl) (by kernel_rfl) (by kernel_rfl) (fun _ _ _ h => h) (by rfl) ?_ hS0 ?_
          rotate_left
          · intro wS hSw; go_simp <;> with_reducible rfl
          simp only [Act.put, List.setIfInBounds_toArray, List.set_cons_zero, List.set_cons_succ]
          refine held_take 7 ?_ rfl (by kernel_rfl) (by kernel_rfl) (by kernel_rfl) (fun _ _ _ h => h) (by rfl) ?_ hS0 ?_
          rotate_left
          · intro wS hSw; go_simp <;> with_reducible rfl
          simp only [Act.put, List.setIfInBounds_toArray, List.set_cons_zero, List.set_cons_succ]
          refine held_take 8 ?_ rfl (by kernel_rfl) (by kernel_rfl) (by kernel_rfl) (fun _ _ _ h => h) (by rfl) ?_ hS0 ?_
          rotate_left
          · intro wS hSw; go_simp <;> with_reducible rfl
          simp only [Act.put, List.setIfInBounds_toArray, List.set_cons_zero, List.set_cons_succ]
          refine held_take 9 ?_ rfl (by kernel_rfl) (by kernel_rfl) (by kernel_rfl) (fun _ _ _ h => h) (by rfl) ?_ hS0 ?_
          rotate_left
          · intro wS hSw; go_simp <;> with_reducible rfl
          simp only [Act.put, List.setIfInBounds_toArray, List.set_cons_zero, List.set_cons_succ]
          refine held_take 10 ?_ rfl (by kernel_rfl) (by kernel_rfl) (by kernel_rfl) (fun _ _ _ h => h) (by rfl) ?_ hS0 ?_
          rotate_left
          · intro wS hSw; go_simp <;> with_reducible rfl
          simp only [Act.put, List.setIfInBounds_toArray, List.set_cons_zero, List.set_cons_succ]
          refine held_take 11 ?_ rfl (by kernel_rfl) (by kernel_rfl) (by kernel_rfl) (fun _ _ _ h => h) (by rfl) ?_ hS0 ?_
          rotate_left
          · intro wS hSw; go_simp <;> with_reducible rfl
          simp only [Act.put, List.setIfInBounds_toArray, List.set_cons_zero, List.set_cons_succ]
          refine held_take 12 ?_ rfl (by kernel_rfl) (by kernel_rfl) (by kernel_rfl) (fun _ _ _ h => h) (by rfl) ?_ hS0 ?_
          rotate_left
          · intro wS hSw; go_simp <;> with_reducible rfl
          simp only [Act.put, List.setIfInBounds_toArray, List.set_cons_zero, List.set_cons_succ]
          refine held_take 13 ?_ rfl (by kernel_rfl) (by kernel_rfl) (by kernel_rfl) (fun _ _ _ h => h) (by rfl) ?_ hS0 ?_
          rotate_left
          · intro wS hSw; go_simp <;> with_reducible rfl
          simp only [Act.put, List.setIfInBounds_toArray, List.set_cons_zero, List.set_cons_succ]
          refine held_take 14 ?_ rfl (by kernel_rfl) (by kernel_rfl) (by kernel_rfl) (fun _ _ _ h => h) (by rfl) ?_ hS0 ?_
          rotate_left
          · intro wS hSw; go_simp <;> with_reducible rfl
          simp only [Act.put, List.setIfInBounds_toArray, List.set_cons_zero, List.set_cons_succ]
          refine held_take 15 ?_ rfl (by kernel_rfl) (by kernel_rfl) (by kernel_rfl) (fun _ _ _ h => h) (by rfl) ?_ hS0 ?_
          rotate_left
          · intro wS hSw; go_simp <;> with_reducible rfl
          simp only [Act.put, List.setIfInBounds_toArray, List.set_cons_zero, List.set_cons_succ]
          refine held_take 16 ?_ rfl (by kernel_rfl) (by kernel_rfl) (by kernel_rfl) (fun _ _ _ h => h) (by rfl) ?_ hS0 ?_
          rotate_left
          · intro wS hSw; (have cS := hSw.c1; go_simp) <;> with_reducible rfl
          simp only [Act.put, List.setIfInBounds_toArray, List.set_cons_zero, List.set_cons_succ]
          refine held_take 17 ?_ rfl (by kernel_rfl) (by kernel_rfl) (by kernel_rfl) (fun _ _ _ h => h) (by rfl) ?_ hS0 ?_
          rotate_left
          · intro wS hSw; go_simp <;> with_reducible rfl
          simp only [Act.put, List.setIfInBounds_toArray, List.set_cons_zero, List.set_cons_succ]
          refine held_take 18 ?_ rfl (by kernel_rfl) (by kernel_rfl) (by kernel_rfl) (fun _ _ _ h => h) (by rfl) ?_ hS0 ?_
          rotate_left
          · intro wS hSw; (have cS := hSw.c2; go_simp) <;> with_reducible rfl
          simp only [Act.put, List.setIfInBounds_toArray, List.set_cons_zero, List.set_cons_succ]
          refine held_take 20 ?_ rfl (by kernel_rfl) (by kernel_rfl) (by kernel_rfl) (fun _ _ _ h => h) (by rfl) ?_ hS0 ?_
          rotate_left
          · intro wS hSw; go_simp <;> with_reducible rfl
          simp only [Act.put, List.setIfInBounds_toArray, List.set_cons_zero, List.set_cons_succ]
          refine held_one 19 rfl (by kernel_rfl) (by rfl) (fun K hK => ?_)
          go_simp
          refine (holds_is hS0.tab HWM.out ac false HB.out).mono ?_
          rintro e wx ⟨rfl, rfl⟩
          refine hK.out _ _ _ (fun _ h => h) hS0 (fun _ => ?_)
          clear hK K
          refine held_take 21 ?_ rfl (by kernel_rfl) (by kernel_rfl) (by kernel_rfl) (fun _ _ _ h => h) (by rfl) ?_ hS0 ?_
          rotate_left
          · intro wS hSw; go_simp <;> with_reducible rfl
          simp only [Act.put, List.setIfInBounds_toArray, List.set_cons_zero, List.set_cons_succ]
          refine held_skip 22 rfl (by kernel_rfl) (by kernel_rfl) (by kernel_rfl) (fun _ _ _ h => h) (by rfl) hS0 ?_
          simp only [Act.put, List.setIfInBounds_toArray, List.set_cons_zero, List.set_cons_succ]
          refine held_skip 23 rfl (by kernel_rfl) (by kernel_rfl) (by kernel_rfl) (fun _ _ _ h => h) (by rfl) hS0 ?_
          simp only [Act.put, List.setIfInBounds_toArray, List.set_cons_zero, List.set_cons_succ]
          refine held_skip 24 rfl (by kernel_rfl) (by kernel_rfl) (by kernel_rfl) (fun _ _ _ h => h) (by rfl) hS0 ?_
          simp only [Act.put, List.setIfInBounds_toArray, List.set_cons_zero, List.set_cons_succ]
          refine held_skip 25 rfl (by kernel_rfl) (by kernel_rfl) (by kernel_rfl) (fun _ _ _ h => h) (by rfl) hS0 ?_
          simp only [Act.put, List.setIfInBounds_toArray, List.set_cons_zero, List.set_cons_succ]
          refine held_take 26 ?_ rfl (by kernel_rfl) (by kernel_rfl) (by kernel_rfl) (fun _ _ _ h => h) (by rfl) ?_ hS0 ?_
          rotate_left
          · intro wS hSw; go_simp <;> with_reducible rfl
          simp only [Act.put, List.setIfInBounds_toArray, List.set_cons_zero, List.set_cons_succ]
          refine held_take 27 ?_ rfl (by kernel_rfl) (by kernel_rfl) (by kernel_rfl) (fun _ _ _ h => h) (by rfl) ?_ hS0 ?_
          rotate_left
          · intro wS hSw; go_simp <;> with_reducible rfl
          simp only [Act.put, List.setIfInBounds_toArray, List.set_cons_zero, List.set_cons_succ]
          refine held_take 28 ?_ rfl (by kernel_rfl) (by kernel_rfl) (by kernel_rfl) (fun _ _ _ h => h) (by rfl) ?_ hS0 ?_
          rotate_left
          · intro wS hSw; go_simp <;> with_reducible rfl
          simp only [Act.put, List.setIfInBounds_toArray, List.set_cons_zero, List.set_cons_succ]
          refine held_take 29 ?_ rfl (by kernel_rfl) (by kernel_rfl) (by kernel_rfl) (fun _ _ _ h => h) (by rfl) ?_ hS0 ?_
          rotate_left
          · intro wS hSw; go_simp <;> with_reducible rfl
          simp only [Act.put, List.setIfInBounds_toArray, List.set_cons_zero, List.set_cons_succ]
          refine held_take 30 ?_ rfl (by kernel_rfl) (by kernel_rfl) (by kernel_rfl) (fun _ _ _ h => h) (by rfl) ?_ hS0 ?_
          rotate_left
          · intro wS hSw; go_simp <;> with_reducible rfl
          simp only [Act.put, List.setIfInBounds_toArray, List.set_cons_zero, List.set_cons_succ]
          refine held_take 31 ?_ rfl (by kernel_rfl) (by kernel_rfl) (by kernel_rfl) (fun _ _ _ h => h) (by rfl) ?_ hS0 ?_
          rotate_left
          · intro wS hSw; go_simp <;> with_reducible rfl
          simp only [Act.put, List.setIfInBounds_toArray, List.set_cons_zero, List.set_cons_succ]
          refine held_take 32 ?_ rfl (by kernel_rfl) (by kernel_rfl) (by kernel_rfl) (fun _ _ _ h => h) (by rfl) ?_ hS0 ?_
          rotate_left
          · intro wS hSw; (have cS := hSw.c2; go_simp) <;> with_reducible rfl
          simp only [Act.put, List.setIfInBounds_toArray, List.set_cons_zero, List.set_cons_succ]
          refine held_take 34 ?_ rfl (by kernel_rfl) (by kernel_rfl) (by kernel_rfl) (fun _ _ _ h => h) (by rfl) ?_ hS0 ?_
          rotate_left
          · intro wS hSw; go_simp <;> with_reducible rfl
          simp only [Act.put, List.setIfInBounds_toArray, List.set_cons_zero, List.set_cons_succ]
          refine held_take 35 ?_ rfl (by kernel_rfl) (by kernel_rfl) (by kernel_rfl) (fun _ _ _ h => h) (by rfl) ?_ hS0 ?_
          rotate_left
          · intro wS hSw; go_simp <;> with_reducible rfl
          simp only [Act.put, List.setIfInBounds_toArray, List.set_cons_zero, List.set_cons_succ]
          refine held_take 36 ?_ rfl (by kernel_rfl) (by kernel_rfl) (by kernel_rfl) (fun _ _ _ h => h) (by rfl) ?_ hS0 ?_
          rotate_left
          · intro wS hSw; (have cS := hSw.c2; go_simp) <;> with_reducible rfl
          simp only [Act.put, List.setIfInBounds_toArray, List.set_cons_zero, List.set_cons_succ]
          refine held_one 33 rfl (by kernel_rfl) (by rfl) (fun K hK => ?_)
          go_simp
          refine (of_tab hS0.tab ac).mono ?_
          rintro e wx ⟨v, rfl, h5, g5⟩
          have hT5 := hS0.grown g5
          refine hK.out (fun wS => Turn w tb mb lo wr.heap.size ak am ac (k + 1) g1 cap1 t1 t1 wS ∧ Ints wS _ v (ofL t1 ac 4)) _ _ (fun _ h => h.1) ⟨hT5, h5⟩ (fun hS1 => ?_)
          clear hK K
          refine held_one 37 rfl (by kernel_rfl) (by rfl) (fun K hK => ?_)
          go_simp
          refine (refof hS1.1.ref ac).mono ?_
          rintro e wx ⟨v2, rfl, h6, g6⟩
          have hT6 := hS1.1.grown g6
          have h7 := hS1.2.kept g6 (by simp)
          refine hK.out (fun wS => (Turn w tb mb lo wr.heap.size ak am ac (k + 1) g1 cap1 t1 t1 wS ∧ Ints wS _ v (ofL t1 ac 4)) ∧ Ints wS _ v2 (ofL t1 ac 4)) _ _ (fun _ h => h.1) ⟨⟨hT6, h7⟩, h6⟩ (fun hS2 => ?_)
          clear hK K
          refine held_one 38 rfl (by kernel_rfl) (by rfl) (fun K hK => ?_)
          go_simp
          refine (ints_same hS2.1.2 hS2.2).mono ?_
          rintro e wx ⟨rfl, g8⟩
          have hS3 := And.intro (And.intro (hS2.1.1.grown g8) (hS2.1.2.kept g8 (by simp))) (hS2.2.kept g8 (by simp))
          refine hK.out _ _ _ (fun _ h => h) hS3 (fun _ => ?_)
          clear hK K
          refine held_take 39 ?_ rfl (by kernel_rfl) (by kernel_rfl) (by kernel_rfl) (fun _ _ _ h => h) (by rfl) ?_ hS3 ?_
          rotate_left
          · intro wS hSw; go_simp <;> with_reducible rfl
          simp only [Act.put, List.setIfInBounds_toArray, List.set_cons_zero, List.set_cons_succ]
          refine held_take 40 ?_ rfl (by kernel_rfl) (by kernel_rfl) (by kernel_rfl) (fun _ _ _ h => h) (by rfl) ?_ hS3 ?_
          rotate_left
          · intro wS hSw; go_simp <;> with_reducible rfl
          simp only [Act.put, List.setIfInBounds_toArray, List.set_cons_zero, List.set_cons_succ]
          refine wpAnyH_done (by kernel_rfl) ?_ _
          refine NoPanic.normal ?_
          go_wp2_with fail
          go_roundw
          case rel => exact ⟨k + 1, g1, cap1, t1, by omega, by omega, rfl, by go_num, ⟨hS3.1.1.tab, hS3.1.1.ref, hS3.1.1.below⟩⟩
          case measure => simp [intOf]; omega
        · have hoc : holdsB t1 am ac = (o == ac) := by rw [HO.out.2.2]; rfl
          have HB := Lib.hid hoc
          clear hoc
          obtain ⟨bh, hbh⟩ : ∃ bh, (o == ac) = bh := ⟨_, rfl⟩
          have HB2 := Lib.hid (HB.out.trans hbh)
          go_wp2_with fail
          refine held_begin (Turn w tb mb lo wr.heap.size ak am ac (k + 1) g1 cap1 t1 t1) (by kernel_rfl) hS0 ?_
          refine held_take 0 ?_ rfl (by kernel_rfl) (by kernel_rfl) (by kernel_rfl) (fun _ _ _ h => h) (by rfl) ?_ hS0 ?_
          rotate_left
          · intro wS hSw; go_simp <;> with_reducible rfl
          simp only [Act.put, List.setIfInBounds_toArray, List.set_cons_zero, List.set_cons_succ]
          refine held_take 1 ?_ rfl (by kernel_rfl) (by kernel_rfl) (by kernel_rfl) (fun _ _ _ h => h) (by rfl) ?_ hS0 ?_
          rotate_left
          · intro wS hSw; go_simp <;> with_reducible rfl
          simp only [Act.put, List.setIfInBounds_toArray, List.set_cons_zero, List.set_cons_succ]
          refine held_take 2 ?_ rfl (by kernel_rfl) (by kernel_rfl) (by kernel_rfl) (fun _ _ _ h => h) (by rfl) ?_ hS0 ?_
          rotate_left
          · intro wS hSw; go_simp <;> with_reducible rfl
          simp only [Act.put, List.setIfInBounds_toArray, List.set_cons_zero, List.set_cons_succ]
          refine held_take 3 ?_ rfl (by kernel_rfl) (by kernel_rfl) (by kernel_rfl) (fun _ _ _ h => h) (by rfl) ?_ hS0 ?_
          rotate_left
          · intro wS hSw; go_simp <;> with_reducible rfl
          simp only [Act.put, List.setIfInBounds_toArray, List.set_cons_zero, List.set_cons_succ]
          refine held_take 4 ?_ rfl (by kernel_rfl) (by kernel_rfl) (by kernel_rfl) (fun _ _ _ h => h) (by rfl) ?_ hS0 ?_
          rotate_left
          · intro wS hSw; go_simp <;> with_reducible rfl
          simp only [Act.put, List.setIfInBounds_toArray, List.set_cons_zero, List.set_cons_succ]
          refine held_take 5 ?_ rfl (by kernel_rfl) (by kernel_rfl) (by kernel_rfl) (fun _ _ _ h => h) (by rfl) ?_ hS0 ?_
          rotate_left
          · intro wS hSw; go_simp <;> with_reducible rfl
          simp only [Act.put, List.setIfInBounds_toArray, List.set_cons_zero, List.set_cons_succ]
          refine held_take 6 ?_ rfl (by kernel_rfl) (by kernel_rfl) (by kernel_rfl) (fun _ _ _ h => h) (by rfl) ?_ hS0 ?_
          rotate_left
          · intro wS hSw; go_simp <;> with_reducible rfl
          simp only [Act.put, List.setIfInBounds_toArray, List.set_cons_zero, List.set_cons_succ]
          refine held_take 7 ?_ rfl (by kernel_rfl) (by kernel_rfl) (by kernel_rfl) (fun _ _ _ h => h) (by rfl) ?_ hS0 ?_
          rotate_left
          · intro wS hSw; go_simp <;> with_reducible rfl
          simp only [Act.put, List.setIfInBounds_toArray, List.set_cons_zero, List.set_cons_succ]
          refine held_take 8 ?_ rfl (by kernel_rfl) (by kernel_rfl) (by kernel_rfl) (fun _ _ _ h => h) (by rfl) ?_ hS0 ?_
          rotate_left
          · intro wS hSw; go_simp <;> with_reducible rfl
          simp only [Act.put, List.setIfInBounds_toArray, List.set_cons_zero, List.set_cons_succ]
          refine held_take 9 ?_ rfl (by kernel_rfl) (by kernel_rfl) (by kernel_rfl) (fun _ _ _ h => h) (by rfl) ?_ hS0 ?_
          rotate_left
          · intro wS hSw; go_simp <;> with_reducible rfl
          simp only [Act.put, List.setIfInBounds_toArray, List.set_cons_zero, List.set_cons_succ]
          refine held_take 10 ?_ rfl (by kernel_rfl) (by kernel_rfl) (by kernel_rfl) (fun _ _ _ h => h) (by rfl) ?_ hS0 ?_
          rotate_left
          · intro wS hSw; go_simp <;> with_reducible rfl
          simp only [Act.put, List.setIfInBounds_toArray, List.set_cons_zero, List.set_cons_succ]
          refine held_take 11 ?_ rfl (by kernel_rfl) (by kernel_rfl) (by kernel_rfl) (fun _ _ _ h => h) (by rfl) ?_ hS0 ?_
          rotate_left
          · intro wS hSw; go_simp <;> with_reducible rfl
          simp only [Act.put, List.setIfInBounds_toArray, List.set_cons_zero, List.set_cons_succ]
          refine held_take 12 ?_ rfl (by kernel_rfl) (by kernel_rfl) (by kernel_rfl) (fun _ _ _ h => h) (by rfl) ?_ hS0 ?_
          rotate_left
          · intro wS hSw; go_simp <;> with_reducible rfl
          simp only [Act.put, List.setIfInBounds_toArray, List.set_cons_zero, List.set_cons_succ]
          refine held_take 13 ?_ rfl (by kernel_rfl) (by kernel_rfl) (by kernel_rfl) (fun _ _ _ h => h) (by rfl) ?_ hS0 ?_
          rotate_left
          · intro wS hSw; go_simp <;> with_reducible rfl
          simp only [Act.put, List.setIfInBounds_toArray, List.set_cons_zero, List.set_cons_succ]
          refine held_take 14 ?_ rfl (by kernel_rfl) (by kernel_rfl) (by kernel_rfl) (fun _ _ _ h => h) (by rfl) ?_ hS0 ?_
          rotate_left
          · intro wS hSw; go_simp <;> with_reducible rfl
          simp only [Act.put, List.setIfInBounds_toArray, List.set_cons_zero, List.set_cons_succ]
          refine held_take 15 ?_ rfl (by kernel_rfl) (by kernel_rfl) (by kernel_rfl) (fun _ _ _ h => h) (by rfl) ?_ hS0 ?_
          rotate_left
          · intro wS hSw; go_simp <;> with_reducible rfl
          simp only [Act.put, List.setIfInBounds_toArray, List.set_cons_zero, List.set_cons_succ]
          refine held_take 16 ?_ rfl (by kernel_rfl) (by kernel_rfl) (by kernel_rfl) (fun _ _ _ h => h) (by rfl) ?_ hS0 ?_
          rotate_left
          · intro wS hSw; (have cS := hSw.c1; go_simp) <;> with_reducible rfl
          simp only [Act.put, List.setIfInBounds_toArray, List.set_cons_zero, List.set_cons_succ]
          refine held_take 17 ?_ rfl (by kernel_rfl) (by kernel_rfl) (by kernel_rfl) (fun _ _ _ h => h) (by rfl) ?_ hS0 ?_
          rotate_left
          · intro wS hSw; go_simp <;> with_reducible rfl
          simp only [Act.put, List.setIfInBounds_toArray, List.set_cons_zero, List.set_cons_succ]
          refine held_take 18 ?_ rfl (by kernel_rfl) (by kernel_rfl) (by kernel_rfl) (fun _ _ _ h => h) (by rfl) ?_ hS0 ?_
          rotate_left
          · intro wS hSw; (have cS := hSw.c2; go_simp) <;> with_reducible rfl
          simp only [Act.put, List.setIfInBounds_toArray, List.set_cons_zero, List.set_cons_succ]
          refine held_take 20 ?_ rfl (by kernel_rfl) (by kernel_rfl) (by kernel_rfl) (fun _ _ _ h => h) (by rfl) ?_ hS0 ?_
          rotate_left
          · intro wS hSw; go_simp <;> with_reducible rfl
          simp only [Act.put, List.setIfInBounds_toArray, List.set_cons_zero, List.set_cons_succ]
          refine held_one 19 rfl (by kernel_rfl) (by rfl) (fun K hK => ?_)
          go_simp
          refine (holds_is hS0.tab HWM.out ac bh HB2.out).mono ?_
          rintro e wx ⟨rfl, rfl⟩
          refine hK.out _ _ _ (fun _ h => h) hS0 (fun _ => ?_)
          clear hK K
          refine held_take 21 ?_ rfl (by kernel_rfl) (by kernel_rfl) (by kernel_rfl) (fun _ _ _ h => h) (by rfl) ?_ hS0 ?_
          rotate_left
          · intro wS hSw; go_simp <;> with_reducible rfl
          simp only [Act.put, List.setIfInBounds_toArray, List.set_cons_zero, List.set_cons_succ]
          refine held_take 22 ?_ rfl (by kernel_rfl) (by kernel_rfl) (by kernel_rfl) (fun _ _ _ h => h) (by rfl) ?_ hS0 ?_
          rotate_left
          · intro wS hSw; go_simp <;> with_reducible rfl
          simp only [Act.put, List.setIfInBounds_toArray, List.set_cons_zero, List.set_cons_succ]
          refine held_take 23 ?_ rfl (by kernel_rfl) (by kernel_rfl) (by kernel_rfl) (fun _ _ _ h => h) (by rfl) ?_ hS0 ?_
          rotate_left
          · intro wS hSw; go_simp <;> with_reducible rfl
          simp only [Act.put, List.setIfInBounds_toArray, List.set_cons_zero, List.set_cons_succ]
          refine held_take 24 ?_ rfl (by kernel_rfl) (by kernel_rfl) (by kernel_rfl) (fun _ _ _ h => h) (by rfl) ?_ hS0 ?_
          rotate_left
          · intro wS hSw; (have cS := hSw.c2; go_simp) <;> with_reducible rfl
          simp only [Act.put, List.setIfInBounds_toArray, List.set_cons_zero, List.set_cons_succ]
          refine held_take 25 ?_ rfl (by kernel_rfl) (by kernel_rfl) (by kernel_rfl) (fun _ _ _ h => h) (by rfl) ?_ hS0 ?_
          rotate_left
          · intro wS hSw; go_simp <;> with_reducible rfl
          simp only [Act.put, List.setIfInBounds_toArray, List.set_cons_zero, List.set_cons_succ]
          refine held_take 26 ?_ rfl (by kernel_rfl) (by kernel_rfl) (by kernel_rfl) (fun _ _ _ h => h) (by rfl) ?_ hS0 ?_
          rotate_left
          · intro wS hSw; go_simp <;> with_reducible rfl
          simp only [Act.put, List.setIfInBounds_toArray, List.set_cons_zero, List.set_cons_succ]
          refine held_take 27 ?_ rfl (by kernel_rfl) (by kernel_rfl) (by kernel_rfl) (fun _ _ _ h => h) (by rfl) ?_ hS0 ?_
          rotate_left
          · intro wS hSw; go_simp <;> with_reducible rfl
          simp only [Act.put, List.setIfInBounds_toArray, List.set_cons_zero, List.set_cons_succ]
          refine held_take 28 ?_ rfl (by kernel_rfl) (by kernel_rfl) (by kernel_rfl) (fun _ _ _ h => h) (by rfl) ?_ hS0 ?_
          rotate_left
          · intro wS hSw; go_simp <;> with_reducible rfl
          simp only [Act.put, List.setIfInBounds_toArray, List.set_cons_zero, List.set_cons_succ]
          refine held_take 29 ?_ rfl (by kernel_rfl) (by kernel_rfl) (by kernel_rfl) (fun _ _ _ h => h) (by rfl) ?_ hS0 ?_
          rotate_left
          · intro wS hSw; go_simp <;> with_reducible rfl
          simp only [Act.put, List.setIfInBounds_toArray, List.set_cons_zero, List.set_cons_succ]
          refine held_take 30 ?_ rfl (by kernel_rfl) (by kernel_rfl) (by kernel_rfl) (fun _ _ _ h => h) (by rfl) ?_ hS0 ?_
          rotate_left
          · intro wS hSw; go_simp <;> with_reducible rfl
          simp only [Act.put, List.setIfInBounds_toArray, List.set_cons_zero, List.set_cons_succ]
          refine held_take 31 ?_ rfl (by kernel_rfl) (by kernel_rfl) (by kernel_rfl) (fun _ _ _ h => h) (by rfl) ?_ hS0 ?_
          rotate_left
          · intro wS hSw; go_simp <;> with_reducible rfl
          simp only [Act.put, List.setIfInBounds_toArray, List.set_cons_zero, List.set_cons_succ]
          refine held_take 32 ?_ rfl (by kernel_rfl) (by kernel_rfl) (by kernel_rfl) (fun _ _ _ h => h) (by rfl) ?_ hS0 ?_
          rotate_left
          · intro wS hSw; (have cS := hSw.c2; go_simp) <;> with_reducible rfl
          simp only [Act.put, List.setIfInBounds_toArray, List.set_cons_zero, List.set_cons_succ]
          refine held_take 34 ?_ rfl (by kernel_rfl) (by kernel_rfl) (by kernel_rfl) (fun _ _ _ h => h) (by rfl) ?_ hS0 ?_
          rotate_left
          · intro wS hSw; go_simp <;> with_reducible rfl
          simp only [Act.put, List.setIfInBounds_toArray, List.set_cons_zero, List.set_cons_succ]
          refine held_take 35 ?_ rfl (by kernel_rfl) (by kernel_rfl) (by kernel_rfl) (fun _ _ _ h => h) (by rfl) ?_ hS0 ?_
          rotate_left
          · intro wS hSw; go_simp <;> with_reducible rfl
          simp only [Act.put, List.setIfInBounds_toArray, List.set_cons_zero, List.set_cons_succ]
          refine held_take 36 ?_ rfl (by kernel_rfl) (by kernel_rfl) (by kernel_rfl) (fun _ _ _ h => h) (by rfl) ?_ hS0 ?_
          rotate_left
          · intro wS hSw; (have cS := hSw.c2; go_simp) <;> with_reducible rfl
          simp only [Act.put, List.setIfInBounds_toArray, List.set_cons_zero, List.set_cons_succ]
          refine held_one 33 rfl (by kernel_rfl) (by rfl) (fun K hK => ?_)
          go_simp
          refine (of_tab hS0.tab ac).mono ?_
          rintro e wx ⟨v, rfl, h5, g5⟩
          have hT5 := hS0.grown g5
          refine hK.out (fun wS => Turn w tb mb lo wr.heap.size ak am ac (k + 1) g1 cap1 t1 t1 wS ∧ Ints wS _ v (ofL t1 ac 4)) _ _ (fun _ h => h.1) ⟨hT5, h5⟩ (fun hS1 => ?_)
          clear hK K
          refine held_one 37 rfl (by kernel_rfl) (by rfl) (fun K hK => ?_)
          go_simp
          refine (refof hS1.1.ref ac).mono ?_
          rintro e wx ⟨v2, rfl, h6, g6⟩
          have hT6 := hS1.1.grown g6
          have h7 := hS1.2.kept g6 (by simp)
          refine hK.out (fun wS => (Turn w tb mb lo wr.heap.size ak am ac (k + 1) g1 cap1 t1 t1 wS ∧ Ints wS _ v (ofL t1 ac 4)) ∧ Ints wS _ v2 (ofL t1 ac 4)) _ _ (fun _ h => h.1) ⟨⟨hT6, h7⟩, h6⟩ (fun hS2 => ?_)
          clear hK K
          refine held_one 38 rfl (by kernel_rfl) (by rfl) (fun K hK => ?_)
          go_simp
          refine (ints_same hS2.1.2 hS2.2).mono ?_
          rintro e wx ⟨rfl, g8⟩
          have hS3 := And.intro (And.intro (hS2.1.1.grown g8) (hS2.1.2.kept g8 (by simp))) (hS2.2.kept g8 (by simp))
          refine hK.out _ _ _ (fun _ h => h) hS3 (fun _ => ?_)
          clear hK K
          refine held_take 39 ?_ rfl (by kernel_rfl) (by kernel_rfl) (by kernel_rfl) (fun _ _ _ h => h) (by rfl) ?_ hS3 ?_
          rotate_left
          · intro wS hSw; go_simp <;> with_reducible rfl
          simp only [Act.put, List.setIfInBounds_toArray, List.set_cons_zero, List.set_cons_succ]
          refine held_take 40 ?_ rfl (by kernel_rfl) (by kernel_rfl) (by kernel_rfl) (fun _ _ _ h => h) (by rfl) ?_ hS3 ?_
          rotate_left
          · intro wS hSw; go_simp <;> with_reducible rfl
          simp only [Act.put, List.setIfInBounds_toArray, List.set_cons_zero, List.set_cons_succ]
          refine wpAnyH_done (by kernel_rfl) ?_ _
          refine NoPanic.normal ?_
          go_wp2_with fail
          go_roundw
          case rel => exact ⟨k + 1, g1, cap1, t1, by omega, by omega, rfl, by go_num, ⟨hS3.1.1.tab, hS3.1.1.ref, hS3.1.1.below⟩⟩
          case measure => simp [intOf]; omega
    · have hguard : (k < len0 ∧ ¬ k < 80) ∨ ¬ k < len0 := by omega
      rcases hguard with ⟨h1, h2⟩ | h1
      · go_wp2_with fail
        go_ret
        exact ⟨rfl, HP.out.below⟩
      · go_wp2_with fail
        go_ret
        exact ⟨rfl, HP.out.below⟩

end Go.Proofs.Ytakdmnamohdpaaa
