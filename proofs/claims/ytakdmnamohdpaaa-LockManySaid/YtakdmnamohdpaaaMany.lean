/- LockMany, walked: it returns true, and writes nothing that was there. -/
import Derived.Test.YtakdmnamohdpaaaOf
namespace Go.Proofs.Ytakdmnamohdpaaa
open Go.RowKit Go.Maps

theorem grown_setCell (w : World) (a : Addr) (v : Value) : w.grownBy (w.setCell a v) (some a.block) :=
  ⟨rfl, rfl, rfl, by simp [World.setCell], fun k _ hk => Below.heap_setCell _ _ _ _ (fun e => hk (by rw [e]))⟩

theorem holds_iff {t : List Int} {i c : Int} : holdsB t i c = true ↔ 0 ≤ hold t i ∧ hold t i = c := by
  unfold holdsB heldBy
  by_cases h : 0 ≤ hold t i <;> simp [h]
theorem holds_no {t : List Int} {i c : Int} : holdsB t i c = false ↔ ¬ (0 ≤ hold t i ∧ hold t i = c) := by
  rw [← holds_iff]; simp

theorem unlock_yes {t : List Int} {i c : Int} (hok : okB i c = true) (h : holdsB t i c = true) : unlockE t i c = 0 ∧ unlockT t i c = setT t i (-1) := by
  have h' := holds_iff.1 h
  have he : holderE t i c = 0 := by rw [holderE, if_pos h']
  exact ⟨by rw [unlockE, if_pos hok, he], by rw [unlockT, if_pos ⟨hok, he⟩]⟩
theorem unlock_no {t : List Int} {i c : Int} (hok : okB i c = true) (h : holdsB t i c = false) : unlockE t i c = 131 ∧ unlockT t i c = t := by
  have h' := holds_no.1 h
  have he : holderE t i c = 131 := by rw [holderE, if_neg h']
  exact ⟨by rw [unlockE, if_pos hok, he], by rw [unlockT, if_neg (by rw [he]; simp)]⟩

theorem holdsB_unset {t : List Int} (g : GoodT t) {i : Int} (hi : 0 ≤ i ∧ i < 4) (x c : Int) : holdsB (setT t i (-1)) x c = if x = i then false else holdsB t x c := by
  have hs := hold_set g hi (-1) x
  by_cases e : x = i
  · rw [if_pos e] at hs ⊢
    rw [holds_no, hs]; omega
  · rw [if_neg e] at hs ⊢
    unfold holdsB heldBy
    rw [hs]

/-- One fewer. -/
theorem ofL_unset {t : List Int} (g : GoodT t) {i : Nat} (hi : i < 4) {c : Int} (h : holdsB t i c = true) : ∀ k, (ofL (setT t i (-1)) c k).length + (if i < k then 1 else 0) = (ofL t c k).length
  | 0 => by simp [ofL]
  | k + 1 => by
    have ih := ofL_unset g hi h k
    rw [ofL_succ, ofL_succ, holdsB_unset g (by omega) _ _]
    by_cases e : k = i
    · subst e
      rw [if_pos rfl, if_pos h]
      simp at ih ⊢
      omega
    · rw [if_neg (show ¬ ((k : Int) = (i : Int)) by omega)]
      by_cases hk : holdsB t k c = true
      · rw [if_pos hk, if_pos hk]
        simp only [List.length_append, List.length_cons, List.length_nil]
        split at ih <;> split <;> omega
      · rw [if_neg hk, if_neg hk]
        split at ih <;> split <;> omega

/-- The four marks: which locks are held still. -/
structure Mk (w : World) (hb : Nat) (t : List Int) (c : Int) : Prop where
  block : ∃ cs, w.heap[hb]? = some (.cells cs 4 (0, 0)) ∧ cs.size = 4 ∧ ∀ q : Nat, q < 4 → cs[q]? = some (.bool (holdsB t q c))

theorem Mk.cell {w : World} {hb : Nat} {t : List Int} {c : Int} (h : Mk w hb t c) (q : Nat) (hq : q < 4) : w.cell? ⟨hb, q, none⟩ = some (.bool (holdsB t q c)) := by
  obtain ⟨cs, hb, _, hc⟩ := h.block
  rw [cell_of_row _ _ _ _ _ _ hb, hc q hq]
theorem Mk.free {w : World} {hb : Nat} {t : List Int} {c : Int} (h : Mk w hb t c) (q : Nat) : w.frozen? ⟨hb, q, none⟩ = false := by
  obtain ⟨cs, hb, _, _⟩ := h.block
  exact frozen_of_row _ _ _ _ _ hb
theorem Mk.lt {w : World} {hb : Nat} {t : List Int} {c : Int} (h : Mk w hb t c) : hb < w.heap.size := by
  obtain ⟨cs, hb, _, _⟩ := h.block
  exact (Array.getElem?_eq_some_iff.1 hb).1
theorem Mk.grown {w w' : World} {hb : Nat} {t : List Int} {c : Int} {row : Option Nat} (h : Mk w hb t c) (hg : w.grownBy w' row) (hr : some hb ≠ row) : Mk w' hb t c := by
  obtain ⟨cs, h1, h2, h3⟩ := h.block
  exact ⟨cs, (hg.block hb h.lt hr).trans h1, h2, h3⟩
theorem Mk.set {w : World} {hb : Nat} {t t' : List Int} {c : Int} (h : Mk w hb t c) {k : Nat} (hk : k < 4) (h1 : holdsB t' k c = false) (h2 : ∀ q : Nat, q < 4 → q ≠ k → holdsB t' q c = holdsB t q c) : Mk (w.setCell ⟨hb, k, none⟩ (.bool false)) hb t' c := by
  obtain ⟨cs, hb, hz, hc⟩ := h.block
  refine ⟨_, Go.heap_setCell_same w _ k cs 4 _ hb, by simp [hz], fun q hq => ?_⟩
  by_cases e : k = q
  · subst e
    rw [Array.getElem?_setIfInBounds_self_of_lt (by omega), h1]
  · rw [Array.getElem?_setIfInBounds_ne e, hc q hq, h2 q hq (fun x => e x.symm)]

/-- What the rounds of LockMany rest on. -/
structure Many (w : World) (tb mb hb : Nat) (t : List Int) (c : Int) (wr : World) : Prop where
  tab : IsTab wr tb mb 4 t
  mks : Mk wr hb t c
  below : Below w.heap.size w wr

theorem Many.drew {w : World} {tb mb hb : Nat} {t : List Int} {c : Int} {wr : World} (h : Many w tb mb hb t c wr) : Many w tb mb hb t c wr.drew := ⟨h.tab.drew, h.mks.grown (grown_drew _ none) (by simp), h.below.drew⟩
theorem Many.grown {w : World} {tb mb hb : Nat} {t : List Int} {c : Int} {wr w' : World} (h : Many w tb mb hb t c wr) (hg : wr.grownBy w' none) : Many w tb mb hb t c w' :=
  ⟨h.tab.grown hg (by simp) (by simp), h.mks.grown hg (by simp), h.below.grown hg h.below.size (by simp)⟩

/-- The first k locks are held. -/
structure Full (w : World) (tb mb k : Nat) (c : Int) (wr : World) : Prop where
  tab : ∃ t, IsTab wr tb mb k t ∧ ∀ x, hold t x = if 0 ≤ x ∧ x < k then c else -1
  below : Below w.heap.size w wr

theorem full_none (x : Int) (c : Int) : hold noneT x = if 0 ≤ x ∧ x < ((0 : Nat) : Int) then c else -1 := by
  rw [hold_none, if_neg (by omega)]

set_option maxHeartbeats 2000000 in
set_option maxRecDepth 100000 in
theorem lockMany_walk (who : Int) (a0 : Option Addr) (len0 cap0 : Nat) (z0 : List Int) (w : World) (w0 : IsRow .i64 w a0 len0 cap0 z0) :
    Calls Try.prog 12 #[.int .i64 who, .slice a0 len0 cap0] w fun e w' => e = .returned (.bool true) ∧ Below w.heap.size w w' := by
  have hlen := w0.len
  unfold maxLen at hlen
  have W0 := Lib.hid w0
  clear w0
  obtain ⟨p, hp, hp0, hp8⟩ : ∃ p, bits .and .i64 who 7 = p ∧ 0 ≤ p ∧ p < 8 := ⟨_, rfl, by rw [and7]; omega, by rw [and7]; omega⟩
  go_enter Try.func12, Try.ntmps12
  go_wp2_with fail
  refine (awake13 w).mono ?_
  rintro e w1 ⟨rfl, b1⟩
  have B1 := Lib.hid b1
  have hs1 := b1.size
  clear b1
  go_wp2_with fail
  refine (new_tab w1).mono ?_
  rintro e w2 ⟨rfl, h2, g2⟩
  have P2 := Lib.hid (Full.mk (k := 0) (c := p) ⟨noneT, h2, fun x => full_none x p⟩ (B1.out.grown g2 hs1 (by simp)))
  have htl := h2.lt
  clear h2 g2
  generalize htb : w1.heap.size + 1 = tb at *
  have Htb := Lib.hid htb
  have hmt : w1.heap.size < tb := by omega
  clear htb
  generalize hmb : w1.heap.size = mb at *
  have Hmb := Lib.hid hmb
  clear hmb
  go_wp2_with fail
  go_loopw [7] (fun i wr => ∃ k : Nat, k ≤ 4 ∧ i = .int .i64 k ∧ Full w tb mb k p wr) (fun i _ => 4 - (intOf i).toNat)
  case atStart => exact ⟨0, by omega, rfl, P2.out⟩
  case round =>
    obtain ⟨k, hk, rfl, hF⟩ := hrel
    have HF := Lib.hid hF
    clear hF
    by_cases hk4 : k < 4
    · obtain ⟨t, hT, hall⟩ := HF.out.tab
      have hok : okB (k : Int) p = true := okB_iff.2 ⟨by omega, by omega, hp0, hp8⟩
      have hnone : hold t (k : Int) = -1 := by rw [hall]; exact if_neg (by omega)
      have hL : lockE t k p = 0 ∧ lockT t k p = setT t k p := by
        unfold lockE lockT busyE
        simp [hok, hnone]
      have HT := Lib.hid hT
      have HL := Lib.hid hL
      have HA := Lib.hid hall
      have hbw := HF.out.below.size
      clear hT hL hall hnone hok
      go_wp2_with fail
      refine (lock_is HT.out (by omega) k p _ _ HL.out.2 HL.out.1).mono ?_
      rintro e w3 ⟨rfl, h3, g3⟩
      have P3 := Lib.hid (Full.mk (k := k + 1) (c := p) ⟨_, h3, fun x => by
        rw [hold_set HT.out.good (by omega), HA.out]
        by_cases e : x = k
        · rw [if_pos e, if_pos (by omega)]
        · rw [if_neg e]
          by_cases e2 : 0 ≤ x ∧ x < (k : Int)
          · rw [if_pos e2, if_pos (by omega)]
          · rw [if_neg e2, if_neg (by omega)]⟩ (HF.out.below.grown g3 hbw (by simp; omega)))
      clear h3 g3
      go_wp2_with fail
      go_roundw
      case rel => exact ⟨k + 1, by omega, by go_num, P3.out⟩
      case measure => simp [intOf]; omega
    · have h4 : k = 4 := by omega
      obtain ⟨t, hT, hall⟩ := HF.out.tab
      have hT4 : IsTab wr tb mb 4 t := h4 ▸ hT
      have hheld : ∀ q : Nat, q < 4 → holdsB t q p = true := fun q hq => holds_iff.2 (by rw [hall, if_pos (by omega)]; omega)
      have hlen4 : (ofL t p 4).length = 4 := by
        have hf : (List.range 4).filter (fun q : Nat => holdsB t q p) = List.range 4 := List.filter_eq_self.2 fun q hq => hheld q (List.mem_range.1 hq)
        rw [ofL, hf]
        rfl
      have hM : Mk (wr.alloc (.cells #[.bool true, .bool true, .bool true, .bool true] 4)) wr.heap.size t p := by
        refine ⟨_, Go.heap_alloc_new wr _, rfl, fun q hq => ?_⟩
        rw [hheld q hq]
        obtain rfl | rfl | rfl | rfl : q = 0 ∨ q = 1 ∨ q = 2 ∨ q = 3 := by omega
        all_goals rfl
      have hP : Many w tb mb wr.heap.size t p (wr.alloc (.cells #[.bool true, .bool true, .bool true, .bool true] 4)) := ⟨hT4.alloc _, hM, HF.out.below.alloc HF.out.below.size _⟩
      have HP := Lib.hid hP
      have HL4 := Lib.hid hlen4
      have hwr := HF.out.below.size
      have htr := hT4.lt
      clear hT hall hT4 hheld hlen4 hM hP h4
      go_wp2_with fail
      generalize hhb : wr.heap.size = hb at *
      have Hhb := Lib.hid hhb
      clear hhb
      obtain ⟨m, hm⟩ : ∃ m : Nat, m = 4 := ⟨_, rfl⟩
      go_loopw [9, 10] (fun nv i wq => ∃ (k : Nat) (t : List Int) (m : Nat), k ≤ len0 ∧ i = .int .i64 k ∧ nv = .int .i64 m ∧ m = (ofL t p 4).length ∧ Many w tb mb hb t p wq) (fun _ i _ => len0 - (intOf i).toNat)
      case atStart => exact ⟨0, t, 4, Nat.zero_le _, rfl, rfl, HL4.out.symm, HP.out⟩
      case round =>
        clear hm
        obtain ⟨k2, t2, m2, hk2, rfl, rfl, hm2, hM2⟩ := hrel
        have HM := Lib.hid hM2
        have Hm := Lib.hid hm2
        have hml := ofL_len t2 p 4
        rw [← hm2] at hml
        have hbw := hM2.below.size
        clear hm2 hM2
        by_cases hlt : k2 < len0 ∧ k2 < 20
        · obtain ⟨hlt, h20⟩ := hlt
          obtain ⟨bb, off, rfl, hbb, hc⟩ := W0.out.at (by omega)
          have hc' := hc k2 hlt
          have Hc := Lib.hid hc'
          clear hc hc'
          generalize nth z0 k2 = x at *
          obtain ⟨j, hj, hj4⟩ : ∃ j : Nat, bits .and .i64 x 3 = (j : Int) ∧ j < 4 := ⟨(x % 4).toNat, by rw [and3]; omega, by omega⟩
          have hok : okB (j : Int) p = true := okB_iff.2 ⟨by omega, by omega, hp0, hp8⟩
          have Hok := Lib.hid hok
          have cc := Hc.out _ HM.out.below
          clear hok
          go_wp2_with fail
          clear cc
          cases hh : holdsB t2 j p
          · have HH := Lib.hid hh
            have F := unlock_no Hok.out hh
            have hcell := HM.out.mks.cell j hj4
            rw [hh] at hcell
            clear hh
            have HF := Lib.hid F
            clear F
            refine (unlock_is HM.out.tab (by omega) j p _ _ HF.out.2 HF.out.1).mono ?_
            rintro e w3 ⟨rfl, h3, g3⟩
            have hs3 := g3.size
            have hmk3 := HM.out.mks.grown g3 (by simp; omega)
            have hc3 := hmk3.cell j hj4
            rw [HH.out] at hc3
            have hf3 := hmk3.free j
            have P3 := Lib.hid (Many.mk (h3.grown (grown_setCell _ ⟨hb, j, none⟩ (.bool false)) (by simp; omega) (by simp; omega)) (hmk3.set hj4 HH.out (fun _ _ _ => rfl)) ((HM.out.below.grown g3 hbw (by simp; omega)).setCell (p := ⟨hb, j, none⟩) (by simp; omega) (.bool false)))
            clear h3 g3 hmk3 hcell
            go_wp2_with fail
            refine (of_tab P3.out.tab p).mono ?_
            rintro e w4 ⟨v, rfl, h4, g4⟩
            obtain ⟨a4, c4, hv⟩ := h4.slice
            rw [← Hm.out] at hv
            subst hv
            have P4 := Lib.hid (P3.out.grown g4)
            clear h4 g4 hc3 hf3
            go_wp2_with fail
            go_loopw [13] (fun q wq => ∃ j3 : Nat, j3 ≤ 4 ∧ q = .int .i64 j3 ∧ Many w tb mb hb t2 p wq) (fun q _ => 4 - (intOf q).toNat)
            case atStart => exact ⟨0, by omega, rfl, P4.out⟩
            case round =>
              obtain ⟨j3, hj3, rfl, hM3⟩ := hrel
              have HM3 := Lib.hid hM3
              clear hM3
              by_cases hj34 : j3 < 4
              · have hwf : (Lit.int .i64 (j3 : Int)).wf = true := WalkArith.wf_i64 (by omega)
                have Hwf := Lib.hid hwf
                clear hwf
                go_wp2_with fail
                refine held_begin (fun w' => Many w tb mb hb t2 p w') (by kernel_rfl) HM3.out.drew ?_
                have hS0 := HM3.out.drew
                refine held_take 0 ?_ rfl (by kernel_rfl) (by kernel_rfl) (by kernel_rfl) (fun _ _ _ h => h) (by rfl) ?_ hS0 ?_
                rotate_left
                · intro wS hSw; go_simp <;> with_reducible rfl
                simp only [Act.put, List.setIfInBounds_toArray, List.set_cons_zero, List.set_cons_succ]
                refine held_take 1 ?_ rfl (by kernel_rfl) (by kernel_rfl) (by kernel_rfl) (fun _ _ _ h => h) (by rfl) ?_ hS0 ?_
                rotate_left
                · intro wS hSw; go_simp <;> with_reducible rfl
                simp only [Act.put, List.setIfInBounds_toArray, List.set_cons_zero, List.set_cons_succ]
                refine held_take 2 ?_ rfl (by kernel_rfl) (by kernel_rfl) (by kernel_rfl) (fun _ _ _ h => h) (by rfl) ?_ hS0 ?_
                rotate_left
                · intro wS hSw; go_simp <;> with_reducible rfl
                simp only [Act.put, List.setIfInBounds_toArray, List.set_cons_zero, List.set_cons_succ]
                refine held_take 4 ?_ rfl (by kernel_rfl) (by kernel_rfl) (by kernel_rfl) (fun _ _ _ h => h) (by rfl) ?_ hS0 ?_
                rotate_left
                · intro wS hSw; go_simp <;> with_reducible rfl
                simp only [Act.put, List.setIfInBounds_toArray, List.set_cons_zero, List.set_cons_succ]
                refine held_take 5 ?_ rfl (by kernel_rfl) (by kernel_rfl) (by kernel_rfl) (fun _ _ _ h => h) (by rfl) ?_ hS0 ?_
                rotate_left
                · intro wS hSw; go_simp <;> with_reducible rfl
                simp only [Act.put, List.setIfInBounds_toArray, List.set_cons_zero, List.set_cons_succ]
                refine held_take 6 ?_ rfl (by kernel_rfl) (by kernel_rfl) (by kernel_rfl) (fun _ _ _ h => h) (by rfl) ?_ hS0 ?_
                rotate_left
                · intro wS hSw; go_simp <;> with_reducible rfl
                simp only [Act.put, List.setIfInBounds_toArray, List.set_cons_zero, List.set_cons_succ]
                refine held_take 7 ?_ rfl (by kernel_rfl) (by kernel_rfl) (by kernel_rfl) (fun _ _ _ h => h) (by rfl) ?_ hS0 ?_
                rotate_left
                · intro wS hSw; (have cS := hSw.mks.cell j3 hj34; go_simp) <;> with_reducible rfl
                simp only [Act.put, List.setIfInBounds_toArray, List.set_cons_zero, List.set_cons_succ]
                refine held_one 3 rfl (by kernel_rfl) (by rfl) (fun K hK => ?_)
                go_simp
                refine (holds_tab hS0.tab Hwf.out p).mono ?_
                rintro e wx ⟨rfl, rfl⟩
                refine hK.out _ _ _ (fun _ h => h) hS0 (fun _ => ?_)
                clear hK K
                refine held_take 8 ?_ rfl (by kernel_rfl) (by kernel_rfl) (by kernel_rfl) (fun _ _ _ h => h) (by rfl) ?_ hS0 ?_
                rotate_left
                · intro wS hSw; go_simp <;> with_reducible rfl
                simp only [Act.put, List.setIfInBounds_toArray, List.set_cons_zero, List.set_cons_succ]
                refine wpAnyH_done (by kernel_rfl) ?_ _
                refine NoPanic.normal ?_
                have HS := Lib.hid hS0
                clear hS0
                go_wp2
                go_roundw
                case rel => exact ⟨j3 + 1, by omega, by go_num, HS.out⟩
                case measure => simp [intOf]; omega
              · go_wp2_with fail
                go_roundw
                case rel => exact ⟨k2 + 1, t2, m2, by omega, by go_num, rfl, Hm.out, HM3.out⟩
                case measure => simp [intOf]; omega
          · have HH := Lib.hid hh
            have F := unlock_yes Hok.out hh
            have HF := Lib.hid F
            have hun := fun (q : Nat) (hq : q ≠ j) => holdsB_unset HM.out.tab.good (i := (j : Int)) (by omega) (q : Int) p
            have hun2 := holdsB_unset HM.out.tab.good (i := (j : Int)) (by omega) (j : Int) p
            rw [if_pos rfl] at hun2
            have hlen2 := ofL_unset HM.out.tab.good hj4 hh 4
            rw [if_pos hj4, ← Hm.out] at hlen2
            have HUN := Lib.hid (And.intro hun hun2)
            generalize ht3 : setT t2 (j : Int) (-1) = t3 at *
            obtain ⟨m3, hm3⟩ : ∃ m3 : Nat, (ofL t3 p 4).length = m3 := ⟨_, rfl⟩
            rw [hm3] at hlen2
            have HM3' := Lib.hid hm3
            subst hlen2
            clear F hun hun2 hh hm3
            have HT3 := Lib.hid ht3
            clear ht3
            refine (unlock_is HM.out.tab (by omega) j p _ _ HF.out.2 HF.out.1).mono ?_
            rintro e w3 ⟨rfl, h3, g3⟩
            have hs3 := g3.size
            have hmk3 := HM.out.mks.grown g3 (by simp; omega)
            have hc3 := hmk3.cell j hj4
            rw [HH.out] at hc3
            have hf3 := hmk3.free j
            have P3 := Lib.hid (Many.mk (h3.grown (grown_setCell _ ⟨hb, j, none⟩ (.bool false)) (by simp; omega) (by simp; omega)) (hmk3.set hj4 HUN.out.2 (fun q _ hq => by rw [HUN.out.1 q hq, if_neg (by omega)])) ((HM.out.below.grown g3 hbw (by simp; omega)).setCell (p := ⟨hb, j, none⟩) (by simp; omega) (.bool false)))
            clear h3 g3 hmk3
            go_wp2_with fail
            refine (of_tab P3.out.tab p).mono ?_
            rintro e w4 ⟨v, rfl, h4, g4⟩
            obtain ⟨a4, c4, hv⟩ := h4.slice
            rw [HM3'.out] at hv
            subst hv
            have P4 := Lib.hid (P3.out.grown g4)
            clear h4 g4 hc3 hf3
            go_wp2_with fail
            go_loopw [13] (fun q wq => ∃ j3 : Nat, j3 ≤ 4 ∧ q = .int .i64 j3 ∧ Many w tb mb hb t3 p wq) (fun q _ => 4 - (intOf q).toNat)
            case atStart => exact ⟨0, by omega, rfl, P4.out⟩
            case round =>
              obtain ⟨j3, hj3, rfl, hM3⟩ := hrel
              have HM3 := Lib.hid hM3
              clear hM3
              by_cases hj34 : j3 < 4
              · have hwf : (Lit.int .i64 (j3 : Int)).wf = true := WalkArith.wf_i64 (by omega)
                have Hwf := Lib.hid hwf
                clear hwf
                go_wp2_with fail
                refine held_begin (fun w' => Many w tb mb hb t3 p w') (by kernel_rfl) HM3.out.drew ?_
                have hS0 := HM3.out.drew
                refine held_take 0 ?_ rfl (by kernel_rfl) (by kernel_rfl) (by kernel_rfl) (fun _ _ _ h => h) (by rfl) ?_ hS0 ?_
                rotate_left
                · intro wS hSw; go_simp <;> with_reducible rfl
                simp only [Act.put, List.setIfInBounds_toArray, List.set_cons_zero, List.set_cons_succ]
                refine held_take 1 ?_ rfl (by kernel_rfl) (by kernel_rfl) (by kernel_rfl) (fun _ _ _ h => h) (by rfl) ?_ hS0 ?_
                rotate_left
                · intro wS hSw; go_simp <;> with_reducible rfl
                simp only [Act.put, List.setIfInBounds_toArray, List.set_cons_zero, List.set_cons_succ]
                refine held_take 2 ?_ rfl (by kernel_rfl) (by kernel_rfl) (by kernel_rfl) (fun _ _ _ h => h) (by rfl) ?_ hS0 ?_
                rotate_left
                · intro wS hSw; go_simp <;> with_reducible rfl
                simp only [Act.put, List.setIfInBounds_toArray, List.set_cons_zero, List.set_cons_succ]
                refine held_take 4 ?_ rfl (by kernel_rfl) (by kernel_rfl) (by kernel_rfl) (fun _ _ _ h => h) (by rfl) ?_ hS0 ?_
                rotate_left
                · intro wS hSw; go_simp <;> with_reducible rfl
                simp only [Act.put, List.setIfInBounds_toArray, List.set_cons_zero, List.set_cons_succ]
                refine held_take 5 ?_ rfl (by kernel_rfl) (by kernel_rfl) (by kernel_rfl) (fun _ _ _ h => h) (by rfl) ?_ hS0 ?_
                rotate_left
                · intro wS hSw; go_simp <;> with_reducible rfl
                simp only [Act.put, List.setIfInBounds_toArray, List.set_cons_zero, List.set_cons_succ]
                refine held_take 6 ?_ rfl (by kernel_rfl) (by kernel_rfl) (by kernel_rfl) (fun _ _ _ h => h) (by rfl) ?_ hS0 ?_
                rotate_left
                · intro wS hSw; go_simp <;> with_reducible rfl
                simp only [Act.put, List.setIfInBounds_toArray, List.set_cons_zero, List.set_cons_succ]
                refine held_take 7 ?_ rfl (by kernel_rfl) (by kernel_rfl) (by kernel_rfl) (fun _ _ _ h => h) (by rfl) ?_ hS0 ?_
                rotate_left
                · intro wS hSw; (have cS := hSw.mks.cell j3 hj34; go_simp) <;> with_reducible rfl
                simp only [Act.put, List.setIfInBounds_toArray, List.set_cons_zero, List.set_cons_succ]
                refine held_one 3 rfl (by kernel_rfl) (by rfl) (fun K hK => ?_)
                go_simp
                refine (holds_tab hS0.tab Hwf.out p).mono ?_
                rintro e wx ⟨rfl, rfl⟩
                refine hK.out _ _ _ (fun _ h => h) hS0 (fun _ => ?_)
                clear hK K
                refine held_take 8 ?_ rfl (by kernel_rfl) (by kernel_rfl) (by kernel_rfl) (fun _ _ _ h => h) (by rfl) ?_ hS0 ?_
                rotate_left
                · intro wS hSw; go_simp <;> with_reducible rfl
                simp only [Act.put, List.setIfInBounds_toArray, List.set_cons_zero, List.set_cons_succ]
                refine wpAnyH_done (by kernel_rfl) ?_ _
                refine NoPanic.normal ?_
                have HS := Lib.hid hS0
                clear hS0
                go_wp2
                go_roundw
                case rel => exact ⟨j3 + 1, by omega, by go_num, HS.out⟩
                case measure => simp [intOf]; omega
              · go_wp2_with fail
                go_roundw
                case rel => exact ⟨k2 + 1, t3, m3, by omega, by go_num, rfl, HM3'.out.symm, HM3.out⟩
                case measure => simp [intOf]; omega
        · have hguard : (k2 < len0 ∧ ¬ k2 < 20) ∨ ¬ k2 < len0 := by omega
          rcases hguard with ⟨h1, h2⟩ | h1
          · go_wp2_with fail
            go_ret
            exact ⟨rfl, HM.out.below⟩
          · go_wp2_with fail
            go_ret
            exact ⟨rfl, HM.out.below⟩

end Go.Proofs.Ytakdmnamohdpaaa
