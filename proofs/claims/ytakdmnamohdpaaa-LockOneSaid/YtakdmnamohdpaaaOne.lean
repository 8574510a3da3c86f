/- LockOne, walked: it returns true, and writes nothing that was there. -/
import Derived.Test.YtakdmnamohdpaaaOf
import Derived.Test.YtakdmnamohdpaaaActs
namespace Go.Proofs.Ytakdmnamohdpaaa
open Go.RowKit Go.Maps

/-- What a round of a script rests on. -/
structure Script (w : World) (tb mb n : Nat) (t : List Int) (wr : World) : Prop where
  tab : IsTab wr tb mb n t
  below : Below w.heap.size w wr

theorem Script.grown {w : World} {tb mb n : Nat} {t : List Int} {wr w' : World} (h : Script w tb mb n t wr) (hg : wr.grownBy w' none) : Script w tb mb n t w' :=
  ⟨h.tab.grown hg (by simp) (by simp), h.below.grown hg h.below.size (by simp)⟩

theorem holds_iff {t : List Int} {i c : Int} : holdsB t i c = true ↔ 0 ≤ hold t i ∧ hold t i = c := by
  unfold holdsB heldBy
  by_cases h : 0 ≤ hold t i <;> simp [h]

/-- Is it among the first k? -/
def anyT (l : List Int) (x : Int) (k : Nat) : Bool := (l.take k).any fun y => y == x
theorem anyT_zero (l : List Int) (x : Int) : anyT l x 0 = false := by simp [anyT]
theorem anyT_succ {l : List Int} {x : Int} {k : Nat} (h : k < l.length) : anyT l x (k + 1) = (anyT l x k || nth l k == x) := by
  unfold anyT nth
  rw [List.take_succ_eq_append_getElem h, List.any_append]
  simp [List.getElem?_eq_getElem h]
theorem anyT_all {t : List Int} {c : Int} {i : Nat} (hi : i < 4) : anyT (ofL t c 4) i (ofL t c 4).length = holdsB t i c := by
  unfold anyT
  rw [List.take_length, Bool.eq_iff_iff, List.any_eq_true]
  unfold ofL
  constructor
  · rintro ⟨y, hy, he⟩
    obtain ⟨q, hq, rfl⟩ := List.mem_map.1 hy
    have h2 := (List.mem_filter.1 hq).2
    have h3 : (q : Int) = i := by simpa using he
    rw [← h3]; exact h2
  · intro h
    exact ⟨(i : Int), List.mem_map.2 ⟨i, List.mem_filter.2 ⟨List.mem_range.2 hi, h⟩, rfl⟩, by simp⟩

/-- How many of the first k clients hold it. -/
def cntH (t : List Int) (i : Int) (k : Nat) : Nat := ((List.range k).filter fun c : Nat => holdsB t i c).length
theorem cntH_succ (t : List Int) (i : Int) (k : Nat) : cntH t i (k + 1) = cntH t i k + if holdsB t i k = true then 1 else 0 := by
  unfold cntH
  rw [List.range_succ, List.filter_append, List.length_append]
  by_cases h : holdsB t i k = true <;> simp [h]
theorem cntH_is (t : List Int) (i : Int) : ∀ k : Nat, cntH t i k = if 0 ≤ hold t i ∧ hold t i < k then 1 else 0
  | 0 => by rw [if_neg (by omega)]; rfl
  | k + 1 => by
    rw [cntH_succ, cntH_is t i k]
    by_cases h : holdsB t i k = true
    · have := holds_iff.1 h
      rw [if_neg (by omega), if_pos h, if_pos (by omega)]
    · have h' : ¬ (0 ≤ hold t i ∧ hold t i = k) := fun e => h (holds_iff.2 e)
      rw [if_neg h]
      by_cases h2 : 0 ≤ hold t i ∧ hold t i < (k : Int)
      · rw [if_pos h2, if_pos (by omega)]
      · rw [if_neg h2, if_neg (by omega)]
theorem cntH_le (t : List Int) (i : Int) (k : Nat) : cntH t i k ≤ 1 := by rw [cntH_is]; split <;> omega

set_option maxHeartbeats 4000000 in
set_option maxRecDepth 100000 in
theorem lockOne_walk (a0 : Option Addr) (len0 cap0 : Nat) (w : World) (w0 : IsActs w a0 len0) :
    Calls Try.prog 9 #[.slice a0 len0 cap0] w fun e w' => e = .returned (.bool true) ∧ Below w.heap.size w w' := by
  have hlen := w0.short
  unfold maxLen at hlen
  have W0 := Lib.hid w0
  clear w0
  go_enter Try.func9, Try.ntmps9
  go_wp2_with fail
  refine (awake13 w).mono ?_
  rintro e w1 ⟨rfl, b1⟩
  have B1 := Lib.hid b1
  have hs1 := b1.size
  clear b1
  go_wp2_with fail
  refine (new_tab w1).mono ?_
  rintro e w2 ⟨rfl, h2, g2⟩
  have P2 := Lib.hid (Script.mk h2 (B1.out.grown g2 hs1 (by simp)))
  have htl := h2.lt
  clear h2 g2
  generalize htb : w1.heap.size + 1 = tb at *
  have Htb := Lib.hid htb
  have hmt : w1.heap.size < tb := by omega
  clear htb
  generalize hmb : w1.heap.size = mb at *
  have Hmb := Lib.hid hmb
  clear hmb
  go_wp2_with fail
  go_loopw [5] (fun i wr => ∃ (k : Nat) (t : List Int), k ≤ len0 ∧ k ≤ 80 ∧ i = .int .i64 k ∧ Script w tb mb k t wr) (fun i _ => len0 - (intOf i).toNat)
  case atStart => exact ⟨0, noneT, Nat.zero_le _, by omega, rfl, P2.out⟩
  case round =>
    obtain ⟨k, t, hk, hk80, rfl, hP⟩ := hrel
    have HP := Lib.hid hP
    have hbw := hP.below.size
    clear hP
    by_cases hlt : k < len0 ∧ k < 80
    · obtain ⟨hlt, h80⟩ := hlt
      obtain ⟨b, off, rfl, hb, hc⟩ := W0.out.row (by omega)
      obtain ⟨ak, am, ac, wm, wc, hcells⟩ := hc k hlt
      have HC := Lib.hid hcells
      clear hc wm wc hcells
      obtain ⟨d0, d1, d2⟩ := HC.out wr HP.out.below
      have hd25 : decide ((k : Int) < 80) = true := by simp; omega
      go_wp2_with fail
      refine (done_any HP.out.tab (by omega) ak am ac).mono ?_
      rintro e w3 ⟨rfl, h3, g3⟩
      have P3 := Lib.hid (Script.mk h3 (HP.out.below.grown g3 hbw (by simp; omega)))
      clear h3 g3 d0 d1 d2
      generalize doneT t ak am ac = t1 at *
      obtain ⟨wo, rfl⟩ : ∃ wo : World, wo = wr := ⟨_, rfl⟩
      go_wp2_with fail
      go_loopw [6] (fun i wq => ∃ j : Nat, j ≤ 4 ∧ i = .int .i64 j ∧ Script w tb mb (k + 1) t1 wq) (fun i _ => 4 - (intOf i).toNat)
      case atStart => exact ⟨0, by omega, rfl, P3.out⟩
      case round =>
        obtain ⟨j, hj, rfl, hQ⟩ := hrel
        have HQ := Lib.hid hQ
        clear hQ
        by_cases hj4 : j < 4
        · have hwf : (Lit.int .i64 (j : Int)).wf = true := WalkArith.wf_i64 (by omega)
          have Hwf := Lib.hid hwf
          clear hwf
          obtain ⟨o, bo, ho, hbo⟩ : ∃ (o : Int) (bo : Bool), heldBy t1 j = o ∧ decide (0 ≤ hold t1 j) = bo := ⟨_, _, rfl, rfl⟩
          have HO := Lib.hid (And.intro ho hbo)
          clear ho hbo
          have hd35 : decide ((j : Int) < 4) = true := by simp; omega
          go_wp2_with fail
          refine (owner_is HQ.out.tab Hwf.out o bo HO.out.1 HO.out.2).mono ?_
          rintro e wx ⟨rfl, rfl⟩
          obtain ⟨wo2, rfl⟩ : ∃ wo : World, wo = wr := ⟨_, rfl⟩
          cases bo
          · go_wp2_with fail
            go_loopw [7, 10] (fun nv cv wq => ∃ c : Nat, c ≤ 8 ∧ cv = .int .i64 c ∧ nv = .int .i64 (cntH t1 j c) ∧ Script w tb mb (k + 1) t1 wq) (fun _ cv _ => 8 - (intOf cv).toNat)
            case atStart => exact ⟨0, by omega, rfl, rfl, HQ.out⟩
            case round =>
              obtain ⟨c, hc, rfl, rfl, hR⟩ := hrel
              have HR := Lib.hid hR
              have hcl := cntH_le t1 j c
              clear hR
              by_cases hc8 : c < 8
              · have hcs := cntH_succ t1 j c
                have HCS := Lib.hid hcs
                clear hcs
                have hd45 : decide ((c : Int) < 8) = true := by simp; omega
                go_wp2_with fail
                refine (of_tab HR.out.tab c).mono ?_
                rintro e w5 ⟨v, rfl, h5, g5⟩
                have HI := Lib.hid h5
                have P5 := Lib.hid (HR.out.grown g5)
                have hll := ofL_len t1 c 4
                have hall := anyT_all (t := t1) (c := (c : Int)) hj4
                have HA := Lib.hid hall
                clear h5 g5 hall
                generalize ofL t1 c 4 = L at *
                obtain ⟨bh, hbh⟩ : ∃ bh, holdsB t1 j c = bh := ⟨_, rfl⟩
                have HB := Lib.hid hbh
                clear hbh
                rcases HI.out.cases with ⟨rfl, rfl⟩ | ⟨g, cap5, rfl, _, _, _, hcm, hcell, _⟩
                · go_wp2_with fail
                  go_loop [12, 13] (fun iv kv => kv = .int .i64 0 ∧ iv = .bool false) (fun _ _ => 0)
                  case atStart => exact ⟨rfl, rfl⟩
                  case round =>
                    obtain ⟨rfl, rfl⟩ := hrel
                    have hbf : bh = false := HB.out.symm.trans (HA.out.symm.trans (by simp [anyT]))
                    subst hbf
                    go_wp2_with fail
                    refine (holds_is P5.out.tab Hwf.out c false HB.out).mono ?_
                    rintro e wx ⟨rfl, rfl⟩
                    go_wp2_with fail
                    go_roundw
                    case rel => exact ⟨c + 1, by omega, by go_num, by rw [HCS.out, HB.out]; simp, P5.out⟩
                    case measure => simp [intOf]; omega
                · have HCELL := Lib.hid hcell
                  clear hcell
                  unfold maxLen at hcm
                  go_wp2_with fail
                  go_loop [12, 13] (fun iv kv => ∃ q : Nat, q ≤ L.length ∧ kv = .int .i64 q ∧ iv = .bool (anyT L j q)) (fun _ kv => L.length - (intOf kv).toNat)
                  case atStart => exact ⟨0, Nat.zero_le _, rfl, by rw [anyT_zero]⟩
                  case round =>
                    obtain ⟨q, hq, rfl, rfl⟩ := hrel
                    by_cases hql : q < L.length
                    · have hsu := anyT_succ (x := (j : Int)) hql
                      have HSU := Lib.hid hsu
                      clear hsu
                      have hcq := HCELL.out q hql
                      generalize anyT L (j : Int) q = ba at *
                      cases ba
                      · go_wp2_with fail
                        go_round
                        case rel => exact ⟨q + 1, by omega, by go_num, by rw [HSU.out]; simp⟩
                        case measure => simp [intOf]; omega
                      · go_wp2_with fail
                        go_round
                        case rel => exact ⟨q + 1, by omega, by go_num, by rw [HSU.out]; simp⟩
                        case measure => simp [intOf]; omega
                    · have hqe : anyT L (j : Int) q = bh := by
                        have e : q = L.length := by omega
                        rw [e, HA.out, HB.out]
                      rw [hqe]
                      clear hqe
                      cases bh
                      · go_wp2_with fail
                        refine (holds_is P5.out.tab Hwf.out c false HB.out).mono ?_
                        rintro e wx ⟨rfl, rfl⟩
                        go_wp2_with fail
                        go_roundw
                        case rel => exact ⟨c + 1, by omega, by go_num, by rw [HCS.out, HB.out]; simp, P5.out⟩
                        case measure => simp [intOf]; omega
                      · exact absurd (holds_iff.1 HB.out).1 (by have := HO.out.2; simpa using this)
              · have hN : cntH t1 j c = 0 := by
                  have h8 : c = 8 := by omega
                  have hr := HR.out.tab.good.range (j : Int)
                  have ho2 := HO.out.2
                  rw [h8, cntH_is, if_neg (by simp at ho2; omega)]
                rw [hN]
                clear hN hcl
                go_wp2_with fail
                go_roundw
                case rel => exact ⟨j + 1, by omega, by go_num, HR.out⟩
                case measure => simp [intOf]; omega
          · go_wp2_with fail
            go_loopw [7, 10] (fun nv cv wq => ∃ c : Nat, c ≤ 8 ∧ cv = .int .i64 c ∧ nv = .int .i64 (cntH t1 j c) ∧ Script w tb mb (k + 1) t1 wq) (fun _ cv _ => 8 - (intOf cv).toNat)
            case atStart => exact ⟨0, by omega, rfl, rfl, HQ.out⟩
            case round =>
              obtain ⟨c, hc, rfl, rfl, hR⟩ := hrel
              have HR := Lib.hid hR
              have hcl := cntH_le t1 j c
              clear hR
              by_cases hc8 : c < 8
              · have hcs := cntH_succ t1 j c
                have HCS := Lib.hid hcs
                clear hcs
                have hd45 : decide ((c : Int) < 8) = true := by simp; omega
                go_wp2_with fail
                refine (of_tab HR.out.tab c).mono ?_
                rintro e w5 ⟨v, rfl, h5, g5⟩
                have HI := Lib.hid h5
                have P5 := Lib.hid (HR.out.grown g5)
                have hll := ofL_len t1 c 4
                have hall := anyT_all (t := t1) (c := (c : Int)) hj4
                have HA := Lib.hid hall
                clear h5 g5 hall
                generalize ofL t1 c 4 = L at *
                obtain ⟨bh, hbh⟩ : ∃ bh, holdsB t1 j c = bh := ⟨_, rfl⟩
                have HB := Lib.hid hbh
                clear hbh
                rcases HI.out.cases with ⟨rfl, rfl⟩ | ⟨g, cap5, rfl, _, _, _, hcm, hcell, _⟩
                · go_wp2_with fail
                  go_loop [12, 13] (fun iv kv => kv = .int .i64 0 ∧ iv = .bool false) (fun _ _ => 0)
                  case atStart => exact ⟨rfl, rfl⟩
                  case round =>
                    obtain ⟨rfl, rfl⟩ := hrel
                    have hbf : bh = false := HB.out.symm.trans (HA.out.symm.trans (by simp [anyT]))
                    subst hbf
                    go_wp2_with fail
                    refine (holds_is P5.out.tab Hwf.out c false HB.out).mono ?_
                    rintro e wx ⟨rfl, rfl⟩
                    go_wp2_with fail
                    go_roundw
                    case rel => exact ⟨c + 1, by omega, by go_num, by rw [HCS.out, HB.out]; simp, P5.out⟩
                    case measure => simp [intOf]; omega
                · have HCELL := Lib.hid hcell
                  clear hcell
                  unfold maxLen at hcm
                  go_wp2_with fail
                  go_loop [12, 13] (fun iv kv => ∃ q : Nat, q ≤ L.length ∧ kv = .int .i64 q ∧ iv = .bool (anyT L j q)) (fun _ kv => L.length - (intOf kv).toNat)
                  case atStart => exact ⟨0, Nat.zero_le _, rfl, by rw [anyT_zero]⟩
                  case round =>
                    obtain ⟨q, hq, rfl, rfl⟩ := hrel
                    by_cases hql : q < L.length
                    · have hsu := anyT_succ (x := (j : Int)) hql
                      have HSU := Lib.hid hsu
                      clear hsu
                      have hcq := HCELL.out q hql
                      generalize anyT L (j : Int) q = ba at *
                      cases ba
                      · go_wp2_with fail
                        go_round
                        case rel => exact ⟨q + 1, by omega, by go_num, by rw [HSU.out]; simp⟩
                        case measure => simp [intOf]; omega
                      · go_wp2_with fail
                        go_round
                        case rel => exact ⟨q + 1, by omega, by go_num, by rw [HSU.out]; simp⟩
                        case measure => simp [intOf]; omega
                    · have hqe : anyT L (j : Int) q = bh := by
                        have e : q = L.length := by omega
                        rw [e, HA.out, HB.out]
                      rw [hqe]
                      clear hqe
                      cases bh
                      · go_wp2_with fail
                        refine (holds_is P5.out.tab Hwf.out c false HB.out).mono ?_
                        rintro e wx ⟨rfl, rfl⟩
                        go_wp2_with fail
                        go_roundw
                        case rel => exact ⟨c + 1, by omega, by go_num, by rw [HCS.out, HB.out]; simp, P5.out⟩
                        case measure => simp [intOf]; omega
                      · have hh := holds_iff.1 HB.out
                        have hoc : (o == (c : Int)) = true := by
                          have h1 := HO.out.1
                          unfold heldBy at h1
                          rw [if_pos hh.1] at h1
                          simp; omega
                        clear hh
                        go_wp2_with fail
                        refine (holds_is P5.out.tab Hwf.out c true HB.out).mono ?_
                        rintro e wx ⟨rfl, rfl⟩
                        go_wp2_with fail
                        go_roundw
                        case rel => exact ⟨c + 1, by omega, by go_num, by rw [HCS.out, HB.out]; simp, P5.out⟩
                        case measure => simp [intOf]; omega
              · have hN : cntH t1 j c = 1 := by
                  have h8 : c = 8 := by omega
                  have hr := HR.out.tab.good.range (j : Int)
                  have ho2 := HO.out.2
                  rw [h8, cntH_is, if_pos (by simp at ho2; omega)]
                rw [hN]
                clear hN hcl
                go_wp2_with fail
                go_roundw
                case rel => exact ⟨j + 1, by omega, by go_num, HR.out⟩
                case measure => simp [intOf]; omega
        · go_wp2_with fail
          go_roundw
          case rel => exact ⟨k + 1, t1, by omega, by omega, by go_num, HQ.out⟩
          case measure => simp [intOf]; omega
    · have hguard : (k < len0 ∧ ¬ k < 80) ∨ ¬ k < len0 := by omega
      rcases hguard with ⟨h1, h2⟩ | h1
      · go_wp2_with fail
        go_ret
        exact ⟨rfl, HP.out.below⟩
      · go_wp2_with fail
        go_ret
        exact ⟨rfl, HP.out.below⟩

end Go.Proofs.Ytakdmnamohdpaaa
