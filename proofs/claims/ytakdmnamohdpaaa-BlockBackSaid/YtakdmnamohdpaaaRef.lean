/- The reference's functions of layer 12 (Since, Add, Pack), walked. -/
import Derived.Test.YtakdmnamohdpaaaLst
import Derived.Laws.AppendOwnNone
namespace Go.Proofs.Ytakdmnamohdpaaa
open Go.RowKit

/-- A slice of ints that the call itself made (from block lo on), or nil. -/
abbrev Ints (w : World) (lo : Nat) (v : Value) (l : List Int) : Prop := w.ownsRow lo 3 1 v l.length (l.map (Value.int .i64))

theorem Ints.cases {w : World} {lo : Nat} {v : Value} {l : List Int} (h : Ints w lo v l) :
    (v = .slice none 0 0 ∧ l = []) ∨ ∃ g cap, v = .slice (some ⟨g, 0, none⟩) l.length cap ∧ lo ≤ g ∧ g < w.heap.size ∧ l.length ≤ cap ∧ cap ≤ maxLen ∧
      (∀ j, j < l.length → w.cell? ⟨g, j, none⟩ = some (.int .i64 (ith l j))) ∧ (∀ j, w.frozen? ⟨g, j, none⟩ = false) := by
  rcases h.2 with ⟨rfl, hn⟩ | ⟨g, cap, cur, rfl, hb, hg, hn, hm, hs, ht⟩
  · exact .inl ⟨rfl, List.eq_nil_of_length_eq_zero hn⟩
  · refine .inr ⟨g, cap, rfl, hb, (Array.getElem?_eq_some_iff.1 hg).1, hn, hm, fun j hj => ?_, fun j => frozen_of_row _ _ _ _ _ hg⟩
    have := h.cells (g := g) rfl j (.int .i64 (ith l j)) (by simp [ith, List.getElem?_eq_getElem hj])
    rwa [show (⟨g, 0, none⟩ : Addr).add j = ⟨g, j, none⟩ by unfold Addr.add; split <;> simp_all] at this

theorem refSince_any {w : World} {lo : Nat} {v : Value} {l : List Int} (h : Ints w lo v l) (x : Int) : Calls Try.prog 17 #[v, .int .i64 x] w fun e w' =>
    e = .returned (.int .i64 (snc l x)) ∧ w = w' := by
  rcases h.cases with ⟨rfl, rfl⟩ | ⟨g, cap, rfl, _, _, hn, hm, hc, _⟩
  · go_enter Try.func17, Try.ntmps17
    go_wp2
    go_loop [5] (fun i => i = .int .i64 0) (fun _ => 0)
    case atStart => rfl
    case round =>
      obtain rfl := hrel
      go_wp2
      go_ret
      exact ⟨rfl, rfl⟩
  · unfold maxLen at hm
    go_enter Try.func17, Try.ntmps17
    go_wp2
    go_loop [5] (fun i => ∃ k : Nat, k ≤ l.length ∧ i = .int .i64 k ∧ ∀ j, j < k → ith l j ≠ x) (fun i => l.length - (intOf i).toNat)
    case atStart => exact ⟨0, Nat.zero_le _, rfl, fun j hj => by omega⟩
    case round =>
      obtain ⟨k, hk, rfl, hno⟩ := hrel
      have Hno := Lib.hid hno
      clear hno
      by_cases hlt : k < l.length
      · have hck := hc k hlt
        have hd := snc_found (l := l) (x := x) hlt
        have Hd := Lib.hid hd
        have Hc := Lib.hid hc
        clear hd hc
        by_cases hx : ith l k = x
        · have hfin := Hd.out hx Hno.out
          have Hfin := Lib.hid hfin
          have hx' : (ith l k == x) = true := by simpa using hx
          have Hx := Lib.hid hx
          clear hfin hx
          go_wp2
          go_ret
          exact ⟨by rw [Hfin.out]; rfl, rfl⟩
        · have hx' : (ith l k == x) = false := by simpa using hx
          have Hx := Lib.hid hx
          clear hx
          go_wp2
          go_round
          case rel => exact ⟨k + 1, by omega, by go_num, fun j hj => by by_cases hjk : j = k; exact hjk ▸ Hx.out; exact Hno.out j (by omega)⟩
          case measure => simp [intOf]; omega
      · have hfin : snc l x = 0 := snc_none fun j hj => Hno.out j (by omega)
        have Hfin := Lib.hid hfin
        clear hfin
        go_wp2
        go_ret
        exact ⟨by rw [Hfin.out]; rfl, rfl⟩


theorem Try.info3 : (Try.prog.info? 3).map (fun i => (i.zero, i.size, i.bytes)) = some (some (.int .i64 0), 1, 8) := by kernel_rfl
theorem Try.info5 : (Try.prog.info? 5).map (fun i => (i.zero, i.size, i.bytes)) = some (some (.int .u8 0), 1, 1) := by kernel_rfl

theorem Ints.kept {w w' : World} {lo : Nat} {v : Value} {l : List Int} {row : Option Nat} (h : Ints w lo v l) (hg : w.grownBy w' row) (hr : ∀ k, row = some k → k < lo) : Ints w' lo v l := by
  refine World.ownsRow.kept h hg ?_
  cases hv : v.ownBlock with
  | none => exact .inl rfl
  | some k => exact .inr fun e => by have := hr k e.symm; have := (World.ownsRow.lt h k hv).1; omega

theorem Ints.mono {w : World} {lo lo' : Nat} {v : Value} {l : List Int} (h : Ints w lo v l) (hl : lo' ≤ lo) : Ints w lo' v l := by
  refine ⟨h.1, ?_⟩
  rcases h.2 with h2 | ⟨g, cap, cur, hv, hb, r⟩
  · exact .inl h2
  · exact .inr ⟨g, cap, cur, hv, Nat.le_trans hl hb, r⟩

/-- Behind an append to a slice that is nil or the call's own: as 'none was written' for what lies below. -/
theorem grown_none {w w' : World} {row : Option Nat} (h : w.grownBy w' row) (hr : ∀ k, row = some k → w.heap.size ≤ k) : w.grownBy w' none :=
  ⟨h.os, h.tape, h.output, h.size, fun k hk _ => h.block k hk (fun e => by have := hr k e.symm; omega)⟩

/-- .. with the new element's own cell laid ahead of the append. -/
theorem grown_append {w wr w1 : World} {o : Obj} {row : Option Nat} (h : w.grownBy wr none) (hg : (wr.alloc o).grownBy w1 row) (hr : ∀ k, row = some k → w.heap.size ≤ k) : w.grownBy w1 none := by
  have h1 := h.size
  have h2 := hg.size
  simp at h2
  refine ⟨hg.os.trans h.os, hg.tape.trans h.tape, hg.output.trans h.output, by omega, fun k hk _ => ?_⟩
  rw [hg.block k (by simp; omega) (fun e => by have := hr k e.symm; omega), (World.grownBy_alloc wr o none).block k (by omega) (by simp), h.block k hk (by simp)]

theorem refAdd_same {w : World} {lo : Nat} {v : Value} {l : List Int} (h : Ints w lo v l) (x : Int) (hx : x < 0 ∨ 7 < x ∨ 0 < snc l x) : Calls Try.prog 16 #[v, .int .i64 x] w fun e w' =>
    e = .returned v ∧ w = w' := by
  by_cases h0 : x < 0
  · clear hx
    go_enter Try.func16, Try.ntmps16
    go_wp2_with fail
    go_ret
    exact ⟨rfl, rfl⟩
  · by_cases h1 : 7 < x
    · clear hx
      go_enter Try.func16, Try.ntmps16
      go_wp2_with fail
      go_ret
      exact ⟨rfl, rfl⟩
    · have h2 : (0 : Int) < (snc l x : Int) := by omega
      clear hx
      have H := Lib.hid (refSince_any h x)
      go_enter Try.func16, Try.ntmps16
      go_wp2_with (go_at_call 17; refine (H.out).mono ?_; rintro e w' ⟨rfl, rfl⟩)
      go_ret
      exact ⟨rfl, rfl⟩

set_option maxHeartbeats 400000 in
theorem refAdd_new {w : World} {lo : Nat} {v : Value} {l : List Int} (h : Ints w lo v l) (x : Int) (h0 : ¬ x < 0) (h1 : ¬ 7 < x) (h2 : snc l x = 0) (hlen : l.length ≤ 64) : Calls Try.prog 16 #[v, .int .i64 x] w fun e w' =>
    ∃ v', e = .returned v' ∧ Ints w' w.heap.size v' (l ++ [x]) ∧ w.grownBy w' none := by
  obtain ⟨i0, hi, hz0, hz1, hz2⟩ := info_parts Try.info3
  have hs := refSince_any h x
  rw [h2] at hs
  have H := Lib.hid hs
  have H2 := Lib.hid h2
  have Hown := Lib.hid h
  clear hs h2
  rcases h.cases with ⟨rfl, rfl⟩ | ⟨g, cap, rfl, _, hg, hn, hm, hc, _⟩
  · have hown0 := World.ownsRow_nil w w.heap.size 3 1
    go_enter Try.func16, Try.ntmps16
    go_wp2_with (first
      | (go_at_call 17; refine (H.out).mono ?_; rintro e w' ⟨rfl, rfl⟩)
      | (at_builtin; refine wpList_append_own_none rfl (.tmp 19) (.tmp 20) 22 rfl w.heap.size 3 i0 1 Try.underlying22 hi (.slice none 0 0) 0 [] rfl hown0 rfl ?_)
      | (at_builtin; refine wpList_append_own _ rfl (.tmp 22) (.tmp 24) 22 rfl w.heap.size 3 i0 (.int .i64 0) 1 8 Try.underlying22 hi hz0 hz1 hz2 rfl (by decide) _ _ _ rfl (hown0.alloc _) ⟨w.heap.size, 0, none⟩ 1 1 [.int .i64 x] rfl rfl ?c1 ?c2 ?c3 ?c4 ?c5 ?_))
    case c1 => exact cell_one_new _ _ _
    case c2 => simp [Value.oneCell']
    case c3 => unfold maxLen; omega
    case c4 => omega
    case c5 => simp
    intro v' w1 hown1 hg1 _
    go_wp2
    go_ret
    exact ⟨v', rfl, hown1, grown_none (grownBy_trans (World.grownBy_alloc _ _ _) hg1) (by simp [Value.ownBlock])⟩
  · have hown0 := World.ownsRow_nil w w.heap.size 3 1
    have hsrc : ∀ (j : Nat) (u : Value), (l.map (Value.int .i64))[j]? = some u → w.cell? ((⟨g, 0, none⟩ : Addr).add j) = some u := fun j u hu => Hown.out.cells rfl j u hu
    have Hsrc := Lib.hid hsrc
    clear hsrc hc
    go_enter Try.func16, Try.ntmps16
    go_wp2_with (first
      | (go_at_call 17; refine (H.out).mono ?_; rintro e w' ⟨rfl, rfl⟩)
      | (at_builtin; refine wpList_append_own _ rfl (.tmp 19) (.tmp 20) 22 rfl w.heap.size 3 i0 (.int .i64 0) 1 8 Try.underlying22 hi hz0 hz1 hz2 rfl (by decide) _ _ _ rfl hown0 ⟨g, 0, none⟩ l.length cap (l.map (Value.int .i64)) rfl ?d0 ?d1 ?d2 ?d3 ?d4 ?d5 ?_)
      )
    case d0 => simp
    case d1 => exact Hsrc.out
    case d2 => simp [Value.oneCell']
    case d3 => unfold maxLen; omega
    case d4 => omega
    case d5 => omega
    intro v1 w1 hown1 hg1 _
    have hsz := hg1.size
    go_wp2_with (first
      | (at_builtin; refine wpList_append_own _ rfl (.tmp 22) (.tmp 24) 22 rfl w.heap.size 3 i0 (.int .i64 0) 1 8 Try.underlying22 hi hz0 hz1 hz2 rfl (by decide) _ _ _ rfl (hown1.alloc _) ⟨w1.heap.size, 0, none⟩ 1 1 [.int .i64 x] rfl rfl ?c1 ?c2 ?c3 ?c4 ?c5 ?_))
    case c1 => exact cell_one_new _ _ _
    case c2 => simp [Value.oneCell']
    case c3 => unfold maxLen; omega
    case c4 => omega
    case c5 => simp; omega
    intro v' w2 hown2 hg2 _
    go_wp2
    go_ret
    refine ⟨v', rfl, ?_, ?_⟩
    · show World.ownsRow _ _ _ _ _ _ _
      rw [List.length_append, List.map_append]
      simpa using hown2
    · exact grown_append (grown_none hg1 (by simp [Value.ownBlock])) hg2 (fun k hk => (hown1.lt k hk).1)

/-- Add, as the document has it. -/
theorem refAdd_any {w : World} {lo : Nat} {v : Value} {l : List Int} (h : Ints w lo v l) (hlo : lo ≤ w.heap.size) (x : Int) (hlen : l.length ≤ 64) : Calls Try.prog 16 #[v, .int .i64 x] w fun e w' =>
    ∃ v', e = .returned v' ∧ Ints w' lo v' (addl l x) ∧ w.grownBy w' none := by
  by_cases hx : x < 0 ∨ 7 < x ∨ 0 < snc l x
  · rw [snc_addl_of hx]
    exact (refAdd_same h x hx).mono fun e w' ⟨he, hw⟩ => ⟨v, he, hw ▸ h, hw ▸ grownBy_refl _ _⟩
  · rw [addl_new (by omega) (by omega) (by omega)]
    exact (refAdd_new h x (by omega) (by omega) (by omega) hlen).mono fun e w' ⟨v', he, hv, hg⟩ => ⟨v', he, hv.mono hlo, hg⟩


/-- A slice of bytes that the call itself made, or nil. -/
abbrev Bytes8 (w : World) (lo : Nat) (v : Value) (l : List Int) (k : Nat) : Prop := w.ownsRow lo 5 1 v k ((List.range k).map fun j : Nat => Value.int .u8 (snc l j))

set_option maxHeartbeats 400000 in
theorem refPack_row {w : World} {lo : Nat} {v : Value} {l : List Int} (h : Ints w lo v l) (hlen : l.length ≤ 64) : Calls Try.prog 22 #[v] w fun e w' =>
    ∃ v', e = .returned v' ∧ Bytes8 w' w.heap.size v' l 8 ∧ w.grownBy w' none := by
  obtain ⟨i0, hi, hz0, hz1, hz2⟩ := info_parts Try.info5
  have Hown := Lib.hid h
  go_enter Try.func22, Try.ntmps22
  go_wp2
  go_loopw [3, 4] (fun out i wr => ∃ k : Nat, k ≤ 8 ∧ i = .int .i64 k ∧ Bytes8 wr w.heap.size out l k ∧ w.grownBy wr none) (fun _ i _ => 8 - (intOf i).toNat)
  case atStart => exact ⟨0, by omega, rfl, World.ownsRow_nil _ _ _ _, grownBy_refl _ _⟩
  case round =>
    obtain ⟨k, hk, rfl, hout, hgr⟩ := hrel
    by_cases hlt : k < 8
    · have hsl := snc_le l k
      have h' := Hown.out.kept hgr (by simp)
      have hs := refSince_any h' k
      have Hs := Lib.hid hs
      have Hout := Lib.hid hout
      have hsz := hgr.size
      have Hgr := Lib.hid hgr
      clear hs h' hgr hout
      go_wp2_with (first
        | (go_at_call 17; refine (Hs.out).mono ?_; rintro e w' ⟨rfl, rfl⟩)
        | (at_builtin; refine wpList_append_own _ rfl (.tmp 9) (.tmp 14) 31 rfl w.heap.size 5 i0 (.int .u8 0) 1 1 Try.underlying31 hi hz0 hz1 hz2 rfl (by decide) _ _ _ rfl (Hout.out.alloc _) ⟨wr.heap.size, 0, none⟩ 1 1 [.int .u8 (snc l k)] rfl rfl ?c1 ?c2 ?c3 ?c4 ?c5 ?_))
      case c1 => exact cell_one_new _ _ _
      case c2 => simp [Value.oneCell']
      case c3 => unfold maxLen; omega
      case c4 => omega
      case c5 => simp; omega
      intro v1 w1 hown1 hg1 _
      have hgr1 := grown_append Hgr.out hg1 (fun k hk => (Hout.out.lt k hk).1)
      have Hown1 := Lib.hid hown1
      have Hgr1 := Lib.hid hgr1
      clear hown1 hgr1 hg1
      go_wp2
      go_roundw
      case rel => exact ⟨k + 1, by omega, by go_num, by (have e := Hown1.out; show World.ownsRow _ _ _ _ _ _ _; rw [List.range_succ, List.map_append]; exact e), Hgr1.out⟩
      case measure => simp [intOf]; omega
    · obtain rfl : k = 8 := by omega
      have Hout := Lib.hid hout
      have Hgr := Lib.hid hgr
      clear hout hgr
      go_wp2
      go_ret
      exact ⟨_, rfl, Hout.out, Hgr.out⟩

/-- Eight cells that hold what the list packs to. -/
def Packed (w : World) (g : Nat) (l : List Int) : Prop := ∀ j : Nat, j < 8 → w.cell? ⟨g, j, none⟩ = some (.int .u8 (snc l j))

/-- Pack, as the document has it. -/
theorem refPack_any {w : World} {lo : Nat} {v : Value} {l : List Int} (h : Ints w lo v l) (hlen : l.length ≤ 64) : Calls Try.prog 22 #[v] w fun e w' =>
    ∃ g cap, e = .returned (.slice (some ⟨g, 0, none⟩) 8 cap) ∧ Packed w' g l ∧ w.grownBy w' none := by
  refine (refPack_row h hlen).mono fun e w' ⟨v', he, hv, hg⟩ => ?_
  rcases hv.2 with ⟨_, hn⟩ | ⟨g, cap, cur, rfl, _⟩
  · cases hn
  · refine ⟨g, cap, he, fun j hj => ?_, hg⟩
    have := hv.cells (g := g) rfl j (.int .u8 (snc l j)) (by rw [List.getElem?_map, List.getElem?_range hj]; rfl)
    rwa [show (⟨g, 0, none⟩ : Addr).add j = ⟨g, j, none⟩ by unfold Addr.add; split <;> simp_all] at this

theorem Packed.lt {w : World} {g : Nat} {l : List Int} (h : Packed w g l) : g < w.heap.size := World.block_lt_of_cell? _ _ (h 0 (by omega))
theorem Packed.grown {w w' : World} {g : Nat} {l : List Int} {row : Option Nat} (h : Packed w g l) (hg : w.grownBy w' row) (hr : some g ≠ row) : Packed w' g l := fun j hj => hg.cell (h j hj) hr

end Go.Proofs.Ytakdmnamohdpaaa
