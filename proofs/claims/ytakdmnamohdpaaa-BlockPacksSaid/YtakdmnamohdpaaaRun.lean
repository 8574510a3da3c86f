/- The reference's Unpack, walked. -/
import Derived.Test.YtakdmnamohdpaaaUnp
namespace Go.Proofs.Ytakdmnamohdpaaa
open Go.RowKit

/-- Eight bytes as a text. -/
def txtB (bs : List Int) : ByteArray := strOfNums ((List.range 8).map fun j : Nat => ith bs j)

theorem conv_src {w : World} {b off : Nat} {bs : List Int} (h : Src w b off bs) (cap : Nat) : (convert 31 9 (.slice (some ⟨b, off, none⟩) 8 cap)).run Try.prog w = .ok (.string (txtB bs)) w :=
  run_convert_bytes_arg w 31 5 Try.underlying31 Try.underlying5 b off 8 cap ((List.range 8).map fun j : Nat => ith bs j) (by simp)
    (fun i hi => by rw [h.cell i hi]; simp [List.getD, List.getElem?_map, List.getElem?_range hi]) 9 Try.underlying9

theorem u8_inj {a b : Int} (ha : 0 ≤ a ∧ a ≤ 255) (hb : 0 ≤ b ∧ b ≤ 255) (h : UInt8.ofNat a.toNat = UInt8.ofNat b.toNat) : a = b := by
  have := congrArg UInt8.toNat h
  simp at this
  omega

theorem str_same {l bs : List Int} (hl : l.length ≤ 64) (hr : ∀ j, j < 8 → 0 ≤ ith bs j ∧ ith bs j ≤ 255) : ((txt l).toList == (txtB bs).toList) = same8 l bs := by
  rw [ByteArray.toList_eq, ByteArray.toList_eq, Bool.eq_iff_iff, beq_iff_eq, same8_iff]
  unfold txt txtB strOfNums
  constructor
  · intro h j hj
    have h2 := congrArg (fun x : List UInt8 => x[j]?) h
    simp [List.getElem?_map, List.getElem?_range hj] at h2
    have hs := snc_le l j
    exact u8_inj (by omega) (hr j hj) (by simpa using h2)
  · intro h
    have : (List.range 8).map (fun j : Nat => (snc l j : Int)) = (List.range 8).map (fun j : Nat => ith bs j) := List.map_congr_left fun j hj => h j (List.mem_range.1 hj)
    rw [this]

theorem str_len {l : List Int} {xs : List Int} (h : xs.length ≠ 8) : ((txt l).toList == (strOfNums xs).toList) = false := by
  rw [ByteArray.toList_eq, ByteArray.toList_eq]
  cases hh : ((txt l).data.toList == (strOfNums xs).data.toList)
  · rfl
  · rw [beq_iff_eq] at hh
    have := congrArg List.length hh
    simp [txt, strOfNums] at this
    omega

/-- Any bytes as a text: what 'string(b)' gives wherever nothing old has turned. -/
theorem IsRow.text {w : World} {a : Option Addr} {len cap : Nat} {zs : List Int} (h : IsRow .u8 w a len cap zs) :
    ∃ xs : List Int, xs.length = len ∧ ∀ w', Below w.heap.size w w' → (convert 31 9 (.slice a len cap)).run Try.prog w' = .ok (.string (strOfNums xs)) w' := by
  rcases Nat.eq_zero_or_pos len with rfl | hp
  · refine ⟨[], rfl, fun w' _ => ?_⟩
    rcases h with ⟨rfl, _⟩ | ⟨⟨b, off, spot⟩, rfl, h1, _, h3, h4, _⟩
    · rw [run_convert_bytes_nil w' 31 5 Try.underlying31 Try.underlying5 0 cap 9 Try.underlying9]
      rfl
    · rw [run_convert_bytes_string w' 31 9 5 _ 0 cap Try.underlying31 Try.underlying5 Try.underlying9, run_bytesToString w' _ 0 cap [] rfl]
      rfl
  · obtain ⟨b, off, rfl, hb, hc⟩ := h.at hp
    refine ⟨(List.range len).map fun j : Nat => ith zs j, by simp, fun w' hw' => ?_⟩
    exact run_convert_bytes_arg w' 31 5 Try.underlying31 Try.underlying5 b off len cap ((List.range len).map fun j : Nat => ith zs j) (by simp)
      (fun i hi => by rw [hc i hi w' hw']; simp [List.getD, List.getElem?_map, List.getElem?_range hi]) 9 Try.underlying9

set_option maxHeartbeats 1000000 in
theorem refUnpack_bad {w : World} {a : Option Addr} {len cap : Nat} {zs : List Int} (h : IsRow .u8 w a len cap zs) (h8 : len ≠ 8) : Calls Try.prog 24 #[.slice a len cap] w fun e w' =>
    e = .returned (.tuple #[.slice none 0 0, .bool false]) ∧ Below w.heap.size w w' := by
  obtain ⟨xs, hxs, htext⟩ := h.text
  have Htext := Lib.hid htext
  have hb8 : ((len : Int) == 8) = false := by simp; omega
  have hne := str_len (l := []) (xs := xs) (by omega)
  have Hne := Lib.hid hne
  clear htext hne h
  go_enter Try.func24, Try.ntmps24
  go_wp2_with fail
  go_loop [4, 5] (fun v e => v = .slice none 0 0 ∧ e = .int .i64 1) (fun _ _ => 0)
  case atStart => exact ⟨rfl, rfl⟩
  case round =>
    obtain ⟨rfl, rfl⟩ := hrel
    go_wp2_with fail
    refine held_begin (fun w' => Below w.heap.size w w') (by kernel_rfl) (Below.refl _ _).drew ?_
    have hS0 : (fun w' => Below w.heap.size w w') w.drew := (Below.refl _ _).drew
    refine held_take 0 ?_ rfl (by kernel_rfl) (by kernel_rfl) (by kernel_rfl) (fun _ _ _ h => h) (by rfl) ?_ hS0 ?_
    rotate_left
    · intro wS hSw; go_simp <;> with_reducible rfl
    simp only [Act.put, List.setIfInBounds_toArray, List.set_cons_zero, List.set_cons_succ]
    refine held_take 3 ?_ rfl (by kernel_rfl) (by kernel_rfl) (by kernel_rfl) (fun _ _ _ h => h) (by rfl) ?_ hS0 ?_
    rotate_left
    · intro wS hSw; go_simp <;> with_reducible rfl
    simp only [Act.put, List.setIfInBounds_toArray, List.set_cons_zero, List.set_cons_succ]
    refine held_take 4 ?_ rfl (by kernel_rfl) (by kernel_rfl) (by kernel_rfl) (fun _ _ _ h => h) (by rfl) ?_ hS0 ?_
    rotate_left
    · intro wS hSw; (have hcv := Htext.out wS hSw; go_simp) <;> with_reducible rfl
    simp only [Act.put, List.setIfInBounds_toArray, List.set_cons_zero, List.set_cons_succ]
    refine held_one 1 rfl (by kernel_rfl) (by rfl) (fun K hK => ?_)
    go_simp
    refine (refPack_any (lo := 0) (l := []) (World.ownsRow_nil _ _ _ _) (by simp)).mono ?_
    rintro e wx ⟨g6, cap6, rfl, k6, g6g⟩
    refine hK.out (fun w' => Below w.heap.size w w' ∧ Packed w' g6 []) _ _ (fun _ h => h.1) ⟨hS0.grown g6g (Nat.le_refl _) (by simp), k6⟩ (fun hS1 => ?_)
    clear hK K
    refine held_take 2 ?_ rfl (by kernel_rfl) (by kernel_rfl) (by kernel_rfl) (fun _ _ _ h => h) (by rfl) ?_ hS1 ?_
    rotate_left
    · intro wS hSw; (have hcv := conv_packed hSw.2 cap6; go_simp) <;> with_reducible rfl
    simp only [Act.put, List.setIfInBounds_toArray, List.set_cons_zero, List.set_cons_succ]
    have hne := Hne.out
    refine held_take 5 ?_ rfl (by kernel_rfl) (by kernel_rfl) (by kernel_rfl) (fun _ _ _ h => h) (by rfl) ?_ hS1 ?_
    rotate_left
    · intro wS hSw; go_simp <;> with_reducible rfl
    simp only [Act.put, List.setIfInBounds_toArray, List.set_cons_zero, List.set_cons_succ]
    refine wpAnyH_done (by kernel_rfl) ?_ _
    refine NoPanic.normal ?_
    have HS := Lib.hid hS1
    clear hS0 hS1
    go_wp2
    go_ret2
    exact ⟨rfl, HS.out.1⟩


theorem Src.below {w w' : World} {b off : Nat} {bs : List Int} (h : Src w b off bs) (hw : Below w.heap.size w w') : Src w' b off bs :=
  ⟨fun j hj => by rw [hw.cell (p := ⟨b, off + j, none⟩) (World.block_lt_of_cell? w _ (h.cell j hj))]; exact h.cell j hj, h.range⟩

/-- What the rounds of the reference's Unpack rest on. -/
structure Run (w : World) (v : Value) (l : List Int) (wr : World) : Prop where
  ints : Ints wr w.heap.size v l
  below : Below w.heap.size w wr

theorem Run.drew {w : World} {v : Value} {l : List Int} {wr : World} (h : Run w v l wr) : Run w v l wr.drew := ⟨h.ints, h.below.drew⟩
theorem Run.grown {w : World} {v : Value} {l : List Int} {wr w' : World} (h : Run w v l wr) (hg : wr.grownBy w' none) : Run w v l w' := ⟨h.ints.kept hg (by simp), h.below.grown hg h.below.size (by simp)⟩

set_option maxHeartbeats 1000000 in
theorem refUnpack_good {w : World} {b off cap : Nat} {bs : List Int} (h : Src w b off bs) : Calls Try.prog 24 #[.slice (some ⟨b, off, none⟩) 8 cap] w fun e w' =>
    ∃ v, e = .returned (.tuple #[v, .bool (same8 (outl bs 8) bs)]) ∧ (same8 (outl bs 8) bs = true → Ints w' w.heap.size v (outl bs 8)) ∧ (same8 (outl bs 8) bs = false → v = .slice none 0 0) ∧ Below w.heap.size w w' := by
  obtain ⟨i0, hi, hz0, hz1, hz2⟩ := info_parts Try.info3
  have H := Lib.hid h
  clear h
  go_enter Try.func24, Try.ntmps24
  go_wp2_with fail
  go_loopw [4, 5] (fun v e wr => ∃ k : Nat, k ≤ 8 ∧ e = .int .i64 (k + 1) ∧ Run w v (outl bs k) wr) (fun _ e _ => 9 - (intOf e).toNat)
  case atStart => exact ⟨0, by omega, rfl, World.ownsRow_nil _ _ _ _, Below.refl _ _⟩
  case round =>
    obtain ⟨k, hk, rfl, hU⟩ := hrel
    have HU := Lib.hid hU
    clear hU
    by_cases hk8 : k < 8
    · have hd17 : decide ((k : Int) + 1 ≤ 8) = true := by simp; omega
      go_wp2_with fail
      obtain ⟨wo, rfl⟩ : ∃ wo : World, wo = wr := ⟨_, rfl⟩
      go_loopw [4, 6] (fun v i wi => ∃ j : Nat, j ≤ 8 ∧ i = .int .i64 j ∧ Run w v (inn bs (k + 1) (outl bs k) j) wi) (fun _ i _ => 8 - (intOf i).toNat)
      case atStart => exact ⟨0, by omega, rfl, HU.out⟩
      case round =>
        obtain ⟨j, hj, rfl, hV⟩ := hrel
        have HV := Lib.hid hV
        have hbw := hV.below.size
        clear hV
        by_cases hj8 : j < 8
        · obtain ⟨hr0, hr1⟩ := H.out.range j hj8
          have hcj := (H.out.below HV.out.below).cell j hj8
          by_cases he : ith bs j = ((k + 1 : Nat) : Int)
          · have he' : (ith bs j == (k : Int) + 1) = true := by simp; omega
            have hstep := inn_step he
            have Hstep := Lib.hid hstep
            have hgl := (inn_good (outl_good bs k) j hj).length
            clear hstep he
            generalize inn bs (k + 1) (outl bs k) j = L at *
            have Hown := Lib.hid HV.out.ints
            go_wp2_with (first
              | (at_builtin; refine wpList_append_own _ rfl (.tmp 27) (.tmp 29) 22 rfl w.heap.size 3 i0 (.int .i64 0) 1 8 Try.underlying22 hi hz0 hz1 hz2 rfl (by decide) _ _ _ rfl (Hown.out.alloc _) ⟨wr.heap.size, 0, none⟩ 1 1 [.int .i64 j] rfl rfl ?c1 ?c2 ?c3 ?c4 ?c5 ?_))
            case c1 => exact cell_one_new _ _ _
            case c2 => simp [Value.oneCell']
            case c3 => unfold maxLen; omega
            case c4 => omega
            case c5 => simp; omega
            intro v2 w2 hown2 hg2 _
            have hown3 : Ints w2 w.heap.size v2 (L ++ [(j : Int)]) := by
              show World.ownsRow _ _ _ _ _ _ _
              rw [List.length_append, List.map_append]
              simpa using hown2
            have P2 := Lib.hid (Run.mk hown3 ((HV.out.below.alloc hbw _).grown hg2 (by simp; omega) (fun q hq => (Hown.out.lt q hq).1)))
            clear hown2 hown3 hg2
            go_wp2
            go_roundw
            case rel => exact ⟨j + 1, by omega, by go_num, Hstep.out.symm ▸ P2.out⟩
            case measure => simp [intOf]; omega
          · have he' : (ith bs j == (k : Int) + 1) = false := by simp; omega
            have hpass := inn_pass he
            have Hpass := Lib.hid hpass
            have He := Lib.hid he
            clear hpass he
            go_wp2
            go_roundw
            case rel => exact ⟨j + 1, by omega, by go_num, Hpass.out.symm ▸ HV.out⟩
            case measure => simp [intOf]; omega
        · have hV8 : Run w u4 (outl bs (k + 1)) wr := by
            have h8 : j = 8 := by omega
            subst h8
            exact HV.out
          have HV8 := Lib.hid hV8
          clear hV8
          go_wp2
          go_roundw
          case rel => exact ⟨k + 1, by omega, by go_num, HV8.out⟩
          case measure => simp [intOf]; omega
    · have hU8 : Run w u4 (outl bs 8) wr := by
        have h8 : k = 8 := by omega
        subst h8
        exact HU.out
      have HU8 := Lib.hid hU8
      have hl64 := (outl_good bs 8).length
      clear hU8
      obtain ⟨m, hm⟩ : ∃ m, same8 (outl bs 8) bs = m := ⟨_, rfl⟩
      have hstr := str_same (l := outl bs 8) (by omega) H.out.range
      rw [hm] at hstr
      have Hstr := Lib.hid hstr
      have Hm := Lib.hid hm
      clear hm hstr
      go_wp2_with fail
      refine held_begin (fun w' => Run w u4 (outl bs 8) w') (by kernel_rfl) HU8.out.drew ?_
      have hS0 : (fun w' => Run w u4 (outl bs 8) w') wr.drew := HU8.out.drew
      refine held_take 0 ?_ rfl (by kernel_rfl) (by kernel_rfl) (by kernel_rfl) (fun _ _ _ h => h) (by rfl) ?_ hS0 ?_
      rotate_left
      · intro wS hSw; go_simp <;> with_reducible rfl
      simp only [Act.put, List.setIfInBounds_toArray, List.set_cons_zero, List.set_cons_succ]
      refine held_take 3 ?_ rfl (by kernel_rfl) (by kernel_rfl) (by kernel_rfl) (fun _ _ _ h => h) (by rfl) ?_ hS0 ?_
      rotate_left
      · intro wS hSw; go_simp <;> with_reducible rfl
      simp only [Act.put, List.setIfInBounds_toArray, List.set_cons_zero, List.set_cons_succ]
      refine held_take 4 ?_ rfl (by kernel_rfl) (by kernel_rfl) (by kernel_rfl) (fun _ _ _ h => h) (by rfl) ?_ hS0 ?_
      rotate_left
      · intro wS hSw; (have hcv := conv_src (H.out.below hSw.below) cap; go_simp) <;> with_reducible rfl
      simp only [Act.put, List.setIfInBounds_toArray, List.set_cons_zero, List.set_cons_succ]
      refine held_one 1 rfl (by kernel_rfl) (by rfl) (fun K hK => ?_)
      go_simp
      refine (refPack_any hS0.ints (by omega)).mono ?_
      rintro e wx ⟨g6, cap6, rfl, k6, g6g⟩
      refine hK.out (fun w' => Run w u4 (outl bs 8) w' ∧ Packed w' g6 (outl bs 8)) _ _ (fun _ h => h.1) ⟨hS0.grown g6g, k6⟩ (fun hS1 => ?_)
      clear hK K
      refine held_take 2 ?_ rfl (by kernel_rfl) (by kernel_rfl) (by kernel_rfl) (fun _ _ _ h => h) (by rfl) ?_ hS1 ?_
      rotate_left
      · intro wS hSw; (have hcv := conv_packed hSw.2 cap6; go_simp) <;> with_reducible rfl
      simp only [Act.put, List.setIfInBounds_toArray, List.set_cons_zero, List.set_cons_succ]
      have hstr := Hstr.out
      refine held_take 5 ?_ rfl (by kernel_rfl) (by kernel_rfl) (by kernel_rfl) (fun _ _ _ h => h) (by rfl) ?_ hS1 ?_
      rotate_left
      · intro wS hSw; go_simp <;> with_reducible rfl
      simp only [Act.put, List.setIfInBounds_toArray, List.set_cons_zero, List.set_cons_succ]
      refine wpAnyH_done (by kernel_rfl) ?_ _
      refine NoPanic.normal ?_
      have HS := Lib.hid hS1
      clear hS0 hS1 hstr
      cases m
      · go_wp2
        go_ret2
        exact ⟨.slice none 0 0, by rw [Hm.out]; rfl, fun hh => (by rw [Hm.out] at hh; cases hh), fun _ => rfl, HS.out.1.below⟩
      · go_wp2
        go_ret2
        exact ⟨u4, by rw [Hm.out]; rfl, fun _ => HS.out.1.ints, fun hh => (by rw [Hm.out] at hh; cases hh), HS.out.1.below⟩

end Go.Proofs.Ytakdmnamohdpaaa
