/- The block list's methods, walked: each contract says what the call hands back and what became of the list's block. -/
import Derived.Test.YtakdmnamohdpaaaProg
import Derived.Test.YtakdmnamohdpaaaPlain
import Derived.WalkKit
import Derived.WalkSpells
import Derived.WalkLawsBesides
import Derived.Deep.QuietTactic
import Derived.BigQuiet
import Derived.Lib.Hide
namespace Go.Proofs.Ytakdmnamohdpaaa
open Go.RowKit

theorem new_list (w : World) : Calls Try.prog 14 #[] w fun e w' => e = .returned (.pointer (some ⟨w.heap.size, 0, none⟩)) ∧
    w' = w.alloc (.cells #[.int .u8 0, .int .u8 0, .int .u8 0, .int .u8 0, .int .u8 0, .int .u8 0, .int .u8 0, .int .u8 0, .int .i64 0] 66) := by
  go_enter Try.func14, Try.ntmps14
  go_wp2
  go_ret
  exact ⟨rfl, rfl⟩

theorem since_nil (x : Int) (w : World) : Calls Try.prog 20 #[.pointer none, .int .i64 x] w fun e w' => e = .returned (.int .i64 0) ∧ w = w' := by
  go_enter Try.func20, Try.ntmps20
  go_wp2
  go_ret
  exact ⟨rfl, rfl⟩

theorem since_lo (b : Nat) (x : Int) (w : World) (h : x < 0) : Calls Try.prog 20 #[.pointer (some ⟨b, 0, none⟩), .int .i64 x] w fun e w' => e = .returned (.int .i64 0) ∧ w = w' := by
  go_enter Try.func20, Try.ntmps20
  go_wp2
  go_ret
  exact ⟨rfl, rfl⟩

theorem since_hi (b : Nat) (x : Int) (w : World) (h : 8 ≤ x) : Calls Try.prog 20 #[.pointer (some ⟨b, 0, none⟩), .int .i64 x] w fun e w' => e = .returned (.int .i64 0) ∧ w = w' := by
  have h' : ¬ x < 0 := by omega
  go_enter Try.func20, Try.ntmps20
  go_wp2
  go_ret
  exact ⟨rfl, rfl⟩

theorem since_at (b k : Nat) (s : Int) (w : World) (h : k < 8) (hc : w.cell? ⟨b, k, none⟩ = some (.int .u8 s)) (h0 : 0 ≤ s) (h1 : s ≤ 255) :
    Calls Try.prog 20 #[.pointer (some ⟨b, 0, none⟩), .int .i64 k] w fun e w' => e = .returned (.int .i64 s) ∧ w = w' := by
  go_enter Try.func20, Try.ntmps20
  go_wp2
  go_ret
  exact ⟨rfl, rfl⟩

theorem is_of (v : Value) (x s : Int) (w : World) (h : Calls Try.prog 20 #[v, .int .i64 x] w fun e w' => e = .returned (.int .i64 s) ∧ w = w') :
    Calls Try.prog 19 #[v, .int .i64 x] w fun e w' => e = .returned (.bool (decide (0 < s))) ∧ w = w' := by
  have H := Lib.hid h
  clear h
  go_enter Try.func19, Try.ntmps19
  go_wp2_with (go_at_call 20; refine (H.out).mono ?_; rintro e w' ⟨rfl, rfl⟩)
  go_ret
  exact ⟨rfl, rfl⟩

theorem epoch_nil (w : World) : Calls Try.prog 18 #[.pointer none] w fun e w' => e = .returned (.int .i64 0) ∧ w = w' := by
  go_enter Try.func18, Try.ntmps18
  go_wp2
  go_ret
  exact ⟨rfl, rfl⟩

theorem epoch_at (b : Nat) (n : Int) (w : World) (hc : w.cell? ⟨b, 8, none⟩ = some (.int .i64 n)) : Calls Try.prog 18 #[.pointer (some ⟨b, 0, none⟩)] w fun e w' => e = .returned (.int .i64 n) ∧ w = w' := by
  go_enter Try.func18, Try.ntmps18
  go_wp2
  go_ret
  exact ⟨rfl, rfl⟩

theorem add_nil (x : Int) (w : World) : Calls Try.prog 15 #[.pointer none, .int .i64 x] w fun e w' => e = .returned (.int .i64 0) ∧ w = w' := by
  go_enter Try.func15, Try.ntmps15
  go_wp2
  go_ret
  exact ⟨rfl, rfl⟩

theorem add_lo (b : Nat) (x : Int) (w : World) (h : x < 0) : Calls Try.prog 15 #[.pointer (some ⟨b, 0, none⟩), .int .i64 x] w fun e w' => e = .returned (.int .i64 0) ∧ w = w' := by
  go_enter Try.func15, Try.ntmps15
  go_wp2
  go_ret
  exact ⟨rfl, rfl⟩

theorem add_hi (b : Nat) (x : Int) (w : World) (h : 8 ≤ x) : Calls Try.prog 15 #[.pointer (some ⟨b, 0, none⟩), .int .i64 x] w fun e w' => e = .returned (.int .i64 0) ∧ w = w' := by
  have h' : ¬ x < 0 := by omega
  go_enter Try.func15, Try.ntmps15
  go_wp2
  go_ret
  exact ⟨rfl, rfl⟩

theorem add_old (b k : Nat) (s : Int) (w : World) (h : k < 8) (hc : w.cell? ⟨b, k, none⟩ = some (.int .u8 s)) (h0 : 1 ≤ s) (h1 : s ≤ 255) :
    Calls Try.prog 15 #[.pointer (some ⟨b, 0, none⟩), .int .i64 k] w fun e w' => e = .returned (.int .i64 s) ∧ w = w' := by
  have hs : (s == 0) = false := by simp; omega
  go_enter Try.func15, Try.ntmps15
  go_wp2
  go_ret
  exact ⟨rfl, rfl⟩

theorem add_new (b k : Nat) (n : Int) (w : World) (h : k < 8) (hc : w.cell? ⟨b, k, none⟩ = some (.int .u8 0)) (hn : w.cell? ⟨b, 8, none⟩ = some (.int .i64 n))
    (f1 : w.frozen? ⟨b, k, none⟩ = false) (f2 : w.frozen? ⟨b, 8, none⟩ = false) (h0 : 0 ≤ n) (h1 : n ≤ 250) :
    Calls Try.prog 15 #[.pointer (some ⟨b, 0, none⟩), .int .i64 k] w fun e w' => e = .returned (.int .i64 (n + 1)) ∧
      w' = (((w.setCell ⟨b, 8, none⟩ (.int .i64 (n + 1))).drew).setCell ⟨b, k, none⟩ (.int .u8 (n + 1))) := by
  have hne : (k = 8) = False := by simp; omega
  go_enter Try.func15, Try.ntmps15
  go_wp2
  go_region
  all_goals go_wp2
  all_goals go_ret
  all_goals exact ⟨rfl, rfl⟩

theorem pack_nil (w : World) : Calls Try.prog 21 #[.pointer none] w fun e w' => e = .returned (.slice (some ⟨w.heap.size, 0, none⟩) 8 8) ∧
    w' = w.alloc (.cells #[.int .u8 0, .int .u8 0, .int .u8 0, .int .u8 0, .int .u8 0, .int .u8 0, .int .u8 0, .int .u8 0] 64) := by
  go_enter Try.func21, Try.ntmps21
  go_wp2
  go_ret
  exact ⟨rfl, rfl⟩

theorem pack_at (b : Nat) (s0 s1 s2 s3 s4 s5 s6 s7 : Int) (w : World) (c0 : w.cell? ⟨b, 0, none⟩ = some (.int .u8 s0)) (c1 : w.cell? ⟨b, 1, none⟩ = some (.int .u8 s1)) (c2 : w.cell? ⟨b, 2, none⟩ = some (.int .u8 s2))
    (c3 : w.cell? ⟨b, 3, none⟩ = some (.int .u8 s3)) (c4 : w.cell? ⟨b, 4, none⟩ = some (.int .u8 s4)) (c5 : w.cell? ⟨b, 5, none⟩ = some (.int .u8 s5)) (c6 : w.cell? ⟨b, 6, none⟩ = some (.int .u8 s6)) (c7 : w.cell? ⟨b, 7, none⟩ = some (.int .u8 s7)) :
    Calls Try.prog 21 #[.pointer (some ⟨b, 0, none⟩)] w fun e w' => e = .returned (.slice (some ⟨w.heap.size, 0, none⟩) 8 8) ∧
    w' = w.alloc (.cells #[.int .u8 s0, .int .u8 s1, .int .u8 s2, .int .u8 s3, .int .u8 s4, .int .u8 s5, .int .u8 s6, .int .u8 s7] 64) := by
  have hlt : b < w.heap.size := World.block_lt_of_cell? _ _ c0
  go_enter Try.func21, Try.ntmps21
  go_wp2
  go_ret
  exact ⟨rfl, rfl⟩

end Go.Proofs.Ytakdmnamohdpaaa
