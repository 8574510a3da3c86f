/- Slices of ints: those that the call itself made, and those that came in. -/
import Derived.Test.YtakdmnamohdpaaaProg
import Derived.Test.YtakdmnamohdpaaaHold
import Derived.Laws.AppendOwnNone
import Derived.WalkKit
import Derived.WalkSpells
import Derived.Lib.Hide
namespace Go.Proofs.Ytakdmnamohdpaaa
open Go.RowKit

theorem Try.info3 : (Try.prog.info? 3).map (fun i => (i.zero, i.size, i.bytes)) = some (some (.int .i64 0), 1, 8) := by kernel_rfl

/-- A slice of ints that the call itself made (from block lo on), or nil. -/
abbrev Ints (w : World) (lo : Nat) (v : Value) (l : List Int) : Prop := w.ownsRow lo 3 1 v l.length (l.map (Value.int .i64))

theorem Ints.cases {w : World} {lo : Nat} {v : Value} {l : List Int} (h : Ints w lo v l) :
    (v = .slice none 0 0 ∧ l = []) ∨ ∃ g cap, v = .slice (some ⟨g, 0, none⟩) l.length cap ∧ lo ≤ g ∧ g < w.heap.size ∧ l.length ≤ cap ∧ cap ≤ maxLen ∧
      (∀ j, j < l.length → w.cell? ⟨g, j, none⟩ = some (.int .i64 (nth l j))) ∧ (∀ j, w.frozen? ⟨g, j, none⟩ = false) := by
  rcases h.2 with ⟨rfl, hn⟩ | ⟨g, cap, cur, rfl, hb, hg, hn, hm, hs, ht⟩
  · exact .inl ⟨rfl, List.eq_nil_of_length_eq_zero hn⟩
  · refine .inr ⟨g, cap, rfl, hb, (Array.getElem?_eq_some_iff.1 hg).1, hn, hm, fun j hj => ?_, fun j => frozen_of_row _ _ _ _ _ hg⟩
    have := h.cells (g := g) rfl j (.int .i64 (nth l j)) (by simp [nth, List.getElem?_eq_getElem hj])
    rwa [show (⟨g, 0, none⟩ : Addr).add j = ⟨g, j, none⟩ by unfold Addr.add; split <;> simp_all] at this

theorem Ints.kept {w w' : World} {lo : Nat} {v : Value} {l : List Int} {row : Option Nat} (h : Ints w lo v l) (hg : w.grownBy w' row) (hr : ∀ k, row = some k → k < lo) : Ints w' lo v l := by
  refine World.ownsRow.kept h hg ?_
  cases hv : v.ownBlock with
  | none => exact .inl rfl
  | some k => exact .inr fun e => by have := hr k e.symm; have := (World.ownsRow.lt h k hv).1; omega

theorem Ints.mono {w : World} {lo lo' : Nat} {v : Value} {l : List Int} (h : Ints w lo v l) (hl : lo' ≤ lo) : Ints w lo' v l := by
  refine ⟨h.1, ?_⟩
  rcases h.2 with h2 | ⟨g, cap, cur, hv, hb, r⟩
  · exact .inl h2
  · exact .inr ⟨g, cap, cur, hv, Nat.le_trans hl hb, r⟩

theorem Ints.slice {w : World} {lo : Nat} {v : Value} {l : List Int} (h : Ints w lo v l) : ∃ a c, v = .slice a l.length c := by
  rcases h.cases with ⟨rfl, rfl⟩ | ⟨g, cap, rfl, _⟩
  · exact ⟨none, 0, rfl⟩
  · exact ⟨_, _, rfl⟩

theorem Ints.nil (w : World) (lo : Nat) : Ints w lo (.slice none 0 0) [] := World.ownsRow_nil w lo 3 1

theorem Ints.snoc {w : World} {lo : Nat} {v : Value} {l : List Int} {x : Int} {n : Nat} (hn : n = l.length) (h : w.ownsRow lo 3 1 v (n + 1) (l.map (Value.int .i64) ++ [.int .i64 x])) : Ints w lo v (l ++ [x]) := by
  subst hn
  show World.ownsRow _ _ _ _ _ _ _
  rw [List.length_append, List.map_append]
  simpa using h

theorem grown_none {w w' : World} {row : Option Nat} (h : w.grownBy w' row) (hr : ∀ k, row = some k → w.heap.size ≤ k) : w.grownBy w' none :=
  ⟨h.os, h.tape, h.output, h.size, fun k hk _ => h.block k hk (fun e => by have := hr k e.symm; omega)⟩

theorem grown_append {w wr w1 : World} {o : Obj} {row : Option Nat} (h : w.grownBy wr none) (hg : (wr.alloc o).grownBy w1 row) (hr : ∀ k, row = some k → w.heap.size ≤ k) : w.grownBy w1 none := by
  have h1 := h.size
  have h2 := hg.size
  simp at h2
  refine ⟨hg.os.trans h.os, hg.tape.trans h.tape, hg.output.trans h.output, by omega, fun k hk _ => ?_⟩
  rw [hg.block k (by simp; omega) (fun e => by have := hr k e.symm; omega), (World.grownBy_alloc wr o none).block k (by omega) (by simp), h.block k hk (by simp)]

theorem below_grown {w w' : World} (h : Below w.heap.size w w') : w.grownBy w' none := ⟨h.os, h.tape, h.output, h.size, fun k hk _ => h.block k hk⟩
theorem grown_some {w w' : World} (h : w.grownBy w' none) (b : Nat) : w.grownBy w' (some b) := ⟨h.os, h.tape, h.output, h.size, fun k hk _ => h.block k hk (by simp)⟩
theorem grown_chain {a b c : World} {row : Option Nat} (h : a.grownBy b row) (k : b.grownBy c row) : a.grownBy c row :=
  ⟨k.os.trans h.os, k.tape.trans h.tape, k.output.trans h.output, Nat.le_trans h.size k.size, fun i hi hne => (k.block i (Nat.lt_of_lt_of_le hi h.size) hne).trans (h.block i hi hne)⟩
theorem grown_same (w : World) (row : Option Nat) : w.grownBy w row := ⟨rfl, rfl, rfl, Nat.le_refl _, fun _ _ _ => rfl⟩
theorem grown_drew (w : World) (row : Option Nat) : w.grownBy w.drew row := ⟨rfl, rfl, rfl, Nat.le_refl _, fun _ _ _ => rfl⟩

/-- A slice of integers that came in: it is nil; or it leads to a row of 'cap' cells. -/
def IsRow (k : IntKind) (w : World) (a : Option Addr) (len cap : Nat) (zs : List Int) : Prop :=
  (a = none ∧ len = 0 ∧ cap = 0 ∧ zs = []) ∨
  ∃ x, a = some x ∧ len ≤ cap ∧ cap ≤ maxLen ∧ zs.length = cap ∧ (∀ i, i < zs.length → w.cell? (x.add i) = some (.int k (zs.getD i 0))) ∧ ∀ n ∈ zs, (Lit.int k n).wf = true

theorem IsRow.len {k : IntKind} {w : World} {a : Option Addr} {len cap : Nat} {zs : List Int} (h : IsRow k w a len cap zs) : len ≤ maxLen := by
  rcases h with ⟨_, rfl, _⟩ | ⟨_, _, h1, h2, _⟩
  · exact Nat.zero_le _
  · exact Nat.le_trans h1 h2

theorem IsRow.at {k : IntKind} {w : World} {a : Option Addr} {len cap : Nat} {zs : List Int} (h : IsRow k w a len cap zs) (hp : 0 < len) :
    ∃ b off, a = some ⟨b, off, none⟩ ∧ b < w.heap.size ∧ ∀ i, i < len → ∀ w', Below w.heap.size w w' → w'.cell? ⟨b, off + i, none⟩ = some (.int k (nth zs i)) := by
  rcases h with ⟨_, rfl, _⟩ | ⟨⟨b, off, spot⟩, rfl, h1, _, h3, h4, _⟩
  · omega
  · have h0 := h4 0 (by omega)
    have hspot : spot = none := by simpa [Addr.add] using World.cell?_spot h0
    subst hspot
    have hb : b < w.heap.size := by
      have := World.block_lt_of_cell? _ _ h0
      simpa [Addr.add] using this
    refine ⟨b, off, rfl, hb, fun i hi w' hw' => ?_⟩
    have := h4 i (by omega)
    rw [show (⟨b, off, none⟩ : Addr).add i = ⟨b, off + i, none⟩ by unfold Addr.add; split <;> simp_all] at this
    rw [hw'.cell (p := ⟨b, off + i, none⟩) hb, this]
    rfl

end Go.Proofs.Ytakdmnamohdpaaa
