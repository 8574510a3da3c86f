/- A slice of ints that came in, as the walks read it. -/
import Derived.Test.YtakdmnamohdpaaaAwk
namespace Go.Proofs.Ytakdmnamohdpaaa
open Go.RowKit

/-- A slice of integers that came in: it is nil; or it leads to a row of 'cap' cells. -/
def IsRow (k : IntKind) (w : World) (a : Option Addr) (len cap : Nat) (zs : List Int) : Prop :=
  (a = none ∧ len = 0 ∧ cap = 0 ∧ zs = []) ∨
  ∃ x, a = some x ∧ len ≤ cap ∧ cap ≤ maxLen ∧ zs.length = cap ∧ (∀ i, i < zs.length → w.cell? (x.add i) = some (.int k (zs.getD i 0))) ∧ ∀ n ∈ zs, (Lit.int k n).wf = true

theorem IsRow.len {k : IntKind} {w : World} {a : Option Addr} {len cap : Nat} {zs : List Int} (h : IsRow k w a len cap zs) : len ≤ maxLen := by
  rcases h with ⟨_, rfl, _⟩ | ⟨_, _, h1, h2, _⟩
  · exact Nat.zero_le _
  · exact Nat.le_trans h1 h2

/-- Where there is an element: where it lies, and that it lies there as long as nothing old is written. -/
theorem IsRow.at {k : IntKind} {w : World} {a : Option Addr} {len cap : Nat} {zs : List Int} (h : IsRow k w a len cap zs) (hp : 0 < len) :
    ∃ b off, a = some ⟨b, off, none⟩ ∧ b < w.heap.size ∧ ∀ i, i < len → ∀ w', Below w.heap.size w w' → w'.cell? ⟨b, off + i, none⟩ = some (.int k (ith zs i)) := by
  rcases h with ⟨_, rfl, _⟩ | ⟨⟨b, off, spot⟩, rfl, h1, _, h3, h4, _⟩
  · omega
  · have h0 := h4 0 (by omega)
    have hspot : spot = none := by simpa [Addr.add] using World.cell?_spot h0
    subst hspot
    have hb : b < w.heap.size := by
      have := World.block_lt_of_cell? _ _ h0
      simpa [Addr.add] using this
    refine ⟨b, off, rfl, hb, fun i hi w' hw' => ?_⟩
    have := h4 i (by omega)
    rw [show (⟨b, off, none⟩ : Addr).add i = ⟨b, off + i, none⟩ by unfold Addr.add; split <;> simp_all] at this
    rw [hw'.cell (p := ⟨b, off + i, none⟩) hb, this]
    rfl

theorem conv_packed {w : World} {g : Nat} {l : List Int} (h : Packed w g l) (cap : Nat) : (convert 31 9 (.slice (some ⟨g, 0, none⟩) 8 cap)).run Try.prog w = .ok (.string (txt l)) w := conv_at h
theorem packed_new (w : World) (l : List Int) (t : TypeId) : Packed (w.alloc (.cells (pck l) t)) w.heap.size l := fun j hj => blk_cell (Go.heap_alloc_new w _) j hj

/-- What Pack leaves, without its own words. -/
theorem pack_packed {w : World} {b : Nat} {l : List Int} (h : IsList w b l) : Calls Try.prog 21 #[.pointer (some ⟨b, 0, none⟩)] w fun e w' =>
    ∃ g, e = .returned (.slice (some ⟨g, 0, none⟩) 8 8) ∧ Packed w' g l ∧ w.grownBy w' none := by
  refine (pack_list h).mono fun e w' ⟨he, hw⟩ => ?_
  subst hw
  exact ⟨_, he, packed_new w l 64, World.grownBy_alloc _ _ _⟩

/-- The slice behind a row that is the call's own: its length stands in it. -/
theorem Ints.slice {w : World} {lo : Nat} {v : Value} {l : List Int} (h : Ints w lo v l) : ∃ a c, v = .slice a l.length c := by
  rcases h.cases with ⟨rfl, rfl⟩ | ⟨g, cap, rfl, _⟩
  · exact ⟨none, 0, rfl⟩
  · exact ⟨_, _, rfl⟩

theorem Below.of_grown {B : Nat} {w w' w'' : World} {row : Option Nat} (h : Below B w w') (hg : w'.grownBy w'' row) (hB : B ≤ w'.heap.size) (hr : ∀ k, row = some k → B ≤ k) : Below B w w'' := h.grown hg hB hr

end Go.Proofs.Ytakdmnamohdpaaa
