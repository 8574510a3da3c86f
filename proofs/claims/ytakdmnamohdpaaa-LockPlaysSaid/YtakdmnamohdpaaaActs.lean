/- A slice of acts that came in, as the walks read it. -/
import Derived.Test.YtakdmnamohdpaaaRow
import Derived.Deep.Slices
namespace Go.Proofs.Ytakdmnamohdpaaa
open Go.RowKit Go.ChangeShapes Go.WideShapes Go.Deep

theorem cells47 : Try.prog.cellsOf 47 = 3 := by kernel_rfl
theorem cells3 : Try.prog.cellsOf 3 = 1 := by kernel_rfl

/-- A slice of acts that came in, opened: each act's three numbers, where they lie. -/
theorem open_acts {H : Type} {enc : TypeId × Value → H} {w : World} {base : Nat} {spare : Nat → Bool} {held : Bool} {fuel : Nat} {cs : List Value} {x : DataW H × List MemPlace}
    (h : DataW.trod enc Try.prog w base spare held fuel 42 cs = some x) :
    cs = [.slice none 0 0] ∨ ∃ (a : Addr) (len cap : Nat), cs = [.slice (some a) len cap] ∧ len ≤ cap ∧ cap ≤ maxLen ∧
      ∀ i, i < len → ∃ k m c : Int, w.cell? (a.add (i * 3)) = some (.int .i64 k) ∧ w.cell? (a.add (i * 3 + 1)) = some (.int .i64 m) ∧ w.cell? (a.add (i * 3 + 2)) = some (.int .i64 c) ∧
        (Lit.int .i64 k).wf = true ∧ (Lit.int .i64 m).wf = true ∧ (Lit.int .i64 c).wf = true := by
  rcases open_slice Try.underlying42 h with ⟨h0, _⟩ | ⟨a, len, cap, m, n, D, Pl, hcs, _, hl, hm, hmm, _, hi⟩
  · exact .inl h0
  · refine .inr ⟨a, len, cap, hcs, hl, hm, fun i hlt => ?_⟩
    have him : i < m := by rw [hmm]; split <;> omega
    obtain ⟨cs', hc, ht'⟩ := hi i him
    rw [cells47] at hc
    obtain ⟨ys, n', _, _, hlen, hyl, hf⟩ := DataW.trod_struct Try.underlying47 ht'
    obtain ⟨_, hcl, hat⟩ := World.cells?_some hc
    have hy : ys.length = 3 := hyl
    match cs', hcl, ys, hy with
    | [c0, c1, c2], _, [y0, y1, y2], _ =>
      have f0 : DataW.trod enc Try.prog w base spare held n' 3 (([c0, c1, c2].drop 0).take (Try.prog.cellsOf 3)) = some y0 := hf 0 _ rfl
      have f1 : DataW.trod enc Try.prog w base spare held n' 3 (([c0, c1, c2].drop 1).take (Try.prog.cellsOf 3)) = some y1 := hf 1 _ rfl
      have f2 : DataW.trod enc Try.prog w base spare held n' 3 (([c0, c1, c2].drop 2).take (Try.prog.cellsOf 3)) = some y2 := hf 2 _ rfl
      rw [cells3] at f0 f1 f2
      obtain ⟨k, hk, _, wk⟩ := DataW.trod_int Try.underlying3 f0
      obtain ⟨q, hq, _, wq⟩ := DataW.trod_int Try.underlying3 f1
      obtain ⟨c, hc2, _, wc⟩ := DataW.trod_int Try.underlying3 f2
      simp only [List.drop_zero, List.drop_succ_cons, List.take_succ_cons, List.take_zero, List.cons.injEq, and_true] at hk hq hc2
      subst hk hq hc2
      refine ⟨k, q, c, ?_, ?_, ?_, wk, wq, wc⟩
      · have := hat 0 (by omega); rwa [add_add] at this
      · have := hat 1 (by omega); rwa [add_add] at this
      · have := hat 2 (by omega); rwa [add_add] at this


/-- A slice of acts that came in: where there is one, its three numbers lie there as long as nothing old is written. -/
structure IsActs (w : World) (a : Option Addr) (len : Nat) : Prop where
  short : len ≤ maxLen
  row : 0 < len → ∃ b off, a = some ⟨b, off, none⟩ ∧ b < w.heap.size ∧ ∀ i, i < len → ∃ k m c : Int, (Lit.int .i64 m).wf = true ∧ (Lit.int .i64 c).wf = true ∧ ∀ w', Below w.heap.size w w' →
    w'.cell? ⟨b, off + i * 3, none⟩ = some (.int .i64 k) ∧ w'.cell? ⟨b, off + i * 3 + 1, none⟩ = some (.int .i64 m) ∧ w'.cell? ⟨b, off + i * 3 + 2, none⟩ = some (.int .i64 c)

theorem add_plain (b off j : Nat) : (⟨b, off, none⟩ : Addr).add j = ⟨b, off + j, none⟩ := by unfold Addr.add; split <;> simp_all

theorem isActs_of {H : Type} {enc : TypeId × Value → H} {w : World} {base : Nat} {spare : Nat → Bool} {held : Bool} {fuel : Nat} {a : Option Addr} {len cap : Nat} {x : DataW H × List MemPlace}
    (h : DataW.trod enc Try.prog w base spare held fuel 42 [.slice a len cap] = some x) : IsActs w a len := by
  rcases open_acts h with h0 | ⟨a', len', cap', hcs, hl, hm, hi⟩
  · simp at h0
    obtain ⟨rfl, rfl, rfl⟩ := h0
    exact ⟨Nat.zero_le _, fun h => absurd h (by omega)⟩
  · simp at hcs
    obtain ⟨rfl, rfl, rfl⟩ := hcs
    refine ⟨Nat.le_trans hl hm, fun hp => ?_⟩
    obtain ⟨b, off, spot⟩ := a'
    obtain ⟨k0, m0, c0, h0, _⟩ := hi 0 hp
    have hspot : spot = none := by simpa [Addr.add] using World.cell?_spot h0
    subst hspot
    have hb : b < w.heap.size := by
      have := World.block_lt_of_cell? _ _ h0
      simpa [Addr.add] using this
    refine ⟨b, off, rfl, hb, fun i hlt => ?_⟩
    obtain ⟨k, m, c, h1, h2, h3, _, wm, wc⟩ := hi i hlt
    rw [add_plain] at h1 h2 h3
    refine ⟨k, m, c, wm, wc, fun w' hw' => ⟨?_, ?_, ?_⟩⟩
    · rw [hw'.cell (p := ⟨b, off + i * 3, none⟩) hb]; exact h1
    · rw [hw'.cell (p := ⟨b, off + i * 3 + 1, none⟩) hb]; exact h2
    · rw [hw'.cell (p := ⟨b, off + i * 3 + 2, none⟩) hb]; exact h3

end Go.Proofs.Ytakdmnamohdpaaa
