/- Plain facts on the list of those who were blocked, in order: where somebody stands in it, and what adding does. No program. -/
namespace Go.Proofs.Ytakdmnamohdpaaa

/-- The k-th number (0 beyond the end). -/
def ith (l : List Int) (k : Nat) : Int := l.getD k 0

/-- Since when: the place, from 1 on; 0 where not there. -/
def snc : List Int → Int → Nat
  | [], _ => 0
  | a :: r, x => if a = x then 1 else (if snc r x = 0 then 0 else snc r x + 1)

/-- One is added, if it is a client that is not there yet. -/
def addl (l : List Int) (x : Int) : List Int := if x < 0 ∨ 7 < x ∨ 0 < snc l x then l else l ++ [x]

theorem snc_le (l : List Int) (x : Int) : snc l x ≤ l.length := by
  induction l with
  | nil => simp [snc]
  | cons a r ih => simp only [snc, List.length_cons]; split; omega; split <;> omega

theorem snc_pos {l : List Int} {x : Int} : 0 < snc l x ↔ x ∈ l := by
  induction l with
  | nil => simp [snc]
  | cons a r ih =>
    simp only [snc, List.mem_cons]
    by_cases h : a = x
    · simp [h]
    · have : ¬ x = a := fun e => h e.symm
      simp only [h, this, if_false, false_or]
      rw [← ih]; split <;> omega

theorem snc_snoc (l : List Int) (a x : Int) : snc (l ++ [a]) x = if 0 < snc l x then snc l x else if a = x then l.length + 1 else 0 := by
  induction l with
  | nil => simp [snc]
  | cons b r ih =>
    simp only [List.cons_append, snc, ih, List.length_cons]
    by_cases h1 : b = x <;> by_cases h2 : a = x <;> by_cases h3 : snc r x = 0 <;> simp [h1, h2, h3] <;> (try (have h4 : 0 < snc r x := by omega)) <;> simp_all

theorem snc_found {l : List Int} {x : Int} {i : Nat} (h : i < l.length) (hx : ith l i = x) (hn : ∀ j, j < i → ith l j ≠ x) : snc l x = i + 1 := by
  unfold ith at hx hn
  induction l generalizing i with
  | nil => simp at h
  | cons a r ih =>
    cases i with
    | zero => simp at hx; simp [snc, hx]
    | succ i =>
      have h0 := hn 0 (by omega)
      simp at h0
      have := ih (i := i) (by simpa using h) (by simpa using hx) (fun j hj => by simpa using hn (j + 1) (by omega))
      simp only [snc, h0, if_false, this]
      simp

theorem snc_none {l : List Int} {x : Int} (hn : ∀ j, j < l.length → ith l j ≠ x) : snc l x = 0 := by
  unfold ith at hn
  induction l with
  | nil => rfl
  | cons a r ih =>
    have h0 := hn 0 (by simp)
    simp at h0
    have := ih (fun j hj => by simpa using hn (j + 1) (by simpa using hj))
    simp [snc, h0, this]

/-- The clients that were blocked: each once, each one of 0 to 7. -/
structure Good (l : List Int) : Prop where
  nodup : l.Nodup
  lo : ∀ x ∈ l, 0 ≤ x
  hi : ∀ x ∈ l, x ≤ 7

theorem Good.nil : Good [] := ⟨List.nodup_nil, by simp, by simp⟩

theorem Good.addl {l : List Int} (h : Good l) (x : Int) : Good (addl l x) := by
  unfold Ytakdmnamohdpaaa.addl
  split
  · exact h
  · rename_i hc
    have h1 : 0 ≤ x := by omega
    have h2 : x ≤ 7 := by omega
    have h3 : x ∉ l := fun hm => by have := snc_pos.2 hm; omega
    refine ⟨?_, ?_, ?_⟩
    · rw [List.nodup_append]
      exact ⟨h.nodup, by simp, fun a ha b hb => by simp at hb; subst hb; exact fun e => h3 (e ▸ ha)⟩
    · intro y hy; simp at hy; rcases hy with hy | rfl; exact h.lo y hy; exact h1
    · intro y hy; simp at hy; rcases hy with hy | rfl; exact h.hi y hy; exact h2

theorem Good.length {l : List Int} (h : Good l) : l.length ≤ 8 := by
  have hs : l ⊆ [0, 1, 2, 3, 4, 5, 6, 7] := fun x hx => by
    have h1 := h.lo x hx
    have h2 := h.hi x hx
    simp; omega
  have := List.Nodup.length_le_of_subset h.nodup hs
  simpa using this

theorem snc_addl_of {l : List Int} {x : Int} (h : x < 0 ∨ 7 < x ∨ 0 < snc l x) : addl l x = l := by unfold addl; rw [if_pos h]
theorem addl_new {l : List Int} {x : Int} (h0 : 0 ≤ x) (h7 : x ≤ 7) (h : snc l x = 0) : addl l x = l ++ [x] := by unfold addl; rw [if_neg (by omega)]
end Go.Proofs.Ytakdmnamohdpaaa
