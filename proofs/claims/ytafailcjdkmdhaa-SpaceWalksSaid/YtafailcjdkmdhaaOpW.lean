/-
  A slice of words that came in, opened to its cells.
-/
import Derived.Test.YtafailcjdkmdhaaOps6
import Derived.Test.YtafailcjdkmdhaaWalks
namespace Go.Proofs.Ytafailcjdkmdhaa
open Go.ChangeShapes Go.WideShapes Go.ChangeAt Go.RowKit Go.Deep
set_option linter.unusedSimpArgs false
set_option linter.unusedVariables false

set_option maxRecDepth 100000 in
theorem open_words6 {H : Type} {enc : TypeId × Value → H} {W : World} {v : Value} {d : DataW H} {p : List MemPlace} {r : Reach} {b0 : Nat} (hv : Value.okWide Try.prog W r b0 41 v) (h : DataW.Trod enc Try.prog W 0 (fun _ => true) true 41 v d p) :
    ∃ l : List Int, WrdsV W v l ∧ ∀ (i : Nat) (x : Int), l[i]? = some x → U64 x := by
  obtain ⟨a, len, cap, rfl⟩ := okWide_slice Try.underlying41 hv
  obtain ⟨fuel, hf⟩ := h
  rcases open_slice1 Try.underlying41 (by kernel_rfl) hf with ⟨hcs, _⟩ | ⟨x, len', cap', m, n, V, D, Pl, hcs, _, hl, hm, hmm, _, hi⟩
  · simp [Value.cells] at hcs
    obtain ⟨rfl, rfl, rfl⟩ := hcs
    exact ⟨[], ⟨none, 0, rfl, Nat.le_refl _, by omega, .inl rfl⟩, fun i x hx => by simp at hx⟩
  · simp [Value.cells] at hcs
    obtain ⟨rfl, rfl, rfl⟩ := hcs
    simp only [if_true] at hmm
    subst hmm
    have key : ∀ i, i < len → ∃ z : Int, W.cell? (x.add i) = some (.int .u64 z) ∧ U64 z := by
      intro i hil
      obtain ⟨h1, h2⟩ := hi i (by omega)
      obtain ⟨z, e1, _, wf⟩ := DataW.trod_int Try.underlying32 h2
      simp only [List.cons.injEq, and_true] at e1
      rw [e1] at h1
      exact ⟨z, h1, u64_wf wf⟩
    obtain ⟨l, hll, hlp⟩ := list_of len key
    refine ⟨l, ⟨some x, _, by rw [hll], by omega, by unfold maxLen at hm; exact hm, ?_⟩, fun i z hz => (hlp i z hz).2⟩
    by_cases h0 : len = 0
    · exact .inl (List.length_eq_zero_iff.1 (by omega))
    · have e0 := (hlp 0 _ (List.getElem?_eq_getElem (by omega))).1
      obtain ⟨xb, xo, xs⟩ := x
      have hspot : xs = none := by simpa [Addr.add] using World.cell?_spot e0
      subst hspot
      refine .inr ⟨xb, xo, rfl, fun i o ho => ?_⟩
      have hq := (hlp i o ho).1
      rw [Addr.add_lit] at hq
      exact hq
end Go.Proofs.Ytafailcjdkmdhaa
