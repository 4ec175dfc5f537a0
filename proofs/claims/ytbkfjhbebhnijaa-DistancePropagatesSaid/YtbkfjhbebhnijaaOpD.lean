/-
  law 31: slices of integers and of edges that came in, opened to their cells.
-/
import Derived.Test.YtbkfjhbebhnijaaDsB
import Derived.ProofKit
import Derived.OpenShut
import Derived.Deep.Slices
import Derived.Deep.Fields
namespace Go.Proofs.Ytbkfjhbebhnijaa
open Go.ChangeShapes Go.WideShapes Go.ChangeAt Go.RowKit Go.Deep
set_option linter.unusedSimpArgs false
set_option linter.unusedVariables false

theorem list_of {α : Type} {P : Nat → α → Prop} : ∀ n : Nat, (∀ i, i < n → ∃ o, P i o) → ∃ l : List α, l.length = n ∧ ∀ i o, l[i]? = some o → P i o := by
  intro n
  induction n with
  | zero => exact fun _ => ⟨[], rfl, fun i o h => by simp at h⟩
  | succ n ih =>
    intro h
    obtain ⟨l, hl, hp⟩ := ih (fun i hi => h i (by omega))
    obtain ⟨o, ho⟩ := h n (by omega)
    refine ⟨l ++ [o], by simp [hl], fun i x hx => ?_⟩
    by_cases hi : i < n
    · exact hp i x (by rwa [List.getElem?_append_left (by omega)] at hx)
    · rw [List.getElem?_append_right (by omega)] at hx
      have : i - l.length = 0 := by
        by_cases h0 : i - l.length = 0
        · exact h0
        · rw [List.getElem?_eq_none (by simp; omega)] at hx
          cases hx
      rw [this] at hx
      simp at hx
      subst hx
      have : i = n := by omega
      subst this
      exact ho
theorem int_field {H : Type} {enc : TypeId × Value → H} {P : Program} {w : World} {base fuel off m : Nat} {spare : Nat → Bool} {held : Bool} {t : TypeId} {k : IntKind} {cs : List Value} {x : Option (DataW H × List MemPlace)} {y : DataW H × List MemPlace} (ht : P.underlying t = some (.int k))
    (h : DataW.trod enc P w base spare held fuel t ((cs.drop off).take m) = x) (hm : m = 1) (hx : x = some y) : ∃ n, cs[off]? = some (.int k n) ∧ (Lit.int k n).wf = true := by
  subst hm
  obtain ⟨n, e1, _, wf⟩ := DataW.trod_int ht (h.trans hx)
  refine ⟨n, ?_, wf⟩
  have : ((cs.drop off).take 1)[0]? = some (.int k n) := by rw [e1]; rfl
  rw [List.getElem?_take_of_lt (by omega), List.getElem?_drop] at this
  simpa using this
def I64 (n : Int) : Prop := -9223372036854775808 ≤ n ∧ n ≤ 9223372036854775807
theorem i64_wf {x : Int} (h : (Lit.int .i64 x).wf = true) : I64 x := by
  simp [Lit.wf, IntKind.min, IntKind.max, IntKind.signed, IntKind.bits] at h
  exact ⟨by omega, by omega⟩
set_option maxRecDepth 100000 in
theorem open_ints31 {H : Type} {enc : TypeId × Value → H} {W : World} {v : Value} {d : DataW H} {p : List MemPlace} {r : Reach} {b0 : Nat} (hv : Value.okWide Try.prog W r b0 22 v) (h : DataW.Trod enc Try.prog W 0 (fun _ => true) true 22 v d p) :
    ∃ l : List Int, IntsV W v l ∧ ∀ (i : Nat) (x : Int), l[i]? = some x → I64 x := by
  obtain ⟨a, len, cap, rfl⟩ := okWide_slice Try.underlying22 hv
  obtain ⟨fuel, hf⟩ := h
  rcases open_slice1 Try.underlying22 (by kernel_rfl) hf with ⟨hcs, _⟩ | ⟨x, len', cap', m, n, V, D, Pl, hcs, _, hl, hm, hmm, _, hi⟩
  · simp [Value.cells] at hcs
    obtain ⟨rfl, rfl, rfl⟩ := hcs
    exact ⟨[], ⟨none, 0, rfl, Nat.le_refl _, by omega, .inl rfl⟩, fun i x hx => by simp at hx⟩
  · simp [Value.cells] at hcs
    obtain ⟨rfl, rfl, rfl⟩ := hcs
    simp only [if_true] at hmm
    subst hmm
    have key : ∀ i, i < len → ∃ z : Int, W.cell? (x.add i) = some (.int .i64 z) ∧ I64 z := by
      intro i hil
      obtain ⟨h1, h2⟩ := hi i (by omega)
      obtain ⟨z, e1, _, wf⟩ := DataW.trod_int Try.underlying3 h2
      simp only [List.cons.injEq, and_true] at e1
      rw [e1] at h1
      exact ⟨z, h1, i64_wf wf⟩
    obtain ⟨l, hll, hlp⟩ := list_of len key
    refine ⟨l, ⟨some x, _, by rw [hll], by omega, by unfold maxLen at hm; exact hm, ?_⟩, fun i z hz => (hlp i z hz).2⟩
    by_cases h0 : len = 0
    · exact .inl (List.length_eq_zero_iff.1 (by omega))
    · have e0 := (hlp 0 _ (List.getElem?_eq_getElem (by omega))).1
      obtain ⟨xb, xo, xs⟩ := x
      have hspot : xs = none := by simpa [Addr.add] using World.cell?_spot e0
      subst hspot
      refine .inr ⟨xb, xo, rfl, fun i o ho => ?_⟩
      have hq := (hlp i o ho).1
      rw [Addr.add_lit] at hq
      exact hq
set_option maxRecDepth 100000 in
theorem open_edges {H : Type} {enc : TypeId × Value → H} {W : World} {v : Value} {d : DataW H} {p : List MemPlace} {r : Reach} {b0 : Nat} (hv : Value.okWide Try.prog W r b0 26 v) (h : DataW.Trod enc Try.prog W 0 (fun _ => true) true 26 v d p) :
    ∃ l : List (Int × Int), EdgV W v l := by
  obtain ⟨a, len, cap, rfl⟩ := okWide_slice Try.underlying26 hv
  obtain ⟨fuel, hf⟩ := h
  rcases open_slice Try.underlying26 hf with ⟨hcs, _⟩ | ⟨x, len', cap', m, n, D, Pl, hcs, _, hl, hm, hmm, _, hi⟩
  · simp [Value.cells] at hcs
    obtain ⟨rfl, rfl, rfl⟩ := hcs
    exact ⟨[], ⟨none, 0, rfl, Nat.le_refl _, by omega, .inl rfl⟩⟩
  · simp [Value.cells] at hcs
    obtain ⟨rfl, rfl, rfl⟩ := hcs
    have hC : Try.prog.cellsOf 34 = 2 := by kernel_rfl
    have hc1 : Try.prog.cellsOf 3 = 1 := by kernel_rfl
    simp only [if_true] at hmm
    subst hmm
    rw [hC] at hi
    have key : ∀ i, i < len → ∃ e : Int × Int, W.cell? (x.add (i * 2)) = some (.int .i64 e.1) ∧ W.cell? ((x.add (i * 2)).add 1) = some (.int .i64 e.2) := by
      intro i hil
      obtain ⟨cs, hc, ht⟩ := hi i (by omega)
      obtain ⟨_, hcl, hat⟩ := World.cells?_some hc
      obtain ⟨ys, n', _, _, _, hyl, hfl⟩ := DataW.trod_struct Try.underlying34 ht
      match ys, hyl with
      | [y0, y1], _ =>
        have f0 := hfl 0 _ rfl
        have f1 := hfl 1 _ rfl
        obtain ⟨p, a0, _⟩ := int_field Try.underlying3 f0 hc1 rfl
        obtain ⟨q, a1, _⟩ := int_field Try.underlying3 f1 hc1 rfl
        refine ⟨(p, q), ?_, ?_⟩
        · simpa [add_add] using (hat 0 (by omega)).trans a0
        · simpa [add_add] using (hat 1 (by omega)).trans a1
    obtain ⟨l, hll, hlp⟩ := list_of len key
    refine ⟨l, ⟨some x, _, by rw [hll], by omega, by unfold maxLen at hm; exact hm, ?_⟩⟩
    by_cases h0 : len = 0
    · exact .inl (List.length_eq_zero_iff.1 (by omega))
    · have e0 := (hlp 0 _ (List.getElem?_eq_getElem (by omega))).1
      obtain ⟨xb, xo, xs⟩ := x
      have hspot : xs = none := by simpa [Addr.add] using World.cell?_spot e0
      subst hspot
      refine .inr ⟨xb, xo, rfl, fun i o ho => ?_⟩
      have hq := hlp i o ho
      rw [Addr.add_lit, Addr.add_lit] at hq
      exact hq
end Go.Proofs.Ytbkfjhbebhnijaa
