/-
  A slice of operations of TopSecond that came in, opened to its cells.
-/
import Derived.Test.YtgjaafcagnkfdaaTsQ
import Derived.ProofKit
import Derived.OpenShut
import Derived.Deep.Slices
import Derived.Deep.Fields
namespace Go.Proofs.Ytgjaafcagnkfdaa
open Go.ChangeShapes Go.WideShapes Go.ChangeAt Go.RowKit Go.Deep
set_option linter.unusedSimpArgs false
set_option linter.unusedVariables false

theorem list_of {α : Type} {P : Nat → α → Prop} : ∀ n : Nat, (∀ i, i < n → ∃ o, P i o) → ∃ l : List α, l.length = n ∧ ∀ i o, l[i]? = some o → P i o := by
  intro n
  induction n with
  | zero => exact fun _ => ⟨[], rfl, fun i o h => by simp at h⟩
  | succ n ih =>
    intro h
    obtain ⟨l, hl, hp⟩ := ih (fun i hi => h i (by omega))
    obtain ⟨o, ho⟩ := h n (by omega)
    refine ⟨l ++ [o], by simp [hl], fun i x hx => ?_⟩
    by_cases hi : i < n
    · exact hp i x (by rwa [List.getElem?_append_left (by omega)] at hx)
    · rw [List.getElem?_append_right (by omega)] at hx
      have : i - l.length = 0 := by
        by_cases h0 : i - l.length = 0
        · exact h0
        · rw [List.getElem?_eq_none (by simp; omega)] at hx
          cases hx
      rw [this] at hx
      simp at hx
      subst hx
      have : i = n := by omega
      subst this
      exact ho
/-- A field of one integer cell. -/
theorem int_field {H : Type} {enc : TypeId × Value → H} {P : Program} {w : World} {base fuel off m : Nat} {spare : Nat → Bool} {held : Bool} {t : TypeId} {k : IntKind} {cs : List Value} {x : Option (DataW H × List MemPlace)} {y : DataW H × List MemPlace} (ht : P.underlying t = some (.int k))
    (h : DataW.trod enc P w base spare held fuel t ((cs.drop off).take m) = x) (hm : m = 1) (hx : x = some y) : ∃ n, cs[off]? = some (.int k n) ∧ (Lit.int k n).wf = true := by
  subst hm
  obtain ⟨n, e1, _, wf⟩ := DataW.trod_int ht (h.trans hx)
  refine ⟨n, ?_, wf⟩
  have : ((cs.drop off).take 1)[0]? = some (.int k n) := by rw [e1]; rfl
  rw [List.getElem?_take_of_lt (by omega), List.getElem?_drop] at this
  simpa using this
theorem sub_field {cs : List Value} {off m j : Nat} {v : Value} (h : ((cs.drop off).take m)[j]? = some v) : cs[off + j]? = some v := by
  by_cases hj : j < m
  · rwa [List.getElem?_take_of_lt hj, List.getElem?_drop] at h
  · rw [List.getElem?_eq_none (by simp; omega)] at h
    cases h
theorem u64_wf {x : Int} (h : (Lit.int .u64 x).wf = true) : U64 x := by
  simp [Lit.wf, IntKind.min, IntKind.max, IntKind.signed, IntKind.bits] at h
  exact ⟨by omega, by omega⟩

theorem u8_wfC {x : Int} (h : (Lit.int .u8 x).wf = true) : 0 ≤ x ∧ x ≤ 255 := by
  simp [Lit.wf, IntKind.min, IntKind.max, IntKind.signed, IntKind.bits] at h
  exact ⟨by omega, by omega⟩
set_option maxRecDepth 100000 in
theorem open_cells {H : Type} {enc : TypeId × Value → H} {W : World} {v : Value} {d : DataW H} {p : List MemPlace} {r : Reach} {b0 : Nat} (hv : Value.okWide Try.prog W r b0 22 v) (h : DataW.Trod enc Try.prog W 0 (fun _ => true) true 22 v d p) :
    ∃ (a : Option Addr) (l : List OpC) (cap : Nat), v = .slice a l.length cap ∧ l.length ≤ cap ∧ cap ≤ 9223372036854775807 ∧ OpsC W a l := by
  obtain ⟨a, len, cap, rfl⟩ := okWide_slice Try.underlying22 hv
  obtain ⟨fuel, hf⟩ := h
  rcases open_slice Try.underlying22 hf with ⟨hcs, _⟩ | ⟨x, len', cap', m, n, D, Pl, hcs, _, hl, hm, hmm, _, hi⟩
  · simp [Value.cells] at hcs
    obtain ⟨rfl, rfl, rfl⟩ := hcs
    exact ⟨none, [], 0, rfl, by simp, by omega, .inl rfl⟩
  · simp [Value.cells] at hcs
    obtain ⟨rfl, rfl, rfl⟩ := hcs
    have hC : Try.prog.cellsOf 38 = 4 := by kernel_rfl
    have hc4 : Try.prog.cellsOf 5 = 1 := by kernel_rfl
    simp only [if_true] at hmm
    subst hmm
    rw [hC] at hi
    have key : ∀ i, i < len → ∃ o : OpC, W.cell? (x.add (i * 4)) = some (.int .u8 o.kd) ∧ W.cell? (x.add (i * 4 + 1)) = some (.int .u8 o.A) ∧ W.cell? (x.add (i * 4 + 2)) = some (.int .u8 o.B) ∧ W.cell? (x.add (i * 4 + 3)) = some (.int .u8 o.nf) ∧ OpCk o := by
      intro i hil
      obtain ⟨cs, hc, ht⟩ := hi i (by omega)
      obtain ⟨_, hcl, hat⟩ := World.cells?_some hc
      obtain ⟨ys, n', _, _, _, hyl, hfl⟩ := DataW.trod_struct Try.underlying38 ht
      match ys, hyl with
      | [y0, y1, y2, y3], _ =>
        have f0 := hfl 0 _ rfl
        have f1 := hfl 1 _ rfl
        have f2 := hfl 2 _ rfl
        have f3 := hfl 3 _ rfl
        obtain ⟨kd, a0, w0⟩ := int_field Try.underlying5 f0 hc4 rfl
        obtain ⟨aa, a1, w1⟩ := int_field Try.underlying5 f1 hc4 rfl
        obtain ⟨bb, a2, w2⟩ := int_field Try.underlying5 f2 hc4 rfl
        obtain ⟨nf, a3, w3⟩ := int_field Try.underlying5 f3 hc4 rfl
        refine ⟨⟨kd, aa, bb, nf⟩, ?_, ?_, ?_, ?_, ⟨u8_wfC w0, u8_wfC w1, u8_wfC w2, u8_wfC w3⟩⟩
        · simpa [add_add] using (hat 0 (by omega)).trans a0
        · simpa [add_add] using (hat 1 (by omega)).trans a1
        · simpa [add_add] using (hat 2 (by omega)).trans a2
        · simpa [add_add] using (hat 3 (by omega)).trans a3
    obtain ⟨l, hll, hlp⟩ := list_of len key
    refine ⟨some x, l, _, by rw [hll], by omega, by unfold maxLen at hm; exact hm, ?_⟩
    by_cases h0 : len = 0
    · exact .inl (List.length_eq_zero_iff.1 (by omega))
    · have e0 := hlp 0 _ (List.getElem?_eq_getElem (by omega))
      obtain ⟨xb, xo, xs⟩ := x
      have hspot : xs = none := by simpa [Addr.add] using World.cell?_spot e0.1
      subst hspot
      refine .inr ⟨xb, xo, rfl, by simpa [Addr.add] using World.block_lt_of_cell? W _ e0.1, fun i o ho => ?_⟩
      obtain ⟨c0, c1, c2, c3, c8⟩ := hlp i o ho
      simp only [Addr.add_lit] at c0 c1 c2 c3
      exact ⟨c0, by simpa [Nat.add_assoc] using c1, by simpa [Nat.add_assoc] using c2, by simpa [Nat.add_assoc] using c3, c8⟩
end Go.Proofs.Ytgjaafcagnkfdaa
