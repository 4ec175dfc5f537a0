/-
  A slice of operations that came in, opened to its cells.
-/
import Derived.Test.YtafailcjdkmdhaaLim
import Derived.ProofKit
import Derived.OpenShut
import Derived.Deep.Slices
import Derived.Deep.Fields
namespace Go.Proofs.Ytafailcjdkmdhaa
open Go.ChangeShapes Go.WideShapes Go.ChangeAt Go.RowKit Go.Deep
set_option linter.unusedSimpArgs false
set_option linter.unusedVariables false

theorem list_of {α : Type} {P : Nat → α → Prop} : ∀ n : Nat, (∀ i, i < n → ∃ o, P i o) → ∃ l : List α, l.length = n ∧ ∀ i o, l[i]? = some o → P i o := by
  intro n
  induction n with
  | zero => exact fun _ => ⟨[], rfl, fun i o h => by simp at h⟩
  | succ n ih =>
    intro h
    obtain ⟨l, hl, hp⟩ := ih (fun i hi => h i (by omega))
    obtain ⟨o, ho⟩ := h n (by omega)
    refine ⟨l ++ [o], by simp [hl], fun i x hx => ?_⟩
    by_cases hi : i < n
    · exact hp i x (by rwa [List.getElem?_append_left (by omega)] at hx)
    · rw [List.getElem?_append_right (by omega)] at hx
      have : i - l.length = 0 := by
        by_cases h0 : i - l.length = 0
        · exact h0
        · rw [List.getElem?_eq_none (by simp; omega)] at hx
          cases hx
      rw [this] at hx
      simp at hx
      subst hx
      have : i = n := by omega
      subst this
      exact ho
/-- A field of one integer cell. -/
theorem int_field {H : Type} {enc : TypeId × Value → H} {P : Program} {w : World} {base fuel off m : Nat} {spare : Nat → Bool} {held : Bool} {t : TypeId} {k : IntKind} {cs : List Value} {x : Option (DataW H × List MemPlace)} {y : DataW H × List MemPlace} (ht : P.underlying t = some (.int k))
    (h : DataW.trod enc P w base spare held fuel t ((cs.drop off).take m) = x) (hm : m = 1) (hx : x = some y) : ∃ n, cs[off]? = some (.int k n) ∧ (Lit.int k n).wf = true := by
  subst hm
  obtain ⟨n, e1, _, wf⟩ := DataW.trod_int ht (h.trans hx)
  refine ⟨n, ?_, wf⟩
  have : ((cs.drop off).take 1)[0]? = some (.int k n) := by rw [e1]; rfl
  rw [List.getElem?_take_of_lt (by omega), List.getElem?_drop] at this
  simpa using this
theorem sub_field {cs : List Value} {off m j : Nat} {v : Value} (h : ((cs.drop off).take m)[j]? = some v) : cs[off + j]? = some v := by
  by_cases hj : j < m
  · rwa [List.getElem?_take_of_lt hj, List.getElem?_drop] at h
  · rw [List.getElem?_eq_none (by simp; omega)] at h
    cases h
theorem u64_wf {x : Int} (h : (Lit.int .u64 x).wf = true) : U64 x := by
  simp [Lit.wf, IntKind.min, IntKind.max, IntKind.signed, IntKind.bits] at h
  exact ⟨by omega, by omega⟩

theorem open_ops6 {H : Type} {enc : TypeId × Value → H} {W : World} {v : Value} {d : DataW H} {p : List MemPlace} {r : Reach} {b0 : Nat} (hv : Value.okWide Try.prog W r b0 22 v) (h : DataW.Trod enc Try.prog W 0 (fun _ => true) true 22 v d p) :
    ∃ (a : Option Addr) (l : List Op6) (cap : Nat), v = .slice a l.length cap ∧ l.length ≤ cap ∧ cap ≤ 9223372036854775807 ∧ Ops6 W a l := by
  obtain ⟨a, len, cap, rfl⟩ := okWide_slice Try.underlying22 hv
  obtain ⟨fuel, hf⟩ := h
  rcases open_slice Try.underlying22 hf with ⟨hcs, _⟩ | ⟨x, len', cap', m, n, D, Pl, hcs, _, hl, hm, hmm, _, hi⟩
  · simp [Value.cells] at hcs
    obtain ⟨rfl, rfl, rfl⟩ := hcs
    exact ⟨none, [], 0, rfl, by simp, by omega, .inl rfl⟩
  · simp [Value.cells] at hcs
    obtain ⟨rfl, rfl, rfl⟩ := hcs
    have hC : Try.prog.cellsOf 34 = 8 := by kernel_rfl
    have hCH : Try.prog.cellsOf 29 = 3 := by kernel_rfl
    have hCI : Try.prog.cellsOf 31 = 2 := by kernel_rfl
    have hc1 : Try.prog.cellsOf 3 = 1 := by kernel_rfl
    have hc2 : Try.prog.cellsOf 5 = 1 := by kernel_rfl
    have hc3 : Try.prog.cellsOf 32 = 1 := by kernel_rfl
    simp only [if_true] at hmm
    subst hmm
    rw [hC] at hi
    have key : ∀ i, i < len → ∃ o : Op6, W.cell? (x.add (i * 8)) = some (.int .u8 o.kd) ∧ W.cell? (x.add (i * 8 + 1)) = some (.int .i64 o.k) ∧ W.cell? (x.add (i * 8 + 2)) = some (.int .i64 o.c) ∧ W.cell? (x.add (i * 8 + 3)) = some (.int .i64 o.f) ∧
        W.cell? (x.add (i * 8 + 4)) = some (.int .i64 o.m) ∧ W.cell? (x.add (i * 8 + 5)) = some (.int .i64 o.s) ∧ W.cell? (x.add (i * 8 + 6)) = some (.int .i64 o.a) ∧ W.cell? (x.add (i * 8 + 7)) = some (.int .u64 o.u) ∧ U64 o.u := by
      intro i hil
      obtain ⟨cs, hc, ht⟩ := hi i (by omega)
      obtain ⟨_, hcl, hat⟩ := World.cells?_some hc
      obtain ⟨ys, n', _, _, _, hyl, hfl⟩ := DataW.trod_struct Try.underlying34 ht
      match ys, hyl with
      | [y0, y1, y2, y3, y4], _ =>
        have f0 := hfl 0 _ rfl
        have f1 := hfl 1 _ rfl
        have f2 := hfl 2 _ rfl
        have f3 := hfl 3 _ rfl
        have f4 := hfl 4 _ rfl
        obtain ⟨kd, a0, _⟩ := int_field Try.underlying5 f0 hc2 rfl
        obtain ⟨aa, a6, _⟩ := int_field Try.underlying3 f3 hc1 rfl
        obtain ⟨uu, a7, wu⟩ := int_field Try.underlying32 f4 hc3 rfl
        obtain ⟨zs, n1, _, _, _, hzl, hfz⟩ := DataW.trod_struct Try.underlying29 f1
        obtain ⟨is, n2, _, _, _, his, hfi⟩ := DataW.trod_struct Try.underlying31 f2
        match zs, hzl, is, his with
        | [z0, z1, z2], _, [i0, i1], _ =>
          have g0 := hfz 0 _ rfl
          have g1 := hfz 1 _ rfl
          have g2 := hfz 2 _ rfl
          have g3 := hfi 0 _ rfl
          have g4 := hfi 1 _ rfl
          obtain ⟨kk, a1, _⟩ := int_field Try.underlying3 g0 hc1 rfl
          obtain ⟨cc, a2, _⟩ := int_field Try.underlying3 g1 hc1 rfl
          obtain ⟨ff, a3, _⟩ := int_field Try.underlying3 g2 hc1 rfl
          obtain ⟨mm, a4, _⟩ := int_field Try.underlying3 g3 hc1 rfl
          obtain ⟨ss, a5, _⟩ := int_field Try.underlying3 g4 hc1 rfl
          have b1 := sub_field a1
          have b2 := sub_field a2
          have b3 := sub_field a3
          have b4 := sub_field a4
          have b5 := sub_field a5
          refine ⟨⟨kd, kk, cc, ff, mm, ss, aa, uu⟩, ?_, ?_, ?_, ?_, ?_, ?_, ?_, ?_, u64_wf wu⟩
          · simpa [add_add] using (hat 0 (by omega)).trans a0
          · simpa [add_add] using (hat 1 (by omega)).trans b1
          · simpa [add_add] using (hat 2 (by omega)).trans b2
          · simpa [add_add] using (hat 3 (by omega)).trans b3
          · simpa [add_add] using (hat 4 (by omega)).trans b4
          · simpa [add_add] using (hat 5 (by omega)).trans b5
          · simpa [add_add] using (hat 6 (by omega)).trans a6
          · simpa [add_add] using (hat 7 (by omega)).trans a7
    obtain ⟨l, hll, hlp⟩ := list_of len key
    refine ⟨some x, l, _, by rw [hll], by omega, by unfold maxLen at hm; exact hm, ?_⟩
    by_cases h0 : len = 0
    · exact .inl (List.length_eq_zero_iff.1 (by omega))
    · have e0 := hlp 0 _ (List.getElem?_eq_getElem (by omega))
      obtain ⟨xb, xo, xs⟩ := x
      have hspot : xs = none := by simpa [Addr.add] using World.cell?_spot e0.1
      subst hspot
      refine .inr ⟨xb, xo, rfl, by simpa [Addr.add] using World.block_lt_of_cell? W _ e0.1, fun i o ho => ?_⟩
      obtain ⟨c0, c1, c2, c3, c4, c5, c6, c7, c8⟩ := hlp i o ho
      simp only [Addr.add_lit] at c0 c1 c2 c3 c4 c5 c6 c7
      exact ⟨c0, by simpa [Nat.add_assoc] using c1, by simpa [Nat.add_assoc] using c2, by simpa [Nat.add_assoc] using c3, by simpa [Nat.add_assoc] using c4, by simpa [Nat.add_assoc] using c5, by simpa [Nat.add_assoc] using c6, by simpa [Nat.add_assoc] using c7, c8⟩
end Go.Proofs.Ytafailcjdkmdhaa
