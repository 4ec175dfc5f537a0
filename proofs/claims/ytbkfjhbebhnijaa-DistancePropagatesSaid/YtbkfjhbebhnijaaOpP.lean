/-
  law 31: stubs and scions that came in, opened to their cells, with the bounds of their numbers.
-/
import Derived.Test.YtbkfjhbebhnijaaOpS
import Derived.Test.YtbkfjhbebhnijaaDpA
namespace Go.Proofs.Ytbkfjhbebhnijaa
open Go.ChangeShapes Go.WideShapes Go.ChangeAt Go.RowKit Go.Deep
set_option linter.unusedSimpArgs false
set_option linter.unusedVariables false

theorem w64_wf {x : Int} (h : (Lit.int .u64 x).wf = true) : W64 x := by
  simp [Lit.wf, IntKind.min, IntKind.max, IntKind.signed, IntKind.bits] at h
  exact ⟨by omega, by omega⟩
theorem two_at {cs : List Value} {off m j : Nat} {v : Value} (hm : m = 2) (hj : j < 2) (h : ((cs.drop off).take m)[j]? = some v) : cs[off + j]? = some v := by
  subst hm
  rw [List.getElem?_take_of_lt hj, List.getElem?_drop] at h
  exact h
set_option maxRecDepth 100000 in
theorem open_insW {H : Type} {enc : TypeId × Value → H} {W : World} {fuel : Nat} {cs : List Value} {x : DataW H × List MemPlace} (h : DataW.trod enc Try.prog W 0 (fun _ => true) true fuel 50 cs = some x) :
    ∃ (iv : Value) (l : List Ins), cs = [iv] ∧ InsV W iv l ∧ ∀ y ∈ l, I63 y.c ∧ W64 y.n := by
  rcases open_slice Try.underlying50 h with ⟨hcs, _⟩ | ⟨x, len, cap, m, n, D, Pl, hcs, _, hl, hm, hmm, _, hi⟩
  · exact ⟨_, [], hcs, ⟨none, 0, rfl, Nat.le_refl _, by omega, fun _ => rfl, .inl rfl⟩, fun y hy => by cases hy⟩
  · have hC : Try.prog.cellsOf 63 = 3 := by kernel_rfl
    have hc1 : Try.prog.cellsOf 3 = 1 := by kernel_rfl
    have hc2 : Try.prog.cellsOf 49 = 1 := by kernel_rfl
    simp only [if_true] at hmm
    rw [hC] at hi
    have key : ∀ i, i < len → ∃ e : Ins, W.cell? (x.add (i * 3)) = some (.int .i64 e.c) ∧ W.cell? ((x.add (i * 3)).add 1) = some (.int .u64 e.n) ∧ W.cell? ((x.add (i * 3)).add 2) = some (.int .i64 e.o) ∧ I63 e.c ∧ W64 e.n := by
      intro i hil
      obtain ⟨cs, hc, ht⟩ := hi i (by omega)
      obtain ⟨_, hcl, hat⟩ := World.cells?_some hc
      obtain ⟨ys, n', _, _, _, hyl, hfl⟩ := DataW.trod_struct Try.underlying63 ht
      match ys, hyl with
      | [y0, y1, y2], _ =>
        have f0 := hfl 0 _ rfl
        have f1 := hfl 1 _ rfl
        have f2 := hfl 2 _ rfl
        obtain ⟨p, a0, wp⟩ := int_field Try.underlying3 f0 hc1 rfl
        obtain ⟨q, a1, wq⟩ := int_field Try.underlying49 f1 hc2 rfl
        obtain ⟨r, a2, _⟩ := int_field Try.underlying3 f2 hc1 rfl
        refine ⟨⟨p, q, r⟩, ?_, ?_, ?_, i64_wf wp, w64_wf wq⟩
        · simpa [add_add] using (hat 0 (by omega)).trans a0
        · simpa [add_add] using (hat 1 (by omega)).trans a1
        · simpa [add_add] using (hat 2 (by omega)).trans a2
    obtain ⟨l, hll, hlp⟩ := list_of len key
    refine ⟨_, l, hcs, ⟨some x, cap, by rw [hll], by omega, by unfold maxLen at hm; exact hm, fun e => (by cases e), ?_⟩, fun y hy => ?_⟩
    rotate_left
    · obtain ⟨i, hi⟩ := List.mem_iff_getElem?.1 hy
      exact (hlp i y hi).2.2.2
    by_cases h0 : len = 0
    · exact .inl (List.length_eq_zero_iff.1 (by omega))
    · have e0 := (hlp 0 _ (List.getElem?_eq_getElem (by omega))).1
      obtain ⟨xb, xo, xs⟩ := x
      have hspot : xs = none := by simpa [Addr.add] using World.cell?_spot e0
      subst hspot
      refine .inr ⟨xb, xo, rfl, fun i o ho => ?_⟩
      have hq := hlp i o ho
      simp only [Addr.add_lit] at hq
      exact ⟨hq.1, hq.2.1, hq.2.2.1⟩
set_option maxRecDepth 100000 in
theorem open_stbW {H : Type} {enc : TypeId × Value → H} {W : World} {fuel : Nat} {cs : List Value} {x : DataW H × List MemPlace} (h : DataW.trod enc Try.prog W 0 (fun _ => true) true fuel 40 cs = some x) :
    ∃ (iv : Value) (l : List Stb), cs = [iv] ∧ StbV W iv l ∧ ∀ x ∈ l, ∀ y ∈ x.ins, I63 y.c ∧ W64 y.n := by
  rcases open_slice Try.underlying40 h with ⟨hcs, _⟩ | ⟨x, len, cap, m, n, D, Pl, hcs, _, hl, hm, hmm, _, hi⟩
  · exact ⟨_, [], hcs, ⟨none, 0, rfl, Nat.le_refl _, by omega, fun _ => rfl, .inl rfl⟩, fun y hy => by cases hy⟩
  · have hC : Try.prog.cellsOf 52 = 5 := by kernel_rfl
    have hc1 : Try.prog.cellsOf 3 = 1 := by kernel_rfl
    have hc2 : Try.prog.cellsOf 49 = 1 := by kernel_rfl
    have hc3 : Try.prog.cellsOf 4 = 1 := by kernel_rfl
    have hc4 : Try.prog.cellsOf 50 = 1 := by kernel_rfl
    simp only [if_true] at hmm
    rw [hC] at hi
    have key : ∀ i, i < len → ∃ e : Stb, W.cell? (x.add (i * 5)) = some (.int .i64 e.o) ∧ W.cell? ((x.add (i * 5)).add 1) = some (.int .u64 e.n) ∧ W.cell? ((x.add (i * 5)).add 2) = some (.bool e.r) ∧ W.cell? ((x.add (i * 5)).add 3) = some (.int .i64 e.d) ∧ (∃ iv, W.cell? ((x.add (i * 5)).add 4) = some iv ∧ InsV W iv e.ins) ∧ ∀ y ∈ e.ins, I63 y.c ∧ W64 y.n := by
      intro i hil
      obtain ⟨cs, hc, ht⟩ := hi i (by omega)
      obtain ⟨_, hcl, hat⟩ := World.cells?_some hc
      obtain ⟨ys, n', _, _, _, hyl, hfl⟩ := DataW.trod_struct Try.underlying52 ht
      match ys, hyl with
      | [y0, y1, y2, y3, y4], _ =>
        have f0 := hfl 0 _ rfl
        have f1 := hfl 1 _ rfl
        have f2 := hfl 2 _ rfl
        have f3 := hfl 3 _ rfl
        have f4 := hfl 4 _ rfl
        obtain ⟨p, a0, _⟩ := int_field Try.underlying3 f0 hc1 rfl
        obtain ⟨q, a1, _⟩ := int_field Try.underlying49 f1 hc2 rfl
        obtain ⟨r, a2⟩ := bool_field Try.underlying4 f2 hc3 rfl
        obtain ⟨d, a3, _⟩ := int_field Try.underlying3 f3 hc1 rfl
        obtain ⟨iv, ins, e4, hins, hwf⟩ := open_insW (f4.trans rfl)
        have a4 := one_at (m := Try.prog.cellsOf 50) e4 hc4
        refine ⟨⟨p, q, r, d, ins⟩, ?_, ?_, ?_, ?_, ⟨iv, ?_, hins⟩, hwf⟩
        · simpa [add_add] using (hat 0 (by omega)).trans a0
        · simpa [add_add] using (hat 1 (by omega)).trans a1
        · simpa [add_add] using (hat 2 (by omega)).trans a2
        · simpa [add_add] using (hat 3 (by omega)).trans a3
        · simpa [add_add] using (hat 4 (by omega)).trans a4
    obtain ⟨l, hll, hlp⟩ := list_of len key
    refine ⟨_, l, hcs, ⟨some x, cap, by rw [hll], by omega, by unfold maxLen at hm; exact hm, fun e => (by cases e), ?_⟩, fun y hy => ?_⟩
    rotate_left
    · obtain ⟨i, hi⟩ := List.mem_iff_getElem?.1 hy
      exact (hlp i y hi).2.2.2.2.2
    by_cases h0 : len = 0
    · exact .inl (List.length_eq_zero_iff.1 (by omega))
    · have e0 := (hlp 0 _ (List.getElem?_eq_getElem (by omega))).1
      obtain ⟨xb, xo, xs⟩ := x
      have hspot : xs = none := by simpa [Addr.add] using World.cell?_spot e0
      subst hspot
      refine .inr ⟨xb, xo, rfl, fun i o ho => ?_⟩
      have hq := hlp i o ho
      simp only [Addr.add_lit] at hq
      exact ⟨hq.1, hq.2.1, hq.2.2.1, hq.2.2.2.1, hq.2.2.2.2.1⟩
theorem open_stbsW {H : Type} {enc : TypeId × Value → H} {W : World} {v : Value} {d : DataW H} {p : List MemPlace} {r : Reach} {b0 : Nat} (hv : Value.okWide Try.prog W r b0 40 v) (h : DataW.Trod enc Try.prog W 0 (fun _ => true) true 40 v d p) :
    ∃ l : List Stb, StbV W v l ∧ ∀ x ∈ l, ∀ y ∈ x.ins, I63 y.c ∧ W64 y.n := by
  obtain ⟨a, len, cap, rfl⟩ := okWide_slice Try.underlying40 hv
  obtain ⟨fuel, hf⟩ := h
  obtain ⟨iv, l, e, hl, hwf⟩ := open_stbW hf
  simp [Value.cells] at e
  exact ⟨l, by rw [e]; exact hl, hwf⟩
set_option maxRecDepth 100000 in
theorem open_scions {H : Type} {enc : TypeId × Value → H} {W : World} {v : Value} {d : DataW H} {p : List MemPlace} {r : Reach} {b0 : Nat} (hv : Value.okWide Try.prog W r b0 47 v) (h : DataW.Trod enc Try.prog W 0 (fun _ => true) true 47 v d p) :
    ∃ l : List Sce, SceV W v l := by
  obtain ⟨a, len, cap, rfl⟩ := okWide_slice Try.underlying47 hv
  obtain ⟨fuel, hf⟩ := h
  rcases open_slice Try.underlying47 hf with ⟨hcs, _⟩ | ⟨x, len', cap', m, n, D, Pl, hcs, _, hl, hm, hmm, _, hi⟩
  · simp [Value.cells] at hcs
    obtain ⟨rfl, rfl, rfl⟩ := hcs
    exact ⟨[], none, 0, rfl, Nat.le_refl _, by omega, fun y hy => (by cases hy), .inl rfl⟩
  · simp [Value.cells] at hcs
    obtain ⟨rfl, rfl, rfl⟩ := hcs
    have hC : Try.prog.cellsOf 69 = 12 := by kernel_rfl
    have hc1 : Try.prog.cellsOf 3 = 1 := by kernel_rfl
    have hc2 : Try.prog.cellsOf 49 = 1 := by kernel_rfl
    have hc3 : Try.prog.cellsOf 4 = 1 := by kernel_rfl
    have hc4 : Try.prog.cellsOf 66 = 2 := by kernel_rfl
    have hc5 : Try.prog.cellsOf 67 = 2 := by kernel_rfl
    simp only [if_true] at hmm
    rw [hC] at hi
    have key : ∀ i, i < len → ∃ e : Sce, (W.cell? (x.add (i * 12)) = some (.int .i64 e.c) ∧ W.cell? ((x.add (i * 12)).add 1) = some (.int .u64 e.n) ∧ W.cell? ((x.add (i * 12)).add 2) = some (.int .i64 e.i0) ∧ W.cell? ((x.add (i * 12)).add 3) = some (.int .i64 e.i1) ∧ W.cell? ((x.add (i * 12)).add 4) = some (.int .i64 e.ou) ∧ W.cell? ((x.add (i * 12)).add 5) = some (.int .i64 e.iu) ∧ W.cell? ((x.add (i * 12)).add 6) = some (.int .i64 e.d) ∧ W.cell? ((x.add (i * 12)).add 7) = some (.bool e.tb) ∧ W.cell? ((x.add (i * 12)).add 8) = some (.bool e.wb) ∧ W.cell? ((x.add (i * 12)).add 9) = some (.bool e.gb) ∧ W.cell? ((x.add (i * 12)).add 10) = some (.int .i64 e.k0) ∧ W.cell? ((x.add (i * 12)).add 11) = some (.int .i64 e.k1)) ∧ I63 e.c ∧ W64 e.n ∧ I63 e.d := by
      intro i hil
      obtain ⟨cs, hc, ht⟩ := hi i (by omega)
      obtain ⟨_, hcl, hat⟩ := World.cells?_some hc
      obtain ⟨ys, n', _, _, _, hyl, hfl⟩ := DataW.trod_struct Try.underlying69 ht
      match ys, hyl with
      | [y0, y1, y2, y3, y4, y5, y6, y7, y8, y9], _ =>
        obtain ⟨x0, a0, w0⟩ := int_field Try.underlying3 (hfl 0 _ rfl) hc1 rfl
        obtain ⟨x1, a1, w1⟩ := int_field Try.underlying49 (hfl 1 _ rfl) hc2 rfl
        obtain ⟨z2, n2, _, _, _, hz2, hg2⟩ := DataW.trod_struct Try.underlying66 ((hfl 2 _ rfl).trans rfl)
        obtain ⟨x4, a4, _⟩ := int_field Try.underlying3 (hfl 3 _ rfl) hc1 rfl
        obtain ⟨x5, a5, _⟩ := int_field Try.underlying3 (hfl 4 _ rfl) hc1 rfl
        obtain ⟨x6, a6, w6⟩ := int_field Try.underlying3 (hfl 5 _ rfl) hc1 rfl
        obtain ⟨x7, a7⟩ := bool_field Try.underlying4 (hfl 6 _ rfl) hc3 rfl
        obtain ⟨x8, a8⟩ := bool_field Try.underlying4 (hfl 7 _ rfl) hc3 rfl
        obtain ⟨x9, a9⟩ := bool_field Try.underlying4 (hfl 8 _ rfl) hc3 rfl
        obtain ⟨z3, n3, _, _, _, hz3, hg3⟩ := DataW.trod_struct Try.underlying67 ((hfl 9 _ rfl).trans rfl)
        match z2, hz2, z3, hz3 with
        | [u0, u1], _, [u2, u3], _ =>
          obtain ⟨x2, b2, _⟩ := int_field Try.underlying3 (hg2 0 _ rfl) hc1 rfl
          obtain ⟨x3, b3, _⟩ := int_field Try.underlying3 (hg2 1 _ rfl) hc1 rfl
          obtain ⟨x10, b10, _⟩ := int_field Try.underlying3 (hg3 0 _ rfl) hc1 rfl
          obtain ⟨x11, b11, _⟩ := int_field Try.underlying3 (hg3 1 _ rfl) hc1 rfl
          have a2 := two_at (j := 0) hc4 (by decide) b2
          have a3 := two_at (j := 1) hc4 (by decide) b3
          have a10 := two_at (j := 0) hc5 (by decide) b10
          have a11 := two_at (j := 1) hc5 (by decide) b11
          refine ⟨⟨x0, x1, x2, x3, x4, x5, x6, x7, x8, x9, x10, x11⟩, ⟨?_, ?_, ?_, ?_, ?_, ?_, ?_, ?_, ?_, ?_, ?_, ?_⟩, i64_wf w0, w64_wf w1, i64_wf w6⟩
          · simpa [add_add] using (hat 0 (by omega)).trans a0
          · simpa [add_add] using (hat 1 (by omega)).trans a1
          · simpa [add_add] using (hat 2 (by omega)).trans a2
          · simpa [add_add] using (hat 3 (by omega)).trans a3
          · simpa [add_add] using (hat 4 (by omega)).trans a4
          · simpa [add_add] using (hat 5 (by omega)).trans a5
          · simpa [add_add] using (hat 6 (by omega)).trans a6
          · simpa [add_add] using (hat 7 (by omega)).trans a7
          · simpa [add_add] using (hat 8 (by omega)).trans a8
          · simpa [add_add] using (hat 9 (by omega)).trans a9
          · simpa [add_add] using (hat 10 (by omega)).trans a10
          · simpa [add_add] using (hat 11 (by omega)).trans a11
    obtain ⟨l, hll, hlp⟩ := list_of len key
    refine ⟨l, some x, cap, by rw [hll], by omega, by unfold maxLen at hm; exact hm, fun y hy => ?_, ?_⟩
    · obtain ⟨i, hi⟩ := List.mem_iff_getElem?.1 hy
      exact (hlp i y hi).2
    by_cases h0 : len = 0
    · exact .inl (List.length_eq_zero_iff.1 (by omega))
    · have e0 := (hlp 0 _ (List.getElem?_eq_getElem (by omega))).1.1
      obtain ⟨xb, xo, xs⟩ := x
      have hspot : xs = none := by simpa [Addr.add] using World.cell?_spot e0
      subst hspot
      refine .inr ⟨xb, xo, rfl, fun i o ho => ?_⟩
      have hq := (hlp i o ho).1
      simp only [Addr.add_lit] at hq
      exact hq
end Go.Proofs.Ytbkfjhbebhnijaa
