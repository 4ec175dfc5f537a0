/-
  law 31: slices of insets, of summaries of stubs, and a summary that came in, opened to their cells.
-/
import Derived.Test.YtbkfjhbebhnijaaOpD
import Derived.Test.YtbkfjhbebhnijaaDtA
namespace Go.Proofs.Ytbkfjhbebhnijaa
open Go.ChangeShapes Go.WideShapes Go.ChangeAt Go.RowKit Go.Deep
set_option linter.unusedSimpArgs false
set_option linter.unusedVariables false

theorem bool_field {H : Type} {enc : TypeId × Value → H} {P : Program} {w : World} {base fuel off m : Nat} {spare : Nat → Bool} {held : Bool} {t : TypeId} {cs : List Value} {x : Option (DataW H × List MemPlace)} {y : DataW H × List MemPlace} (ht : P.underlying t = some .bool)
    (h : DataW.trod enc P w base spare held fuel t ((cs.drop off).take m) = x) (hm : m = 1) (hx : x = some y) : ∃ n, cs[off]? = some (.bool n) := by
  subst hm
  obtain ⟨n, e1, _⟩ := DataW.trod_bool ht (h.trans hx)
  refine ⟨n, ?_⟩
  have : ((cs.drop off).take 1)[0]? = some (.bool n) := by rw [e1]; rfl
  rw [List.getElem?_take_of_lt (by omega), List.getElem?_drop] at this
  simpa using this
theorem one_at {cs : List Value} {off m : Nat} {v : Value} (h : (cs.drop off).take m = [v]) (hm : m = 1) : cs[off]? = some v := by
  subst hm
  have : ((cs.drop off).take 1)[0]? = some v := by rw [h]; rfl
  rw [List.getElem?_take_of_lt (by omega), List.getElem?_drop] at this
  simpa using this
set_option maxRecDepth 100000 in
theorem open_insF {H : Type} {enc : TypeId × Value → H} {W : World} {fuel : Nat} {cs : List Value} {x : DataW H × List MemPlace} (h : DataW.trod enc Try.prog W 0 (fun _ => true) true fuel 50 cs = some x) :
    ∃ (iv : Value) (l : List Ins), cs = [iv] ∧ InsV W iv l := by
  rcases open_slice Try.underlying50 h with ⟨hcs, _⟩ | ⟨x, len, cap, m, n, D, Pl, hcs, _, hl, hm, hmm, _, hi⟩
  · exact ⟨_, [], hcs, none, 0, rfl, Nat.le_refl _, by omega, fun _ => rfl, .inl rfl⟩
  · have hC : Try.prog.cellsOf 63 = 3 := by kernel_rfl
    have hc1 : Try.prog.cellsOf 3 = 1 := by kernel_rfl
    have hc2 : Try.prog.cellsOf 49 = 1 := by kernel_rfl
    simp only [if_true] at hmm
    rw [hC] at hi
    have key : ∀ i, i < len → ∃ e : Ins, W.cell? (x.add (i * 3)) = some (.int .i64 e.c) ∧ W.cell? ((x.add (i * 3)).add 1) = some (.int .u64 e.n) ∧ W.cell? ((x.add (i * 3)).add 2) = some (.int .i64 e.o) := by
      intro i hil
      obtain ⟨cs, hc, ht⟩ := hi i (by omega)
      obtain ⟨_, hcl, hat⟩ := World.cells?_some hc
      obtain ⟨ys, n', _, _, _, hyl, hfl⟩ := DataW.trod_struct Try.underlying63 ht
      match ys, hyl with
      | [y0, y1, y2], _ =>
        have f0 := hfl 0 _ rfl
        have f1 := hfl 1 _ rfl
        have f2 := hfl 2 _ rfl
        obtain ⟨p, a0, _⟩ := int_field Try.underlying3 f0 hc1 rfl
        obtain ⟨q, a1, _⟩ := int_field Try.underlying49 f1 hc2 rfl
        obtain ⟨r, a2, _⟩ := int_field Try.underlying3 f2 hc1 rfl
        refine ⟨⟨p, q, r⟩, ?_, ?_, ?_⟩
        · simpa [add_add] using (hat 0 (by omega)).trans a0
        · simpa [add_add] using (hat 1 (by omega)).trans a1
        · simpa [add_add] using (hat 2 (by omega)).trans a2
    obtain ⟨l, hll, hlp⟩ := list_of len key
    refine ⟨_, l, hcs, some x, cap, by rw [hll], by omega, by unfold maxLen at hm; exact hm, fun e => (by cases e), ?_⟩
    by_cases h0 : len = 0
    · exact .inl (List.length_eq_zero_iff.1 (by omega))
    · have e0 := (hlp 0 _ (List.getElem?_eq_getElem (by omega))).1
      obtain ⟨xb, xo, xs⟩ := x
      have hspot : xs = none := by simpa [Addr.add] using World.cell?_spot e0
      subst hspot
      refine .inr ⟨xb, xo, rfl, fun i o ho => ?_⟩
      have hq := hlp i o ho
      simp only [Addr.add_lit] at hq
      exact hq
set_option maxRecDepth 100000 in
theorem open_stbF {H : Type} {enc : TypeId × Value → H} {W : World} {fuel : Nat} {cs : List Value} {x : DataW H × List MemPlace} (h : DataW.trod enc Try.prog W 0 (fun _ => true) true fuel 40 cs = some x) :
    ∃ (iv : Value) (l : List Stb), cs = [iv] ∧ StbV W iv l := by
  rcases open_slice Try.underlying40 h with ⟨hcs, _⟩ | ⟨x, len, cap, m, n, D, Pl, hcs, _, hl, hm, hmm, _, hi⟩
  · exact ⟨_, [], hcs, none, 0, rfl, Nat.le_refl _, by omega, fun _ => rfl, .inl rfl⟩
  · have hC : Try.prog.cellsOf 52 = 5 := by kernel_rfl
    have hc1 : Try.prog.cellsOf 3 = 1 := by kernel_rfl
    have hc2 : Try.prog.cellsOf 49 = 1 := by kernel_rfl
    have hc3 : Try.prog.cellsOf 4 = 1 := by kernel_rfl
    have hc4 : Try.prog.cellsOf 50 = 1 := by kernel_rfl
    simp only [if_true] at hmm
    rw [hC] at hi
    have key : ∀ i, i < len → ∃ e : Stb, W.cell? (x.add (i * 5)) = some (.int .i64 e.o) ∧ W.cell? ((x.add (i * 5)).add 1) = some (.int .u64 e.n) ∧ W.cell? ((x.add (i * 5)).add 2) = some (.bool e.r) ∧ W.cell? ((x.add (i * 5)).add 3) = some (.int .i64 e.d) ∧ ∃ iv, W.cell? ((x.add (i * 5)).add 4) = some iv ∧ InsV W iv e.ins := by
      intro i hil
      obtain ⟨cs, hc, ht⟩ := hi i (by omega)
      obtain ⟨_, hcl, hat⟩ := World.cells?_some hc
      obtain ⟨ys, n', _, _, _, hyl, hfl⟩ := DataW.trod_struct Try.underlying52 ht
      match ys, hyl with
      | [y0, y1, y2, y3, y4], _ =>
        have f0 := hfl 0 _ rfl
        have f1 := hfl 1 _ rfl
        have f2 := hfl 2 _ rfl
        have f3 := hfl 3 _ rfl
        have f4 := hfl 4 _ rfl
        obtain ⟨p, a0, _⟩ := int_field Try.underlying3 f0 hc1 rfl
        obtain ⟨q, a1, _⟩ := int_field Try.underlying49 f1 hc2 rfl
        obtain ⟨r, a2⟩ := bool_field Try.underlying4 f2 hc3 rfl
        obtain ⟨d, a3, _⟩ := int_field Try.underlying3 f3 hc1 rfl
        obtain ⟨iv, ins, e4, hins⟩ := open_insF (f4.trans rfl)
        have a4 := one_at (m := Try.prog.cellsOf 50) e4 hc4
        refine ⟨⟨p, q, r, d, ins⟩, ?_, ?_, ?_, ?_, iv, ?_, hins⟩
        · simpa [add_add] using (hat 0 (by omega)).trans a0
        · simpa [add_add] using (hat 1 (by omega)).trans a1
        · simpa [add_add] using (hat 2 (by omega)).trans a2
        · simpa [add_add] using (hat 3 (by omega)).trans a3
        · simpa [add_add] using (hat 4 (by omega)).trans a4
    obtain ⟨l, hll, hlp⟩ := list_of len key
    refine ⟨_, l, hcs, some x, cap, by rw [hll], by omega, by unfold maxLen at hm; exact hm, fun e => (by cases e), ?_⟩
    by_cases h0 : len = 0
    · exact .inl (List.length_eq_zero_iff.1 (by omega))
    · have e0 := (hlp 0 _ (List.getElem?_eq_getElem (by omega))).1
      obtain ⟨xb, xo, xs⟩ := x
      have hspot : xs = none := by simpa [Addr.add] using World.cell?_spot e0
      subst hspot
      refine .inr ⟨xb, xo, rfl, fun i o ho => ?_⟩
      have hq := hlp i o ho
      simp only [Addr.add_lit] at hq
      exact hq
theorem open_stbs {H : Type} {enc : TypeId × Value → H} {W : World} {v : Value} {d : DataW H} {p : List MemPlace} {r : Reach} {b0 : Nat} (hv : Value.okWide Try.prog W r b0 40 v) (h : DataW.Trod enc Try.prog W 0 (fun _ => true) true 40 v d p) :
    ∃ l : List Stb, StbV W v l := by
  obtain ⟨a, len, cap, rfl⟩ := okWide_slice Try.underlying40 hv
  obtain ⟨fuel, hf⟩ := h
  obtain ⟨iv, l, e, hl⟩ := open_stbF hf
  simp [Value.cells] at e
  exact ⟨l, by rw [e]; exact hl⟩
set_option maxRecDepth 100000 in
theorem open_summary {H : Type} {enc : TypeId × Value → H} {W : World} {v : Value} {d : DataW H} {p : List MemPlace} {r : Reach} {b0 : Nat} (hv : Value.okWide Try.prog W r b0 42 v) (h : DataW.Trod enc Try.prog W 0 (fun _ => true) true 42 v d p) :
    ∃ (ep : Int) (u : Value) (l : List Stb), v = .agg #[.int .i64 ep, u] ∧ StbV W u l := by
  have hC : Try.prog.cellsOf 42 = 2 := by kernel_rfl
  have hc1 : Try.prog.cellsOf 3 = 1 := by kernel_rfl
  have hc2 : Try.prog.cellsOf 40 = 1 := by kernel_rfl
  obtain ⟨cs, rfl, hsz⟩ := okWide_struct Try.underlying42 hv
  obtain ⟨fuel, hf⟩ := h
  rw [hC] at hsz
  obtain ⟨ys, n', _, _, _, hyl, hfl⟩ := DataW.trod_struct Try.underlying42 hf
  match ys, hyl with
  | [y0, y1], _ =>
    have f0 := hfl 0 _ rfl
    have f1 := hfl 1 _ rfl
    obtain ⟨ep, a0, _⟩ := int_field Try.underlying3 f0 hc1 rfl
    obtain ⟨u, l, e1, hl⟩ := open_stbF (f1.trans rfl)
    have a1 := one_at (m := Try.prog.cellsOf 40) e1 hc2
    simp only [Value.cells] at a0 a1
    refine ⟨ep, u, l, ?_, hl⟩
    obtain ⟨cs⟩ := cs
    match cs, hsz with
    | [x0, x1], _ =>
      simp at a0 a1
      rw [a0, a1]
end Go.Proofs.Ytbkfjhbebhnijaa
