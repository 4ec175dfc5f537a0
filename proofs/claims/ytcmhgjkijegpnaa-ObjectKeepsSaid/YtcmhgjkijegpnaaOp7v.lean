/-
  An operation of law 07 that came in by value, opened to its cells.
-/
import Derived.Test.YtcmhgjkijegpnaaGI
import Derived.Lib.SmallJoins
namespace Go.Proofs.Ytcmhgjkijegpnaa
open Go.ChangeShapes Go.WideShapes Go.ChangeAt Go.RowKit Go.Joins
set_option linter.unusedSimpArgs false
set_option linter.unusedVariables false

theorem list11 {α : Type} {cs : Array α} (h : cs.size = 11) : ∃ c0 c1 c2 c3 c4 c5 c6 c7 c8 c9 c10, cs = #[c0, c1, c2, c3, c4, c5, c6, c7, c8, c9, c10] := by
  obtain ⟨l⟩ := cs
  match l, h with
  | [c0, c1, c2, c3, c4, c5, c6, c7, c8, c9, c10], _ => exact ⟨c0, c1, c2, c3, c4, c5, c6, c7, c8, c9, c10, rfl⟩
set_option maxRecDepth 100000 in
theorem open_op7 {H : Type} {enc : TypeId × Value → H} {W : World} {v : Value} {d : DataW H} {p : List MemPlace} {r : Reach} {b0 : Nat} (hv : Value.okWide Try.prog W r b0 58 v) (h : DataW.Trod enc Try.prog W 0 (fun _ => true) true 58 v d p) :
    ∃ (kd k c f m s a b i u : Int) (raw : Bool), v = .agg #[.int .i64 kd, .int .i64 k, .int .i64 c, .int .i64 f, .int .i64 m, .int .i64 s, .int .i64 a, .int .i64 b, .int .i64 i, .int .u64 u, .bool raw] ∧ U64 u := by
  have hC : Try.prog.cellsOf 58 = 11 := by kernel_rfl
  have hCH : Try.prog.cellsOf 23 = 3 := by kernel_rfl
  have hCI : Try.prog.cellsOf 25 = 2 := by kernel_rfl
  have hc1 : Try.prog.cellsOf 3 = 1 := by kernel_rfl
  have hc2 : Try.prog.cellsOf 4 = 1 := by kernel_rfl
  have hc3 : Try.prog.cellsOf 56 = 1 := by kernel_rfl
  obtain ⟨cs, rfl, hsz⟩ := okWide_struct Try.underlying58 hv
  obtain ⟨fuel, hf⟩ := h
  obtain ⟨v0, v1, v2, v3, v4, v5, v6, v7, v8, v9, v10, rfl⟩ := list11 (hsz.trans hC)
  obtain ⟨ys, n', _, _, _, hyl, hfl⟩ := DataW.trod_struct Try.underlying58 hf
  match ys, hyl with
  | [y0, y1, y2, y3, y4, y5, y6, y7], _ =>
    have f0 := hfl 0 _ rfl
    have f1 := hfl 1 _ rfl
    have f2 := hfl 2 _ rfl
    have f3 := hfl 3 _ rfl
    have f4 := hfl 4 _ rfl
    have f5 := hfl 5 _ rfl
    have f6 := hfl 6 _ rfl
    have f7 := hfl 7 _ rfl
    obtain ⟨kd, a0, _⟩ := int_field Try.underlying3 f0 hc1 rfl
    obtain ⟨aa, a6, _⟩ := int_field Try.underlying3 f3 hc1 rfl
    obtain ⟨bb, a7, _⟩ := int_field Try.underlying3 f4 hc1 rfl
    obtain ⟨ii, a8, _⟩ := int_field Try.underlying3 f5 hc1 rfl
    obtain ⟨uu, a9, wu⟩ := int_field Try.underlying56 f6 hc3 rfl
    obtain ⟨rr, a10⟩ := bool_field Try.underlying4 f7 hc2 rfl
    obtain ⟨zs, n1, _, _, _, hzl, hfz⟩ := DataW.trod_struct Try.underlying23 f1
    obtain ⟨is, n2, _, _, _, his, hfi⟩ := DataW.trod_struct Try.underlying25 f2
    match zs, hzl, is, his with
    | [z0, z1, z2], _, [i0, i1], _ =>
      have g0 := hfz 0 _ rfl
      have g1 := hfz 1 _ rfl
      have g2 := hfz 2 _ rfl
      have g3 := hfi 0 _ rfl
      have g4 := hfi 1 _ rfl
      obtain ⟨kk, a1, _⟩ := int_field Try.underlying3 g0 hc1 rfl
      obtain ⟨cc, a2, _⟩ := int_field Try.underlying3 g1 hc1 rfl
      obtain ⟨ff, a3, _⟩ := int_field Try.underlying3 g2 hc1 rfl
      obtain ⟨mm, a4, _⟩ := int_field Try.underlying3 g3 hc1 rfl
      obtain ⟨ss, a5, _⟩ := int_field Try.underlying3 g4 hc1 rfl
      have b1 := sub_field a1
      have b2 := sub_field a2
      have b3 := sub_field a3
      have b4 := sub_field a4
      have b5 := sub_field a5
      clear f0 f1 f2 f3 f4 f5 f6 f7 g0 g1 g2 g3 g4 hfl hfz hfi a1 a2 a3 a4 a5 hf
      have e0 : v0 = .int .i64 kd := Option.some.inj a0
      have e1 : v1 = .int .i64 kk := Option.some.inj b1
      have e2 : v2 = .int .i64 cc := Option.some.inj b2
      have e3 : v3 = .int .i64 ff := Option.some.inj b3
      have e4 : v4 = .int .i64 mm := Option.some.inj b4
      have e5 : v5 = .int .i64 ss := Option.some.inj b5
      have e6 : v6 = .int .i64 aa := Option.some.inj a6
      have e7 : v7 = .int .i64 bb := Option.some.inj a7
      have e8 : v8 = .int .i64 ii := Option.some.inj a8
      have e9 : v9 = .int .u64 uu := Option.some.inj a9
      have e10 : v10 = .bool rr := Option.some.inj a10
      exact ⟨kd, kk, cc, ff, mm, ss, aa, bb, ii, uu, rr, by rw [e0, e1, e2, e3, e4, e5, e6, e7, e8, e9, e10], u64_wf wu⟩
end Go.Proofs.Ytcmhgjkijegpnaa
