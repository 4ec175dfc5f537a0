/-
  The statement HeaderSame: for every input the Go function returns true and its arguments read as before. No condition.
-/
import Derived.Test.YtogihldcphgoeaaRows
import Derived.Test.YtogihldcphgoeaaLaw5
import Derived.ProofKit
import Derived.OpenShut
import Derived.Lib.SmallJoins
import Derived.ChangeOld
import Derived.Below
namespace Go.Proofs.Ytogihldcphgoeaa.headerSame
open Go.ChangeShapes Go.WideShapes Go.ChangeAt Go.RowKit Go.Joins
set_option linter.unusedSimpArgs false
set_option linter.unusedVariables false

theorem own : ownKnob Try.prog.godebug = none := by kernel_rfl
theorem laidOut : laidOutB Try.prog = true := by kernel_rfl
theorem u64_of_wf {x : Int} (h : (Lit.int .u64 x).wf = true) : U64 x := by
  simp [Lit.wf, IntKind.min, IntKind.max, IntKind.signed, IntKind.bits] at h
  exact ⟨by omega, by omega⟩

theorem walk (m s m2 s2 : Int) (w : World) : Calls Try.prog 7 #[.agg #[.int .i64 m, .int .i64 s], .agg #[.int .i64 m2, .int .i64 s2]] w fun e w' => e = .returned (.bool true) ∧ Below w.heap.size w w' := by
  cases h : idB m s <;> cases g : idB m2 s2
  · exact headerSame_no_no m s m2 s2 h g w
  · exact headerSame_no_yes m s m2 s2 h g w
  · exact headerSame_yes_no m s m2 s2 h g w
  · by_cases e1 : m = m2
    · subst e1
      by_cases e2 : s = s2
      · subst e2
        exact headerSame_eqsame m s h w
      · exact headerSame_eqs m s s2 h g e2 w
    · exact headerSame_eqm m s m2 s2 h g e1 w

set_option maxRecDepth 100000 in
theorem lifted (os : Os) (started : os.Started) (H : Type) (enc : TypeId × Value → H) :
    ReturnsInHanded {} Try.checked os 7 .any (Rows.headerSameSpec.pre6 enc Try.prog Try.f7 Rows.headerSameRow.domain false) (Rows.headerSameSpec.post enc Try.prog Try.f7 false true false false) := by
  refine returnsInHanded_of_change (C := Try.checked) own started (by kernel_rfl) Try.func7
    (ChangeSpec.witness6 (enc := enc) (C := Try.checked) false ⟨#[], #[.agg #[.int .i64 0, .int .i64 0], .agg #[.int .i64 0, .int .i64 0]], []⟩ 8 (by kernel_rfl) (by kernel_rfl) (by kernel_rfl) (by kernel_rfl)) ?_
  intro W base args ds gs before hval0 hW hcnd hreach
  have hval : ∀ (j : Nat) t v, Try.f7.params[j]? = some t → args[j]? = some v → Value.okWide Try.prog W .any base t v := hval0
  have hW' := hW
  obtain ⟨p, q, hA0, hV, rfl, hfz, hnd⟩ := hW
  have hA : DataW.TrodAll enc Try.prog W 0 (fun _ => true) true Try.f7.params.toList args.toList ds p := hA0
  rw [Try.params7] at hA hval
  obtain ⟨v0, vs0, d0, ds0, p0, q0, hargs, rfl, rfl, h0, r0⟩ := trodAll_cons hA
  obtain ⟨v1, vs1, d1, ds1, p1, q1, rfl, rfl, rfl, h1, r1⟩ := trodAll_cons r0
  obtain ⟨rfl, rfl, rfl⟩ := trodAll_nil r1
  obtain rfl : args = #[v0, v1] := by cases args; simp_all
  obtain ⟨rfl, rfl⟩ := trodVars_none hV
  have k0 := h0
  have lt0 : ∀ x ∈ p0, x.block < W.heap.size := by obtain ⟨m, hm⟩ := k0; exact DataW.trod_lt m _ _ _ hm
  obtain ⟨c0_0, c0_1, y0_0, y0_1, nn0, rfl, hd0, hp0, g0_0, g0_1⟩ := open_agg2 Try.underlying37 (by kernel_rfl) (by kernel_rfl) (hval 0 37 v0 rfl rfl) h0
  obtain ⟨m, e0_0, z0_0, wf0_0⟩ := DataW.trod_int Try.underlying3 g0_0
  simp only [List.cons.injEq, and_true] at e0_0
  subst e0_0
  obtain ⟨s, e0_1, z0_1, wf0_1⟩ := DataW.trod_int Try.underlying3 g0_1
  simp only [List.cons.injEq, and_true] at e0_1
  subst e0_1
  have k1 := h1
  have lt1 : ∀ x ∈ p1, x.block < W.heap.size := by obtain ⟨m, hm⟩ := k1; exact DataW.trod_lt m _ _ _ hm
  obtain ⟨c1_0, c1_1, y1_0, y1_1, nn1, rfl, hd1, hp1, g1_0, g1_1⟩ := open_agg2 Try.underlying37 (by kernel_rfl) (by kernel_rfl) (hval 1 37 v1 rfl rfl) h1
  obtain ⟨m2, e1_0, z1_0, wf1_0⟩ := DataW.trod_int Try.underlying3 g1_0
  simp only [List.cons.injEq, and_true] at e1_0
  subst e1_0
  obtain ⟨s2, e1_1, z1_1, wf1_1⟩ := DataW.trod_int Try.underlying3 g1_1
  simp only [List.cons.injEq, and_true] at e1_1
  subst e1_1
  clear hA0 hval0
  refine (walk m s m2 s2 W).mono fun e W' ⟨he, bel⟩ => ?_
  subst he
  exact ⟨_, rfl, _, _, _, [], _, [], hW', trodAll_mk1 (shut_bool Try.underlying4 _), (trodAll_cons_mk (Below.trod laidOut (by kernel_rfl) (of_decide_eq_true (by kernel_rfl)) k0 bel lt0) (trodAll_cons_mk (Below.trod laidOut (by kernel_rfl) (of_decide_eq_true (by kernel_rfl)) k1 bel lt1) trodAll_mk0)), rfl, bel.frame _, fun h => by cases h⟩

/-- THE STATEMENT. -/
theorem proved : Rows.HeaderSameSaid :=
  OpenClaim.holds_of_wide 7 Try.f7 rfl rfl rfl rfl rfl rfl rfl ⟨rfl, rfl, rfl, rfl, rfl⟩ rfl rfl rfl rfl rfl (by kernel_rfl) Try.func7 (by kernel_rfl)
    (of_decide_eq_true (by kernel_rfl)) (by unfold Func.isWrapper; first | (rw [if_pos (by decide +kernel)]; kernel_rfl) | (rw [if_neg (by decide +kernel)]; exact ⟨rfl, rfl⟩))
    (fun os started H enc _ => lifted os started H enc)
#print axioms proved
end Go.Proofs.Ytogihldcphgoeaa.headerSame
