/-
  law 31: the map of known distances, keyed by client and number. Plain laws over the kit's maps.
-/
import Derived.Test.YtbkfjhbebhnijaaDpA
namespace Go.Proofs.Ytbkfjhbebhnijaa
open Go.RowKit Go.Maps Go.WideElems Go.ChangeShapes Go.MapKept
set_option linter.unusedSimpArgs false
set_option linter.unusedVariables false

theorem dp_laid : laidOutB Try.prog = true := by kernel_rfl
theorem scion_row : (71 : TypeId) < Try.prog.types.size := of_decide_eq_true (by kernel_rfl)
theorem scion_wide : (match Try.prog.underlying 71 with | some (.array _ _) | some (.struct _) => true | _ => false) = true := by rw [Try.underlying71]
theorem scion_law : Keyed Try.prog 71 := Keyed.of_law (deep_law_laid dp_laid (m := 2) (by omega) scion_row (by kernel_rfl) scion_wide)
theorem scion_deep : Try.prog.keyType 71 = true := by kernel_rfl
theorem scion_cells : Try.prog.cellsOf 71 = 2 := by kernel_rfl
theorem dp_c1 : Try.prog.cellsOf 3 = 1 := by kernel_rfl
theorem dp_c2 : Try.prog.cellsOf 49 = 1 := by kernel_rfl
theorem known_zero (w : World) : (zeroValue 3).run Try.prog w = .ok (.int .i64 0) w := by kernel_rfl
def kL (c n : Int) : Lit := .string (keyBytes [.int .i64 c, .int .u64 n])
theorem wf_u64 {x : Int} (h : W64 x) : (Lit.int .u64 x).wf = true := by
  unfold W64 at h
  simp [Lit.wf, IntKind.min, IntKind.max, IntKind.signed, IntKind.bits]
  omega
theorem lits_of {c n : Int} (hc : I63 c) (hn : W64 n) (m : Nat) : Try.prog.keyLits (m + 2) 71 [.int .i64 c, .int .u64 n] = some [.int .i64 c, .int .u64 n] := by
  have h1 := wf_i64 hc
  have h2 := wf_u64 hn
  have a1 : Try.prog.keyLits (m + 1) 3 [.int .i64 c] = some [.int .i64 c] := by
    unfold Program.keyLits
    rw [Try.underlying3]
    simp [h1]
  have a2 : Try.prog.keyLits (m + 1) 49 [.int .u64 n] = some [.int .u64 n] := by
    unfold Program.keyLits
    rw [Try.underlying49]
    simp [h2]
  unfold Program.keyLits
  rw [Try.underlying71]
  simp [scion_cells, dp_c1, dp_c2, a1, a2]
theorem key_of {c n : Int} (hc : I63 c) (hn : W64 n) : keyOf Try.prog 71 (.agg #[.int .i64 c, .int .u64 n]) = some (kL c n) := by
  have hf : (Value.agg #[.int .i64 c, .int .u64 n]).formed Try.prog 71 = true := by simp [Value.formed, Try.underlying71, scion_cells]
  obtain ⟨m, hm⟩ : ∃ m, Try.prog.types.size + 1 = m + 2 := ⟨Try.prog.types.size - 1, by have : 0 < Try.prog.types.size := Nat.lt_of_le_of_lt (Nat.zero_le _) scion_row; omega⟩
  unfold keyOf
  rw [Try.underlying71]
  simp only [scion_deep, hf, Bool.and_self, if_true, hm, Value.cells]
  rw [lits_of hc hn]
  rfl
theorem kL_inj {c n c' n' : Int} (hc : I63 c) (hn : W64 n) (hc' : I63 c') (hn' : W64 n') (h : kL c n = kL c' n') : c = c' ∧ n = n' := by
  have := scion_law.inj (key_of hc hn) (by rw [h]; exact key_of hc' hn')
  simpa using this
def knO (S : List Sce) (c n : Int) : Int := match S.find? (isOf c n) with
  | some e => e.d
  | none => 0
theorem dOf_yes {S : List Sce} {c n : Int} (h : (S.find? (isOf c n)).isSome = true) : dOf c n S = knO S c n := by
  unfold dOf knO
  obtain ⟨e, he⟩ := Option.isSome_iff_exists.1 h
  rw [he]
theorem dOf_no {S : List Sce} {c n : Int} (h : (S.find? (isOf c n)).isSome = false) : dOf c n S = 1048576 := by
  unfold dOf
  have : S.find? (isOf c n) = none := by simpa using h
  rw [this]
/-- Block b is a map that holds the first distance of each client and number of S. -/
def KnownAt (w : World) (b : Nat) (S : List Sce) : Prop :=
  ∃ D : DataW Unit, w.ownsMap Try.prog 71 (plainElem Try.prog 3) b S.length D ∧ IsMap D ∧ ∀ c n : Int, I63 c → W64 n → has D (kL c n) = (S.find? (isOf c n)).isSome ∧ D.atKey (kL c n) (.lit (.int .i64 0)) = .lit (.int .i64 (knO S c n))
theorem known_made (w : World) : KnownAt (w.alloc (.map #[] 0)) w.heap.size [] :=
  ⟨.map [], World.ownsMap_made w _ _ _, isMap_empty, fun c n _ _ => ⟨by simp [has], by simp [DataW.atKey, knO]⟩⟩
theorem KnownAt.kept {w w' : World} {b : Nat} {S : List Sce} {row : Option Nat} (h : KnownAt w b S) (hg : w.grownBy w' row) (hne : some b ≠ row) : KnownAt w' b S := by
  obtain ⟨D, h1, h2, h3⟩ := h
  exact ⟨D, h1.kept hg hne, h2, h3⟩
theorem KnownAt.below {w w' : World} {b : Nat} {S : List Sce} (h : KnownAt w b S) (hb : Below w.heap.size w w') : KnownAt w' b S := h.kept (grown_of hb) (by simp)
theorem KnownAt.lt {w : World} {b : Nat} {S : List Sce} (h : KnownAt w b S) : b < w.heap.size := by
  obtain ⟨D, h1, _⟩ := h
  exact h1.lt
theorem KnownAt.look {w : World} {b : Nat} {S : List Sce} (h : KnownAt w b S) {c n : Int} (hc : I63 c) (hn : W64 n) :
    (Instr.lookup 64 (.map (some b)) (.agg #[.int .i64 c, .int .u64 n]) true).run Try.prog w = .ok (.tuple #[.int .i64 (knO S c n), .bool (S.find? (isOf c n)).isSome]) w := by
  obtain ⟨D, h1, _, h3⟩ := h
  obtain ⟨v, ps, hrun, hv⟩ := h1.look_ok scion_law Try.underlying64 (known_zero w) (plainElem_int Try.underlying3 (by decide)) (key_of hc hn)
  obtain ⟨e1, e2⟩ := h3 c n hc hn
  rw [e2] at hv
  obtain ⟨y, rfl, hy, _⟩ := plainElem_int_inv Try.underlying3 hv
  simp only [Prod.mk.injEq, DataW.lit.injEq, Lit.int.injEq] at hy
  rw [hrun, e1, hy.1.2]
theorem find_app {S : List Sce} {x : Sce} {c n : Int} : (S ++ [x]).find? (isOf c n) = match S.find? (isOf c n) with
    | some e => some e
    | none => if isOf c n x then some x else none := by
  rw [List.find?_append]
  cases S.find? (isOf c n) with
  | none => cases h : isOf c n x <;> simp [h]
  | some e => simp
theorem isOf_eq {c n : Int} {x : Sce} : isOf c n x = true ↔ x.c = c ∧ x.n = n := by simp [isOf]
theorem KnownAt.again {w : World} {b : Nat} {S : List Sce} {x : Sce} (h : KnownAt w b S) (hx : (S.find? (isOf x.c x.n)).isSome = true) : KnownAt w b (S ++ [x]) := by
  obtain ⟨D, h1, h2, h3⟩ := h
  refine ⟨D, h1.mono (by simp), h2, fun c n hc hn => ?_⟩
  obtain ⟨e1, e2⟩ := h3 c n hc hn
  have : (S ++ [x]).find? (isOf c n) = S.find? (isOf c n) := by
    rw [find_app]
    cases hf : S.find? (isOf c n) with
    | some e => rfl
    | none =>
      cases hi : isOf c n x with
      | false => simp
      | true =>
        obtain ⟨rfl, rfl⟩ := isOf_eq.1 hi
        rw [hf] at hx
        cases hx
  unfold knO at e2 ⊢
  rw [this]
  exact ⟨e1, e2⟩
theorem wpList_known {w : World} {ops : Array Oper} {rest : List Oper} {o : Oper} {a : Act} {Q : Exit → Act → World → Prop}
    (hg : o.guard = none) (m x v : Operand) (hop : o.op = Op.mapUpdate 64 m x v) (b : Nat) (S : List Sce) (y : Sce) (hm : a.eval m = .map (some b)) (hown : KnownAt w b S) (hn : S.length < maxLen) (hx : a.eval x = .agg #[.int .i64 y.c, .int .u64 y.n]) (hv : a.eval v = .int .i64 y.d)
    (hc : I63 y.c) (hw : W64 y.n) (hd : I63 y.d) (hno : (S.find? (isOf y.c y.n)).isSome = false)
    (hK : ∀ w', KnownAt w' b (S ++ [y]) → w.grownBy w' (some b) → wpList Try.prog ops Q rest (a.put o.dst undef) w') :
    wpList Try.prog ops Q (o :: rest) a w := by
  obtain ⟨D, h1, h2, h3⟩ := hown
  have hkl : WideAt.IsKeyLit (kL y.c y.n) := scion_law.key (key_of hc hw)
  refine wpList_mapUpdate_own w hg m x v 64 hop 71 3 scion_law Try.underlying64 (plainElem Try.prog 3) b S.length D hm h1 hn (.agg #[.int .i64 y.c, .int .u64 y.n]) (.int .i64 y.d) (kL y.c y.n) hx hv (key_of hc hw) (.lit (.int .i64 y.d)) [] (plainElem_int Try.underlying3 (wf_i64 hd)) ?_
  intro w' h4 h5
  refine hK w' ⟨_, by simpa using h4, h2.put _ _, fun c n hc' hn' => ?_⟩ h5
  have hnone : S.find? (isOf y.c y.n) = none := by simpa using hno
  by_cases hy : y.c = c ∧ y.n = n
  · obtain ⟨rfl, rfl⟩ := hy
    rw [has_put_same h2 hkl, atKey_put_same h2 hkl]
    unfold knO
    rw [find_app, hnone]
    simp [isOf]
  · have hne : kL c n ≠ kL y.c y.n := fun e => hy (by obtain ⟨e1, e2⟩ := kL_inj hc' hn' hc hw e; exact ⟨e1.symm, e2.symm⟩)
    obtain ⟨e1, e2⟩ := h3 c n hc' hn'
    have hi : isOf c n y = false := by
      cases h : isOf c n y with
      | false => rfl
      | true => exact absurd (isOf_eq.1 h) hy
    have : (S ++ [y]).find? (isOf c n) = S.find? (isOf c n) := by
      rw [find_app, hi]
      cases S.find? (isOf c n) <;> simp
    unfold knO at e2 ⊢
    rw [has_put_other hne, atKey_put_other hne, this]
    exact ⟨e1, e2⟩
end Go.Proofs.Ytbkfjhbebhnijaa
