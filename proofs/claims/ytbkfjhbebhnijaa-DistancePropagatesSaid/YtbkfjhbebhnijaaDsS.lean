/-
  A set of integers that a call keeps in a map of its own (map[int]bool). Plain laws over the kit's maps.
-/
import Derived.Test.YtbkfjhbebhnijaaDsG
import Derived.Maps.Views
import Derived.Maps.OwnOps
namespace Go.Proofs.Ytbkfjhbebhnijaa
open Go.RowKit Go.Maps
set_option linter.unusedSimpArgs false
set_option linter.unusedVariables false

theorem seen_law : Keyed Try.prog 3 := int_keyed Try.underlying3
/-- Block b is a map that holds true at the numbers of S, and nothing else. -/
def SeenAt (w : World) (b : Nat) (S : List Int) : Prop :=
  ∃ D : DataW Unit, w.ownsMap Try.prog 3 (plainElem Try.prog 4) b S.length D ∧ IsMap D ∧ ∀ x : Int, D.atKey (.int .i64 x) (.lit (.bool false)) = .lit (.bool (decide (x ∈ S)))
theorem seen_made (w : World) : SeenAt (w.alloc (.map #[] 0)) w.heap.size [] :=
  ⟨.map [], World.ownsMap_made w _ _ _, isMap_empty, fun x => by simp [DataW.atKey]⟩
theorem SeenAt.kept {w w' : World} {b : Nat} {S : List Int} {row : Option Nat} (h : SeenAt w b S) (hg : w.grownBy w' row) (hne : some b ≠ row) : SeenAt w' b S := by
  obtain ⟨D, h1, h2, h3⟩ := h
  exact ⟨D, h1.kept hg hne, h2, h3⟩
theorem grown_of {W w1 : World} (hb : Below W.heap.size W w1) : W.grownBy w1 none := ⟨hb.os, hb.tape, hb.output, hb.size, fun k hk _ => hb.block k hk⟩
theorem SeenAt.below {w w' : World} {b : Nat} {S : List Int} (h : SeenAt w b S) (hb : Below w.heap.size w w') : SeenAt w' b S := h.kept (grown_of hb) (by simp)
theorem SeenAt.lt {w : World} {b : Nat} {S : List Int} (h : SeenAt w b S) : b < w.heap.size := by
  obtain ⟨D, h1, _⟩ := h
  exact h1.lt
theorem plainElem_bool_inv {H : Type} {P : Program} {e : TypeId} (he : P.underlying e = some .bool) {v : Value} {z : DataW H × List MemPlace} (h : plainElem P e v = some z) : ∃ x, v = .bool x ∧ z = (.lit (.bool x), []) := by
  unfold plainElem at h
  rw [he] at h
  cases v <;> simp at h
  exact ⟨_, rfl, h.symm⟩
theorem seen_zero (w : World) : (zeroValue 4).run Try.prog w = .ok (.bool false) w := by kernel_rfl
theorem wf_i64 {x : Int} (h : -9223372036854775808 ≤ x ∧ x ≤ 9223372036854775807) : (Lit.int .i64 x).wf = true := by
  simp [Lit.wf, IntKind.min, IntKind.max, IntKind.signed, IntKind.bits]
  omega
theorem SeenAt.look {w : World} {b : Nat} {S : List Int} (h : SeenAt w b S) {x : Int} (hx : -9223372036854775808 ≤ x ∧ x ≤ 9223372036854775807) :
    (Instr.lookup 56 (.map (some b)) (.int .i64 x) false).run Try.prog w = .ok (.bool (decide (x ∈ S))) w := by
  obtain ⟨D, h1, _, h3⟩ := h
  obtain ⟨v, ps, hrun, hv⟩ := h1.lookup seen_law Try.underlying56 (seen_zero w) (plainElem_bool Try.underlying4 false) (keyOf_int_mk Try.underlying3 (wf_i64 hx))
  rw [h3 x] at hv
  obtain ⟨y, rfl, hy⟩ := plainElem_bool_inv Try.underlying4 hv
  simp only [Prod.mk.injEq, DataW.lit.injEq, Lit.bool.injEq] at hy
  rw [hrun, hy.1]
theorem wpList_seen {w : World} {ops : Array Oper} {rest : List Oper} {o : Oper} {a : Act} {Q : Exit → Act → World → Prop}
    (hg : o.guard = none) (m x v : Operand) (hop : o.op = Op.mapUpdate 56 m x v) (b : Nat) (S : List Int) (hm : a.eval m = .map (some b)) (hown : SeenAt w b S) (hn : S.length < maxLen) (k : Int) (hx : a.eval x = .int .i64 k) (hv : a.eval v = .bool true)
    (hk : -9223372036854775808 ≤ k ∧ k ≤ 9223372036854775807)
    (hK : ∀ w', SeenAt w' b (S ++ [k]) → w.grownBy w' (some b) → wpList Try.prog ops Q rest (a.put o.dst undef) w') :
    wpList Try.prog ops Q (o :: rest) a w := by
  obtain ⟨D, h1, h2, h3⟩ := hown
  refine wpList_mapUpdate_own w hg m x v 56 hop 3 4 seen_law Try.underlying56 (plainElem Try.prog 4) b S.length D hm h1 hn (.int .i64 k) (.bool true) (.int .i64 k) hx hv (keyOf_int_mk Try.underlying3 (wf_i64 hk)) (.lit (.bool true)) [] (plainElem_bool Try.underlying4 true) ?_
  intro w' h4 h5
  refine hK w' ⟨_, by simpa using h4, h2.put _ _, fun y => ?_⟩ h5
  by_cases hy : y = k
  · subst hy
    rw [atKey_put_same h2 (by first | exact .inr (.inl ⟨_, _, rfl⟩) | simp [WideAt.IsKeyLit])]
    simp
  · rw [atKey_put_other (by simpa using hy), h3 y]
    simp [hy]
end Go.Proofs.Ytbkfjhbebhnijaa
