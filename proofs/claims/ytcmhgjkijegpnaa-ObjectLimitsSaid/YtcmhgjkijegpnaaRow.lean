/-
  Rows behind a call that makes memory alone; words of a row in bounds.
-/
import Derived.Test.YtcmhgjkijegpnaaSp5
import Derived.RangeFuncBox
import Derived.Maps.AppendAt
import Derived.BigQuiet
namespace Go.Proofs.Ytcmhgjkijegpnaa
open Go.RowKit
set_option linter.unusedSimpArgs false
set_option linter.unusedVariables false

theorem grown_of {A B : World} (h : Below A.heap.size A B) : A.grownBy B none := ⟨h.os, h.tape, h.output, h.size, fun k hk _ => h.block k hk⟩
theorem row_below {A B : World} {N : Nat} {e : TypeId} {sz : Nat} {v : Value} {n : Nat} {xs : List Value} (h : A.ownsRow N e sz v n xs) (hb : Below A.heap.size A B) : B.ownsRow N e sz v n xs := by
  refine h.kept (grown_of hb) ?_
  cases hvb : v.ownBlock with
  | none => exact .inl rfl
  | some x => exact .inr (by simp)
theorem row_base {A : World} {N B : Nat} {e : TypeId} {sz : Nat} {v : Value} {n : Nat} {xs : List Value} (h : A.ownsRow N e sz v n xs) (hB : B ≤ N) : A.ownsRow B e sz v n xs := by
  obtain ⟨h1, h2⟩ := h
  refine ⟨h1, ?_⟩
  rcases h2 with h2 | ⟨g, c, cur, hv, hg, h3⟩
  · exact .inl h2
  · exact .inr ⟨g, c, cur, hv, Nat.le_trans hB hg, h3⟩
theorem getD_u64 {ws : List Int} (h : ∀ x ∈ ws, U64 x) (i : Nat) : U64 (ws.getD i 0) := by
  rw [List.getD_eq_getElem?_getD]
  cases hx : ws[i]? with
  | none => exact U64.of (by simp) (by simp)
  | some x => exact h x (List.mem_of_getElem? hx)
end Go.Proofs.Ytcmhgjkijegpnaa
