/-
  One more at a queue's end, at a step of a region that draws.
-/
import Derived.Test.YtbkfjhbebhnijaaDsN
namespace Go.Proofs.Ytbkfjhbebhnijaa
open Go.RowKit Go.Maps Go.WideElems Go.ChangeShapes Go.MapKept
set_option linter.unusedSimpArgs false
set_option linter.unusedVariables false

theorem run_append_q {w : World} (ty : TypeId) {base : Nat} {q : List Int} {v : Value} (hq : QAt w base v q) (y : Int) (ad : Addr) (hc : w.cell? ad = some (.int .i64 y)) (hb : base ≤ w.heap.size) (hl : q.length ≤ 100000) :
    ∃ v' w', (Builtin.append_ #[22, 22] ty #[v, .slice (some ad) 1 1]).run Try.prog w = .ok v' w' ∧ QAt w' base v' (q ++ [y]) ∧ Below base w w' := by
  obtain ⟨i0, hi, hz0, hz1, hz2⟩ := info_parts int31_info
  have hml : maxLen = 9223372036854775807 := rfl
  have hnews : ∀ j u, [Value.int .i64 y][j]? = some u → w.cell? (ad.add j) = some u := fun j u hj => by
    cases j with
    | zero => cases hj; rw [show ad.add 0 = ad from by cases ad; rfl]; exact hc
    | succ j => simp at hj
  have h1c : ∀ u ∈ [Value.int .i64 y], u.oneCell' = true := fun u hu => by rw [List.mem_singleton.1 hu]; rfl
  have hmap : q.map (Value.int .i64) ++ [Value.int .i64 y] = (q ++ [y]).map (Value.int .i64) := by rw [List.map_append]; rfl
  rcases hq with ⟨rfl, rfl⟩ | ⟨b, off, cap, cs, rfl, q1, q2, q3, q4, q5, q6⟩
  · obtain ⟨v', w', hrun, r1, r2, _⟩ := run_append_own (P := Try.prog) w w.heap.size 22 ty 3 i0 (.int .i64 0) 1 8 Try.underlying22 hi hz0 hz1 hz2 rfl (by decide) (.slice none 0 0) 0 [] (World.ownsRow_nil w _ _ _) ad 1 1 [.int .i64 y] rfl hnews h1c (by omega) (by omega) (Nat.le_refl _)
    exact ⟨v', w', hrun, q_of_row hb (by simpa using r1) rfl (by simp), grown_below r2 hb⟩
  · have ho : ∀ j u, (q.map (Value.int .i64))[j]? = some u → w.cell? ⟨b, off + j, none⟩ = some u := fun j u hj => by
      rw [List.getElem?_map] at hj
      obtain ⟨z, hz, rfl⟩ := Option.map_eq_some_iff.1 hj
      rw [cell_of_block q2]
      exact q6 j z hz
    by_cases hr : q.length + 1 ≤ cap
    · have hrun := run_append_room_cells (P := Try.prog) w 22 ty 3 i0 Try.underlying22 hi b off q.length cap ad 1 1 [.int .i64 y] (by rw [hz1]; rfl) hnews h1c hr (fun j hj => by
        have hj0 : j = 0 := by simpa using hj
        subst hj0
        rw [hz1, cell_of_block q2, Array.getElem?_eq_getElem (by omega)]
        rfl) (fun j hj => frozen_of_block q2 _)
      have hw : w.setCells b (off + q.length * 1) [Value.int .i64 y] = w.setCell ⟨b, off + q.length, none⟩ (.int .i64 y) := by simp [World.setCells]
      rw [hz1, hw] at hrun
      refine ⟨_, _, hrun, .inr ⟨b, off, cap, cs.set! (off + q.length) (.int .i64 y), by rw [List.length_append]; rfl, q1, block_set q2, by simpa using q3, by rw [List.length_append]; exact hr, q5, fun i z hz => ?_⟩, Below.setCell (Below.refl _ _) q1 _⟩
      by_cases hi : i < q.length
      · rw [List.getElem?_append_left hi] at hz
        rw [Array.set!_eq_setIfInBounds, Array.getElem?_setIfInBounds_ne (by omega)]
        exact q6 i z hz
      · rw [List.getElem?_append_right (by omega)] at hz
        have hi2 : i = q.length := by have := (List.getElem?_eq_some_iff.1 hz).1; simp at this; omega
        subst hi2
        rw [Nat.sub_self] at hz
        cases hz
        rw [Array.set!_eq_setIfInBounds, Array.getElem?_setIfInBounds_self, if_pos (by omega)]
    · obtain ⟨v', w', hrun, r1, r2⟩ := run_append_arg_grows (P := Try.prog) w 22 ty 3 i0 (.int .i64 0) 1 8 Try.underlying22 hi hz0 hz1 hz2 rfl (by decide) ⟨b, off, none⟩ q.length cap (q.map (Value.int .i64)) (by simp) (fun j u hj => by rw [Addr.add_lit]; exact ho j u hj) ad 1 1 [.int .i64 y] rfl hnews (by omega) (by omega) (by omega)
      rw [hmap] at r1
      exact ⟨v', w', hrun, q_of_row hb r1 (by simp) (by omega), grown_below r2 hb⟩
theorem oper_append_row {w : World} {ops : Array Oper} {o : Oper} {a : Act} {K : Act → World → Prop} {Q : Exit → Act → World → Prop} {X : Prop} (hgd : o.guard = none) (s x : Operand)
    (ho : o.op = .call { callee := .builtin .append, args := #[s, x], argTypes := #[22, 22] })
    {base : Nat} {wb : World} {q : List Int} {v : Value} (hs : a.eval s = v) (y : Int) (W0 : World) (hw : w = W0.alloc (.cells #[.int .i64 y] 3)) (hq : QAt W0 base v q) {g : Nat} (hx : a.eval x = .slice (some ⟨g, 0, none⟩) 1 1) (hg : W0.heap.size = g)
    (hbl : Below base wb W0) (hb : base ≤ W0.heap.size) (hl : q.length ≤ 100000)
    (h : ∀ v' w', QAt w' base v' (q ++ [y]) → Below base wb w' → W0.heap.size ≤ w'.heap.size → K (a.put o.dst v') w') :
    if Region.wanted o (yielded ops a.tmps) = true then Oper.wp Try.prog o a w K Q else X := by
  have hwt : Region.wanted o (yielded ops a.tmps) = true := by simp [Region.wanted, hgd]
  rw [if_pos hwt]
  subst hw hg
  obtain ⟨v', w', hr, h1, h2⟩ := run_append_q o.type (hq.alloc _) y ⟨W0.heap.size, 0, none⟩ (cell_one_new W0 (.int .i64 y) 3 0 _ rfl) (by rw [World.size_alloc]; omega) hl
  unfold Oper.wp execOp
  simp only [ho, resolve, invoke, builtin, Sem.run_bind, Sem.run_pure, Result.andThen_ok, List.map_toArray, List.map_cons, List.map_nil, hs, hx, hr]
  refine h v' w' h1 ((hbl.alloc hb _).trans h2) (Nat.le_trans ?_ h2.size)
  rw [World.size_alloc]; omega
end Go.Proofs.Ytbkfjhbebhnijaa
