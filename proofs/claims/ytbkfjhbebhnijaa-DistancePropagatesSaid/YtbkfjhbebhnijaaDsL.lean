/-
  The queue of distance.Bound: a slice of the call's own that begins anywhere in its block; and the search's steps in plain Lean.
-/
import Derived.Test.YtbkfjhbebhnijaaDsK
import Derived.ArgAppend
namespace Go.Proofs.Ytbkfjhbebhnijaa
open Go.RowKit Go.Maps Go.WideElems Go.ChangeShapes Go.MapKept
set_option linter.unusedSimpArgs false
set_option linter.unusedVariables false

/-- A queue: nil, or some cells of a block from base on. -/
def QAt (w : World) (base : Nat) (v : Value) (q : List Int) : Prop :=
  (v = .slice none 0 0 ∧ q = []) ∨ ∃ (b off cap : Nat) (cs : Array Value), v = .slice (some ⟨b, off, none⟩) q.length cap ∧ base ≤ b ∧ w.heap[b]? = some (.cells cs 3 (0, 0)) ∧ off + cap ≤ cs.size ∧ q.length ≤ cap ∧ cap ≤ 9223372036854775807 ∧ ∀ i x, q[i]? = some x → cs[off + i]? = some (.int .i64 x)
theorem QAt.nil (w : World) (base : Nat) : QAt w base (.slice none 0 0) [] := .inl ⟨rfl, rfl⟩
theorem QAt.keep {w w' : World} {base : Nat} {v : Value} {q : List Int} (h : QAt w base v q) (hk : ∀ k o, base ≤ k → w.heap[k]? = some o → w'.heap[k]? = some o) : QAt w' base v q := by
  rcases h with h | ⟨b, off, cap, cs, rfl, h1, h2, h3⟩
  · exact .inl h
  · exact .inr ⟨b, off, cap, cs, rfl, h1, hk b _ h1 h2, h3⟩
theorem QAt.set {w : World} {base G i : Nat} {v x : Value} {q : List Int} (h : QAt w base v q) (hG : G < base) : QAt (w.setCell ⟨G, i, none⟩ x) base v q := h.keep fun k o hk ho => by rw [Below.heap_setCell _ _ _ _ (by show k ≠ G; omega)]; exact ho
theorem QAt.alloc {w : World} {base : Nat} {v : Value} {q : List Int} (h : QAt w base v q) (o : Obj) : QAt (w.alloc o) base v q := h.keep fun k o' _ ho => alloc_lt o ho
theorem QAt.drew {w : World} {base : Nat} {v : Value} {q : List Int} (h : QAt w base v q) : QAt w.drew base v q := h.keep fun _ _ _ ho => ho
theorem QAt.form {w : World} {base : Nat} {v : Value} {q : List Int} (h : QAt w base v q) : ∃ a cap, v = .slice a q.length cap := by
  rcases h with ⟨rfl, rfl⟩ | ⟨b, off, cap, cs, rfl, _⟩
  · exact ⟨_, _, rfl⟩
  · exact ⟨_, _, rfl⟩
theorem QAt.head {w : World} {base : Nat} {v : Value} {q : List Int} {x : Int} (h : QAt w base v (x :: q)) : ∃ b off cap, v = .slice (some ⟨b, off, none⟩) (q.length + 1) cap ∧ q.length + 1 ≤ cap ∧ w.cell? ⟨b, off, none⟩ = some (.int .i64 x) := by
  rcases h with ⟨_, h⟩ | ⟨b, off, cap, cs, rfl, h1, h2, h3, h4, h5, h6⟩
  · cases h
  · refine ⟨b, off, cap, rfl, h4, ?_⟩
    rw [cell_of_block h2]
    exact h6 0 x rfl
theorem slice_from (b off n cap : Nat) (hn : 1 ≤ n) (hc : n ≤ cap) (wx : World) : (Instr.slice 22 (.slice (some ⟨b, off, none⟩) n cap) (some (.int .i64 1)) none none).run Try.prog wx = .ok (if cap = 1 then .slice (some ⟨b, off, none⟩) (n - 1) (cap - 1) else .slice (some ⟨b, off + 1, none⟩) (n - 1) (cap - 1)) wx := by
  rw [run_slice_l (t := 22) (a := some ⟨b, off, none⟩) (len := n) (cap := cap) (ht := Try.underlying22) (kl := .i64) (l := 1) (h0 := by omega) (h1 := by omega)]
  have hso : (sizeOf (Try.prog.elem 22)).run Try.prog wx = .ok 1 wx := by kernel_rfl
  rw [hso]
  show Result.ok (sliced (some ⟨b, off, none⟩) 1 n cap 1) wx = _
  unfold sliced
  split
  · rfl
  · rfl
/-- The queue without its first. -/
theorem QAt.tail {w : World} {base : Nat} {v : Value} {q : List Int} {x : Int} (h : QAt w base v (x :: q)) : ∃ v', (∀ W, (Instr.slice 22 v (some (.int .i64 1)) none none).run Try.prog W = .ok v' W) ∧ QAt w base v' q := by
  rcases h with ⟨_, h⟩ | ⟨b, off, cap, cs, rfl, h1, h2, h3, h4, h5, h6⟩
  · cases h
  · rw [List.length_cons] at h4 ⊢
    refine ⟨_, fun W => slice_from b off (q.length + 1) cap (by omega) h4 W, ?_⟩
    rw [Nat.add_sub_cancel]
    split
    · have hq : q = [] := List.length_eq_zero_iff.1 (by omega)
      subst hq
      exact .inr ⟨b, off, cap - 1, cs, rfl, h1, h2, by omega, by simp, by omega, fun i y hy => by simp at hy⟩
    · exact .inr ⟨b, off + 1, cap - 1, cs, rfl, h1, h2, by omega, by omega, by omega, fun i y hy => by
        rw [show off + 1 + i = off + (i + 1) by omega]
        exact h6 (i + 1) y hy⟩
theorem grown_below {w w' : World} {base : Nat} (h : w.grownBy w' none) (hb : base ≤ w.heap.size) : Below base w w' := ⟨h.os, h.tape, h.output, h.size, fun k hk => h.block k (by omega) (fun e => by cases e)⟩
theorem q_of_row {w w' : World} {base n : Nat} {v : Value} {q : List Int} (hb : base ≤ w.heap.size) (h : w'.ownsRow w.heap.size 3 1 v n (q.map (Value.int .i64))) (hn : n = q.length) (h0 : 0 < n) : QAt w' base v q := by
  subst hn
  obtain ⟨h1, h2⟩ := h
  rcases h2 with ⟨_, h2⟩ | ⟨g, cap, cur, rfl, hg, hh, hc, hm, hs, ht⟩
  · omega
  · refine .inr ⟨g, 0, cap, cur, rfl, by omega, hh, by omega, hc, hm, fun i x hx => ?_⟩
    have hi : i < q.length := (List.getElem?_eq_some_iff.1 hx).1
    have e : (cur.toList.take (q.length * 1))[i]? = (q.map (Value.int .i64))[i]? := by rw [ht]
    rw [List.getElem?_take_of_lt (by omega)] at e
    rw [Nat.zero_add, ← Array.getElem?_toList, e, List.getElem?_map, hx]
    rfl
/-- One more at the queue's end. -/
theorem wpList_append_q {w : World} {ops : Array Oper} {rest : List Oper} {o : Oper} {a : Act} {Q : Exit → Act → World → Prop} (hgd : o.guard = none) (s x : Operand)
    (ho : o.op = .call { callee := .builtin .append, args := #[s, x], argTypes := #[22, 22] })
    {base : Nat} {q : List Int} {v : Value} (hs : a.eval s = v) (hq : QAt w base v q) (y : Int) (ad : Addr) (hx : a.eval x = .slice (some ad) 1 1) (hc : w.cell? ad = some (.int .i64 y)) (hb : base ≤ w.heap.size) (hl : q.length ≤ 100000)
    (h : ∀ v' w', QAt w' base v' (q ++ [y]) → Below base w w' → wpList Try.prog ops Q rest (a.put o.dst v') w') : wpList Try.prog ops Q (o :: rest) a w := by
  obtain ⟨i0, hi, hz0, hz1, hz2⟩ := info_parts int31_info
  have hml : maxLen = 9223372036854775807 := rfl
  have hnews : ∀ j u, [Value.int .i64 y][j]? = some u → w.cell? (ad.add j) = some u := fun j u hj => by
    cases j with
    | zero => cases hj; rw [show ad.add 0 = ad from by cases ad; rfl]; exact hc
    | succ j => simp at hj
  have h1c : ∀ u ∈ [Value.int .i64 y], u.oneCell' = true := fun u hu => by rw [List.mem_singleton.1 hu]; rfl
  have hmap : q.map (Value.int .i64) ++ [Value.int .i64 y] = (q ++ [y]).map (Value.int .i64) := by rw [List.map_append]; rfl
  rcases hq with ⟨rfl, rfl⟩ | ⟨b, off, cap, cs, rfl, q1, q2, q3, q4, q5, q6⟩
  · refine wpList_append_grows w hgd s x 22 ho 3 i0 (.int .i64 0) 1 8 Try.underlying22 hi hz0 hz1 hz2 rfl (by decide) none 0 0 [] hs (fun _ => ⟨rfl, rfl⟩) rfl (fun b hb => by cases hb) ad 1 1 [.int .i64 y] hx rfl hnews h1c (by omega) (by omega) (by omega) fun v' w' hw hg => ?_
    exact h v' w' (q_of_row hb (by simpa using hw) rfl (by simp)) (grown_below hg hb)
  · refine wpList_append_arg w hgd s x 22 ho 3 i0 (.int .i64 0) 1 8 Try.underlying22 hi hz0 hz1 hz2 rfl (by decide) b off q.length cap (q.map (Value.int .i64)) hs (by simp) (fun j u hj => ?_) ad 1 1 [.int .i64 y] hx rfl hnews h1c (fun hr j hj => ?_) (by omega) (by omega) (fun hr => ?_) (fun hr v' w' hw hg => ?_)
    · rw [List.getElem?_map] at hj
      obtain ⟨z, hz, rfl⟩ := Option.map_eq_some_iff.1 hj
      rw [cell_of_block q2]
      exact q6 j z hz
    · have hj0 : j = 0 := by simpa using hj
      subst hj0
      refine ⟨?_, frozen_of_block q2 _⟩
      rw [cell_of_block q2, Array.getElem?_eq_getElem (by omega)]
      rfl
    · have hw : w.setCells b (off + q.length * 1) [Value.int .i64 y] = w.setCell ⟨b, off + q.length, none⟩ (.int .i64 y) := by simp [World.setCells]
      rw [hw]
      refine h _ _ (.inr ⟨b, off, cap, cs.set! (off + q.length) (.int .i64 y), by rw [List.length_append]; rfl, q1, block_set q2, by simpa using q3, by rw [List.length_append]; exact hr, q5, fun i z hz => ?_⟩) (Below.setCell (Below.refl _ _) q1 _)
      by_cases hi : i < q.length
      · rw [List.getElem?_append_left hi] at hz
        rw [Array.set!_eq_setIfInBounds, Array.getElem?_setIfInBounds_ne (by omega)]
        exact q6 i z hz
      · rw [List.getElem?_append_right (by omega)] at hz
        have hi2 : i = q.length := by have := (List.getElem?_eq_some_iff.1 hz).1; simp at this; omega
        subst hi2
        rw [Nat.sub_self] at hz
        cases hz
        rw [Array.set!_eq_setIfInBounds, Array.getElem?_setIfInBounds_self, if_pos (by omega)]
    · rw [hmap] at hw
      exact h v' w' (q_of_row hb hw (by simp) (by omega)) (grown_below hg hb)
/-! ### The search's steps -/
def outB (R : List Int) (N t : Nat) : List Int := (List.range N).map (fun v : Nat => if v < t then (if rtB R (v : Int) then 0 else -1) else 0)
theorem outB_zero (R : List Int) (N : Nat) : outB R N 0 = List.replicate N 0 := by
  unfold outB
  refine List.ext_getElem? fun i => ?_
  rw [List.getElem?_map, List.getElem?_replicate]
  by_cases h : i < N
  · rw [List.getElem?_range h, if_pos h]; simp
  · rw [List.getElem?_eq_none (by simp; omega), if_neg h]; rfl
theorem outB_len (R : List Int) (N t : Nat) : (outB R N t).length = N := by unfold outB; simp
theorem outB_lt {R : List Int} {N t : Nat} (h : t < N) : (outB R N t)[t]? = some 0 := by
  unfold outB
  rw [List.getElem?_map, List.getElem?_range h]
  simp
theorem outB_set {R : List Int} {N t : Nat} {x : Int} (h : t < N) (hx : (if rtB R (t : Int) then 0 else -1) = x) : (outB R N t).set t x = outB R N (t + 1) := by
  unfold outB
  refine List.ext_getElem? fun i => ?_
  by_cases hi : i < N
  · by_cases e : i = t
    · subst e
      rw [List.getElem?_set_self (by simp; omega), List.getElem?_map, List.getElem?_range hi, ← hx]
      simp
    · rw [List.getElem?_set_ne (fun e' => e e'.symm), List.getElem?_map, List.getElem?_map, List.getElem?_range hi]
      simp only [Option.map_some, Option.some.injEq]
      have h2 : (i < t + 1) = (i < t) := propext ⟨fun _ => by omega, fun _ => by omega⟩
      simp only [h2]
  · rw [List.getElem?_eq_none (by simp; omega), List.getElem?_eq_none (by simp; omega)]
theorem outB_all (R : List Int) (N : Nat) : outB R N N = bfsO R N := by
  unfold outB bfsO
  refine List.map_congr_left fun v hv => ?_
  rw [if_pos (List.mem_range.1 hv)]
theorem bfsQ_yes {R : List Int} {t : Nat} (h : rtB R (t : Int) = true) : bfsQ R (t + 1) = bfsQ R t ++ [(t : Int)] := by
  unfold bfsQ
  rw [List.range_succ, List.filter_append, List.map_append]
  simp [h]
theorem bfsQ_no {R : List Int} {t : Nat} (h : rtB R (t : Int) = false) : bfsQ R (t + 1) = bfsQ R t := by
  unfold bfsQ
  rw [List.range_succ, List.filter_append, List.map_append]
  simp [h]
theorem bfsQ_len (R : List Int) (t : Nat) : (bfsQ R t).length ≤ t := by
  unfold bfsQ
  rw [List.length_map]
  exact Nat.le_trans (List.length_filter_le _ _) (by simp)
theorem visW_yes {o q : List Int} {v w : Nat} {x y : Int} (hv : o[v]? = some x) (hw : o[w]? = some y) (h : y < 0) : visW (v : Int) (o, q) (w : Int) = (o.set w (x + 1), q ++ [(w : Int)]) := by
  unfold visW
  simp only [Int.toNat_natCast, List.getD_eq_getElem?_getD, hv, hw, Option.getD_some]
  rw [if_pos h]
theorem visW_no {o q : List Int} {v w : Nat} {y : Int} (hw : o[w]? = some y) (h : ¬ y < 0) : visW (v : Int) (o, q) (w : Int) = (o, q) := by
  unfold visW
  simp only [Int.toNat_natCast, List.getD_eq_getElem?_getD, hw, Option.getD_some]
  rw [if_neg h]
theorem md_start {E : List (Int × Int)} {R o q : List Int} {v : Int} (h : Bf E R o (v :: q)) : Md E R v (vl o v) [] o q := by
  obtain ⟨v0, v1, v2⟩ := h.qm v (by simp)
  have hp := List.pairwise_cons.1 h.srt
  exact ⟨h.len, h.lo, h.zero, h.pre, ⟨v0, v1, rfl, v2⟩, fun w hw => by
    obtain ⟨a, b, _⟩ := h.qm w (List.mem_cons_of_mem _ hw)
    exact ⟨a, b, hp.1 w hw⟩, hp.2, h.top v q rfl, fun u x hx hx0 hu hv => h.done u x hx hx0 (fun hm => (List.mem_cons.1 hm).elim hv hu), fun w hw => by cases hw⟩
/-- Where the search stands within the visit of v's successors: k of them are done. -/
structure Vis (E : List (Int × Int)) (R : List Int) (v : Int) (o0 q0 : List Int) (k : Nat) (o q : List Int) : Prop where
  eq : ((suc E v).take k).foldl (visW v) (o0, q0) = (o, q)
  md : ∃ dn, Md E R v (vl o0 v) dn o q
  cnt : negs o + q.length = negs o0 + q0.length
theorem Vis.start {E : List (Int × Int)} {R o q : List Int} {v : Int} (h : Bf E R o (v :: q)) : Vis E R v o q 0 o q := ⟨by rw [List.take_zero]; rfl, ⟨[], md_start h⟩, rfl⟩
theorem Vis.step {E : List (Int × Int)} {R o0 q0 o q : List Int} {v w : Int} {k : Nat} (h : Vis E R v o0 q0 k o q) (hw : (suc E v)[k]? = some w) : Vis E R v o0 q0 (k + 1) (visW v (o, q) w).1 (visW v (o, q) w).2 := by
  obtain ⟨h1, ⟨dn, h2⟩, h3⟩ := h
  obtain ⟨m1, m2⟩ := md_step h2 (List.mem_of_getElem? hw)
  obtain ⟨e1, e2⟩ := List.getElem?_eq_some_iff.1 hw
  refine ⟨?_, ⟨_, m1⟩, m2.trans h3⟩
  rw [List.take_succ_eq_append_getElem e1, e2, List.foldl_append, h1]
  rfl
theorem Vis.all {E : List (Int × Int)} {R o0 q0 o q : List Int} {v : Int} {k : Nat} (hb : Bf E R o0 (v :: q0)) (h : Vis E R v o0 q0 k o q) (hk : k = (suc E v).length) : (suc E v).foldl (visW v) (o0, q0) = (o, q) ∧ Bf E R o q ∧ negs o + q.length = negs o0 + q0.length := by
  have h1 := h.eq
  rw [hk, List.take_length] at h1
  obtain ⟨b1, b2⟩ := bf_step hb
  rw [h1] at b1 b2
  exact ⟨h1, b1, b2⟩
/-- How many of a block's numbers are below nought. -/
def negsAt (w : World) (G : Nat) : Nat := match w.heap[G]? with
  | some (.cells cs _ _) => cs.toList.countP (fun v => decide (intOf v < 0))
  | _ => 0
def lenOf : Value → Nat
  | .slice _ n _ => n
  | _ => 0
theorem negs_at {w : World} {G : Nat} {o : List Int} (h : OutAt w G o) : negsAt w G = negs o := by
  unfold negsAt negs
  rw [h]
  simp only [List.countP_map]
  rfl
theorem len_at {w : World} {base : Nat} {v : Value} {q : List Int} (h : QAt w base v q) : lenOf v = q.length := by
  obtain ⟨a, c, rfl⟩ := h.form
  rfl
/-- Where the search stands between two visits. -/
structure Srch (E : List (Int × Int)) (R : List Int) (N : Nat) (o q : List Int) : Prop where
  bf : Bf E R o q
  res : ∃ n, bfsS E n (o, q) = bndA E R ∧ negs o + q.length ≤ n
  cnt : ∃ K : Nat, (∀ x ∈ o, x ≤ (K : Int)) ∧ negs o + q.length + K ≤ N
theorem Srch.start (E : List (Int × Int)) (R : List Int) {N : Nat} (hN : vtN E R 0 = (N : Int)) : Srch E R N (bfsO R N) (bfsQ R N) := by
  have h := bf_start E R
  have e : (vtN E R 0).toNat = N := by omega
  have hb : bndA E R = bfsS E N (bfsO R N, bfsQ R N) := by unfold bndA; rw [e]
  rw [e] at h
  refine ⟨h.1, ⟨N, hb.symm, h.2⟩, 0, fun x hx => ?_, h.2⟩
  unfold bfsO at hx
  obtain ⟨v, _, rfl⟩ := List.mem_map.1 hx
  split <;> simp
theorem Srch.stop {E : List (Int × Int)} {R : List Int} {N : Nat} {o : List Int} (h : Srch E R N o []) : o = bndA E R := by
  obtain ⟨n, h1, _⟩ := h.res
  rw [← h1]
  cases n <;> rfl
theorem Srch.step {E : List (Int × Int)} {R : List Int} {N k : Nat} {v : Int} {o0 q0 o q : List Int} (h : Srch E R N o0 (v :: q0)) (hv : Vis E R v o0 q0 k o q) (hk : k = (suc E v).length) : Srch E R N o q := by
  obtain ⟨h1, ⟨n, h2, h3⟩, K, h4, h5⟩ := h
  have hmd := hv.md
  obtain ⟨e1, e2, e3⟩ := hv.all h1 hk
  rw [List.length_cons] at h3 h5
  refine ⟨e2, ?_, K + 1, fun x hx => ?_, by omega⟩
  · cases n with
    | zero => omega
    | succ n =>
      refine ⟨n, ?_, by omega⟩
      rw [← h2]
      show _ = bfsS E n ((suc E v).foldl (visW v) (o0, q0))
      rw [e1]
  · obtain ⟨dn, hm⟩ := hmd
    obtain ⟨j, hj⟩ := List.mem_iff_getElem?.1 hx
    have t1 := hm.top j x hj
    obtain ⟨v0, v1, _, _⟩ := h1.qm v (by simp) |> fun ⟨a, b, c⟩ => (⟨a, b, c, trivial⟩ : _ ∧ _ ∧ _ ∧ True)
    have t2 : vl o0 v ≤ K := by
      obtain ⟨u, rfl⟩ := Int.eq_ofNat_of_zero_le v0
      have hu : u < o0.length := by omega
      rw [vl_nat (List.getElem?_eq_getElem hu)]
      exact h4 _ (List.getElem_mem hu)
    omega
end Go.Proofs.Ytbkfjhbebhnijaa
