/-
  law 13: the reference's Rollback.
-/
import Derived.Test.YtgipmcmmicppkaaUnS
import Derived.Deep.CutRange
import Derived.Deep.Cut
import Derived.Deep.RegionHeld3
namespace Go.Proofs.Ytgipmcmmicppkaa
open Go.RowKit
set_option linter.unusedSimpArgs false
set_option linter.unusedVariables false

theorem st_no {wo wy : List Int} {a : Int} (u : Int) (h : LE wo wy a ≠ 0) : stO wo a u = wo ∧ stY wy a u = wy := by
  unfold LE ioE wsA bsA at h
  unfold stO stY stW
  by_cases ha : 16777216 ≤ a
  · simp only [ha, if_true] at h ⊢
    refine ⟨trivial, ?_⟩
    split
    · rename_i hb; rw [if_pos hb] at h; exact absurd rfl h
    · rfl
  · simp only [ha, if_false] at h ⊢
    refine ⟨?_, trivial⟩
    split
    · rename_i hb; rw [if_pos hb] at h; exact absurd rfl h
    · rfl
theorem tr_no {bs : Int} {ws : List Int} {x : Int} (h : trE bs ws x ≠ 0) : trW bs ws x = ws := by
  unfold trE at h
  unfold trW
  split
  · rename_i ho; rw [if_pos ho] at h; exact absurd rfl h
  · rfl
theorem row_ne {w : World} {a : Option Addr} {cap : Nat} {ws : List Int} {g : Option Nat} {k : Nat} {cs : Array Value} {T : TypeId} (h : RowAt w a cap ws g) (hk : w.heap[k]? = some (.cells cs T (0, 0))) (hT : T ≠ 43) : ∀ G, g = some G → G ≠ k := by
  rintro G rfl e
  obtain ⟨_, _, h3⟩ := h
  rcases h3 with ⟨h3, _⟩ | ⟨G', cur, e', _, hh, _⟩
  · cases h3
  · simp only [Option.some.injEq] at e'
    subst e' e
    rw [hh] at hk
    simp at hk
    exact hT hk.2.symm
theorem RMem.mods' {S : Nat → Prop} {w w' : World} {aO : Option Addr} {nO cO : Nat} {aY : Option Addr} {nY cY : Nat} {lo ly : Int} {wo wy : List Int} {gO gY : Option Nat} (h : RMem w aO nO cO aY nY cY lo ly wo wy gO gY) (hM : Mods S w w') (hO : ∀ G, gO = some G → ¬ S G) (hY : ∀ G, gY = some G → ¬ S G) : RMem w' aO nO cO aY nY cY lo ly wo wy gO gY :=
  ⟨h.lO, h.lY, h.old.mods hM hO, h.yng.mods hM hY, h.okO, h.okY, h.lim⟩
theorem six_mods {w : World} {k : Nat} {b0 b1 b2 b3 b4 b5 : Value} : Mods (fun j => j = k) w ((((((w.setCell ⟨k, 0, none⟩ b0).setCell ⟨k, 1, none⟩ b1).setCell ⟨k, 2, none⟩ b2).setCell ⟨k, 3, none⟩ b3).setCell ⟨k, 4, none⟩ b4).setCell ⟨k, 5, none⟩ b5) :=
  ((((((Mods.refl (fun j => j = k) w : Mods (fun j => j = k) w w).setCell (p := ⟨k, 0, none⟩) (.inl (by rfl)) _).setCell (p := ⟨k, 1, none⟩) (.inl (by rfl)) _).setCell (p := ⟨k, 2, none⟩) (.inl (by rfl)) _).setCell (p := ⟨k, 3, none⟩) (.inl (by rfl)) _).setCell (p := ⟨k, 4, none⟩) (.inl (by rfl)) _).setCell (p := ⟨k, 5, none⟩) (.inl (by rfl)) _
theorem set6 {w : World} {k : Nat} {T : TypeId} {a0 a1 a2 a3 a4 a5 b0 b1 b2 b3 b4 b5 : Value} (h : w.heap[k]? = some (.cells #[a0, a1, a2, a3, a4, a5] T (0, 0))) :
    ((((((w.setCell ⟨k, 0, none⟩ b0).setCell ⟨k, 1, none⟩ b1).setCell ⟨k, 2, none⟩ b2).setCell ⟨k, 3, none⟩ b3).setCell ⟨k, 4, none⟩ b4).setCell ⟨k, 5, none⟩ b5).heap[k]? = some (.cells #[b0, b1, b2, b3, b4, b5] T (0, 0)) := by
  exact block_set (block_set (block_set (block_set (block_set (block_set h)))))
/-- A memory's six cells in a block of its own, written over by a memory. -/
theorem RMem.six {w : World} {k : Nat} {a0 a1 a2 a3 a4 a5 b0 b1 b2 b3 b4 b5 : Value} (hk : w.heap[k]? = some (.cells #[a0, a1, a2, a3, a4, a5] 35 (0, 0))) {aO : Option Addr} {nO cO : Nat} {aY : Option Addr} {nY cY : Nat} {lo ly : Int} {wo wy : List Int} {gO gY : Option Nat} (h : RMem w aO nO cO aY nY cY lo ly wo wy gO gY) :
    RMem ((((((w.setCell ⟨k, 0, none⟩ b0).setCell ⟨k, 1, none⟩ b1).setCell ⟨k, 2, none⟩ b2).setCell ⟨k, 3, none⟩ b3).setCell ⟨k, 4, none⟩ b4).setCell ⟨k, 5, none⟩ b5) aO nO cO aY nY cY lo ly wo wy gO gY :=
  h.mods' six_mods (row_ne h.old hk (by decide)) (row_ne h.yng hk (by decide))
theorem set_cell_far {w : World} {p : Addr} {j i : Nat} {u v : Value} (h : w.cell? p = some v) (hn : p.block ≠ j) : (w.setCell ⟨j, i, none⟩ u).cell? p = some v :=
  (World.cell?_of_block (Below.heap_setCell w ⟨j, i, none⟩ u p.block hn)).trans h
theorem six_cell {w : World} {k i j : Nat} {v b0 b1 b2 b3 b4 b5 : Value} (h : w.cell? ⟨k, i, none⟩ = some v) (hn : k ≠ j) : ((((((w.setCell ⟨j, 0, none⟩ b0).setCell ⟨j, 1, none⟩ b1).setCell ⟨j, 2, none⟩ b2).setCell ⟨j, 3, none⟩ b3).setCell ⟨j, 4, none⟩ b4).setCell ⟨j, 5, none⟩ b5).cell? ⟨k, i, none⟩ = some v :=
  set_cell_far (set_cell_far (set_cell_far (set_cell_far (set_cell_far (set_cell_far h hn) hn) hn) hn) hn) hn
theorem lg_at {w : World} {nt : List (Int × Int)} {vA vW : Value} (h : LgAt w nt vA vW) {k : Nat} {x : Int × Int} (hx : nt[k]? = some x) : (∃ (g cap : Nat), vA = .slice (some ⟨g, 0, none⟩) nt.length cap ∧ w.cell? ⟨g, k, none⟩ = some (.int .i64 x.1)) ∧ ∃ (g cap : Nat), vW = .slice (some ⟨g, 0, none⟩) nt.length cap ∧ w.cell? ⟨g, k, none⟩ = some (.int .u64 x.2) := by
  have hk : k < nt.length := (List.getElem?_eq_some_iff.1 hx).1
  constructor
  · obtain ⟨h1, h2⟩ := h.at_
    rcases h2 with ⟨rfl, h0⟩ | ⟨g, cap, cur, rfl, _, hh, hn, hm, hs, ht⟩
    · omega
    · refine ⟨g, cap, rfl, ?_⟩
      rw [cell_of_block hh, ← Array.getElem?_toList]
      have e : (cur.toList.take (nt.length * 1))[k]? = (atCells nt)[k]? := by rw [ht]
      rw [List.getElem?_take_of_lt (by omega)] at e
      rw [e]
      unfold atCells
      rw [List.getElem?_map, hx]
      rfl
  · obtain ⟨h1, h2⟩ := h.wd
    rcases h2 with ⟨rfl, h0⟩ | ⟨g, cap, cur, rfl, _, hh, hn, hm, hs, ht⟩
    · omega
    · refine ⟨g, cap, rfl, ?_⟩
      rw [cell_of_block hh, ← Array.getElem?_toList]
      have e : (cur.toList.take (nt.length * 1))[k]? = (wdCells nt)[k]? := by rw [ht]
      rw [List.getElem?_take_of_lt (by omega)] at e
      rw [e]
      unfold wdCells
      rw [List.getElem?_map, hx]
      rfl
set_option maxRecDepth 100000 in
set_option maxHeartbeats 4000000 in
theorem rrb_no {w : World} {top : Int} {nt : List (Int × Int)} {vA vW : Value} (h : LgAt w nt vA vW) {aO : Option Addr} {nO cO : Nat} {aY : Option Addr} {nY cY : Nat} {lo ly : Int} {wo wy : List Int} {rO rY : Option Nat} (hm : RMem w aO nO cO aY nY cY lo ly wo wy rO rY) :
    Calls Try.prog 45 #[lgV false top vA vW, mmV lo ly aO nO cO aY nY cY] w (RNext w (fun v => .tuple #[lgV false top vA vW, v, .int .i64 9]) lo ly wo wy rO rY) := by
  have HF := Lib.hid (fun W (hb : Below w.heap.size w W) => (⟨aO, nO, cO, aY, nY, cY, rO, rY, rfl, hm.below hb, fun G e => .inl e, fun G e => .inl e, hb⟩ : RNext w (fun v => .tuple #[lgV false top vA vW, v, .int .i64 9]) lo ly wo wy rO rY (.returned (.tuple #[lgV false top vA vW, mmV lo ly aO nO cO aY nY cY, .int .i64 9])) W))
  obtain ⟨a1, c1, ea, _⟩ := row_form1 h.at_
  obtain ⟨a2, c2, ew, _⟩ := row_form1 h.wd
  subst ea ew
  generalize nt.length = n at *
  clear h hm
  unfold lgV mmV
  unfold lgV mmV at HF
  have kl : ((((w.alloc (.cells #[.bool false, .int .i64 top, .slice a1 n c1, .slice a2 n c2] 38)).alloc (.cells #[.int .i64 0, .int .i64 lo, .slice aO nO cO, .int .i64 16777216, .int .i64 ly, .slice aY nY cY] 35)).alloc (.cells #[.bool false, .int .i64 0, .slice none 0 0, .slice none 0 0] 38)).alloc (.cells #[.int .i64 0, .int .i64 0, .slice none 0 0, .int .i64 0, .int .i64 0, .slice none 0 0] 35)).heap[w.heap.size]? = some (.cells #[.bool false, .int .i64 top, .slice a1 n c1, .slice a2 n c2] 38 (0, 0)) := alloc_lt _ (alloc_lt _ (alloc_lt _ (alloc_get _ _)))
  have km : ((((w.alloc (.cells #[.bool false, .int .i64 top, .slice a1 n c1, .slice a2 n c2] 38)).alloc (.cells #[.int .i64 0, .int .i64 lo, .slice aO nO cO, .int .i64 16777216, .int .i64 ly, .slice aY nY cY] 35)).alloc (.cells #[.bool false, .int .i64 0, .slice none 0 0, .slice none 0 0] 38)).alloc (.cells #[.int .i64 0, .int .i64 0, .slice none 0 0, .int .i64 0, .int .i64 0, .slice none 0 0] 35)).heap[w.heap.size + 1]? = some (.cells #[.int .i64 0, .int .i64 lo, .slice aO nO cO, .int .i64 16777216, .int .i64 ly, .slice aY nY cY] 35 (0, 0)) := alloc_lt _ (alloc_lt _ (alloc_at _ (by simp)))
  have kr : ((((w.alloc (.cells #[.bool false, .int .i64 top, .slice a1 n c1, .slice a2 n c2] 38)).alloc (.cells #[.int .i64 0, .int .i64 lo, .slice aO nO cO, .int .i64 16777216, .int .i64 ly, .slice aY nY cY] 35)).alloc (.cells #[.bool false, .int .i64 0, .slice none 0 0, .slice none 0 0] 38)).alloc (.cells #[.int .i64 0, .int .i64 0, .slice none 0 0, .int .i64 0, .int .i64 0, .slice none 0 0] 35)).heap[w.heap.size + 2]? = some (.cells #[.bool false, .int .i64 0, .slice none 0 0, .slice none 0 0] 38 (0, 0)) := alloc_lt _ (alloc_at _ (by simp))
  have ks : ((((w.alloc (.cells #[.bool false, .int .i64 top, .slice a1 n c1, .slice a2 n c2] 38)).alloc (.cells #[.int .i64 0, .int .i64 lo, .slice aO nO cO, .int .i64 16777216, .int .i64 ly, .slice aY nY cY] 35)).alloc (.cells #[.bool false, .int .i64 0, .slice none 0 0, .slice none 0 0] 38)).alloc (.cells #[.int .i64 0, .int .i64 0, .slice none 0 0, .int .i64 0, .int .i64 0, .slice none 0 0] 35)).heap[w.heap.size + 3]? = some (.cells #[.int .i64 0, .int .i64 0, .slice none 0 0, .int .i64 0, .int .i64 0, .slice none 0 0] 35 (0, 0)) := alloc_at _ (by simp)
  have hb1 : Below w.heap.size w ((((w.alloc (.cells #[.bool false, .int .i64 top, .slice a1 n c1, .slice a2 n c2] 38)).alloc (.cells #[.int .i64 0, .int .i64 lo, .slice aO nO cO, .int .i64 16777216, .int .i64 ly, .slice aY nY cY] 35)).alloc (.cells #[.bool false, .int .i64 0, .slice none 0 0, .slice none 0 0] 38)).alloc (.cells #[.int .i64 0, .int .i64 0, .slice none 0 0, .int .i64 0, .int .i64 0, .slice none 0 0] 35)) := by (repeat (first | exact Below.refl _ _ | assumption | refine Below.drew ?_ | refine below_drewN ?_ _ | refine balloc ?_ _ | refine Below.setCell ?_ (by first | (simp; done) | (simp; omega) | omega) _ | refine bchain (by assumption) ?_))
  have q0 : ((((w.alloc (.cells #[.bool false, .int .i64 top, .slice a1 n c1, .slice a2 n c2] 38)).alloc (.cells #[.int .i64 0, .int .i64 lo, .slice aO nO cO, .int .i64 16777216, .int .i64 ly, .slice aY nY cY] 35)).alloc (.cells #[.bool false, .int .i64 0, .slice none 0 0, .slice none 0 0] 38)).alloc (.cells #[.int .i64 0, .int .i64 0, .slice none 0 0, .int .i64 0, .int .i64 0, .slice none 0 0] 35)).cell? ⟨w.heap.size, 0, none⟩ = some (.bool false) := by rw [cell_of_block kl]; rfl
  go_enter Try.func45, Try.ntmps45
  clear kl km kr ks
  go_wp2_with fail
  go_region
  all_goals go_wp2
  all_goals refine bodyPost_ret (v := .tuple #[.agg #[.bool false, .int .i64 top, .slice a1 n c1, .slice a2 n c2], .agg #[.int .i64 0, .int .i64 lo, .slice aO nO cO, .int .i64 16777216, .int .i64 ly, .slice aY nY cY], .int .i64 9]) (by simp [results, Try.results45, go_sem]) rfl ?_
  all_goals exact HF.out _ (by (repeat (first | exact Below.refl _ _ | assumption | refine Below.drew ?_ | refine below_drewN ?_ _ | refine balloc ?_ _ | refine Below.setCell ?_ (by first | (simp; done) | (simp; omega) | omega) _ | refine bchain (by assumption) ?_)))
structure RbI (w wr : World) (lo ly top : Int) (a1 : Option Addr) (n c1 : Nat) (a2 : Option Addr) (c2 : Nat) (mo my : List Int) (rO rY : Option Nat) (aO' : Option Addr) (nO' cO' : Nat) (aY' : Option Addr) (nY' cY' : Nat) (rO' rY' : Option Nat) : Prop where
  kl : wr.heap[w.heap.size]? = some (.cells #[.bool true, .int .i64 top, .slice a1 n c1, .slice a2 n c2] 38 (0, 0))
  km : wr.heap[w.heap.size + 1]? = some (.cells #[.int .i64 0, .int .i64 lo, .slice aO' nO' cO', .int .i64 16777216, .int .i64 ly, .slice aY' nY' cY'] 35 (0, 0))
  kr : wr.heap[w.heap.size + 2]? = some (.cells #[.bool false, .int .i64 0, .slice none 0 0, .slice none 0 0] 38 (0, 0))
  ks : wr.heap[w.heap.size + 3]? = some (.cells #[.int .i64 0, .int .i64 0, .slice none 0 0, .int .i64 0, .int .i64 0, .slice none 0 0] 35 (0, 0))
  hr : RMem wr aO' nO' cO' aY' nY' cY' lo ly mo my rO' rY'
  g1 : ∀ G, rO' = some G → rO = some G ∨ w.heap.size ≤ G
  g2 : ∀ G, rY' = some G → rY = some G ∨ w.heap.size ≤ G
  hb : Below w.heap.size w wr
def RbL (w : World) (lo ly top : Int) (a1 : Option Addr) (n c1 : Nat) (a2 : Option Addr) (c2 : Nat) (wo wy : List Int) (nt : List (Int × Int)) (rO rY : Option Nat) (i : Value) (wr : World) : Prop :=
  ∃ k aO' nO' cO' aY' nY' cY' rO' rY', k ≤ n ∧ i = .int .i64 ((k : Int) - 1) ∧ RbI w wr lo ly top a1 n c1 a2 c2 (rbW wo wy (nt.drop k)).1 (rbW wo wy (nt.drop k)).2 rO rY aO' nO' cO' aY' nY' cY' rO' rY'
def CutR (wr : World) (lo ly le : Int) (mo my : List Int) (rO rY : Option Nat) (s8 s9 : Value) (wx : World) : Prop :=
  ∃ V aO2 nO2 cO2 aY2 nY2 cY2 rO2 rY2, s8 = .pointer (some ⟨V, 0, none⟩) ∧ s9 = .int .i64 le ∧ wx.heap[V]? = some (.cells #[.int .i64 0, .int .i64 lo, .slice aO2 nO2 cO2, .int .i64 16777216, .int .i64 ly, .slice aY2 nY2 cY2] 35 (0, 0)) ∧ wr.heap.size ≤ V ∧ RMem wx aO2 nO2 cO2 aY2 nY2 cY2 lo ly mo my rO2 rY2 ∧ (∀ G, rO2 = some G → rO = some G ∨ wr.heap.size ≤ G) ∧ (∀ G, rY2 = some G → rY = some G ∨ wr.heap.size ≤ G) ∧ Below wr.heap.size wr wx
theorem six_off {w : World} {k j : Nat} {o : Obj} {b0 b1 b2 b3 b4 b5 : Value} (h : w.heap[k]? = some o) (hn : k ≠ j) : ((((((w.setCell ⟨j, 0, none⟩ b0).setCell ⟨j, 1, none⟩ b1).setCell ⟨j, 2, none⟩ b2).setCell ⟨j, 3, none⟩ b3).setCell ⟨j, 4, none⟩ b4).setCell ⟨j, 5, none⟩ b5).heap[k]? = some o :=
  set_other (set_other (set_other (set_other (set_other (set_other h hn) hn) hn) hn) hn) hn
theorem six_below {w W : World} {k : Nat} {b0 b1 b2 b3 b4 b5 : Value} (h : Below w.heap.size w W) (hk : w.heap.size ≤ k) : Below w.heap.size w ((((((W.setCell ⟨k, 0, none⟩ b0).setCell ⟨k, 1, none⟩ b1).setCell ⟨k, 2, none⟩ b2).setCell ⟨k, 3, none⟩ b3).setCell ⟨k, 4, none⟩ b4).setCell ⟨k, 5, none⟩ b5) :=
  (((((h.setCell (p := ⟨k, 0, none⟩) hk _).setCell (p := ⟨k, 1, none⟩) hk _).setCell (p := ⟨k, 2, none⟩) hk _).setCell (p := ⟨k, 3, none⟩) hk _).setCell (p := ⟨k, 4, none⟩) hk _).setCell (p := ⟨k, 5, none⟩) hk _
theorem rb_end {w8 W : World} {k2 k3 : Nat} {x0 x1 x2 x3 y0 y1 y2 y3 y4 y5 a0 a1 a2 a3 b0 b1 b2 b3 b4 b5 : Value} {T2 T3 : TypeId} (kr : w8.heap[k2]? = some (.cells #[x0, x1, x2, x3] T2 (0, 0))) (ks : w8.heap[k3]? = some (.cells #[y0, y1, y2, y3, y4, y5] T3 (0, 0))) (hne : k2 ≠ k3)
    (hW : W = ((((((((((w8.setCell ⟨k2, 0, none⟩ a0).setCell ⟨k2, 1, none⟩ a1).setCell ⟨k2, 2, none⟩ a2).setCell ⟨k2, 3, none⟩ a3).setCell ⟨k3, 0, none⟩ b0).setCell ⟨k3, 1, none⟩ b1).setCell ⟨k3, 2, none⟩ b2).setCell ⟨k3, 3, none⟩ b3).setCell ⟨k3, 4, none⟩ b4).setCell ⟨k3, 5, none⟩ b5)) :
    W.heap[k2]? = some (.cells #[a0, a1, a2, a3] T2 (0, 0)) ∧ W.heap[k3]? = some (.cells #[b0, b1, b2, b3, b4, b5] T3 (0, 0)) ∧ Mods (fun k => k = k2 ∨ k = k3) w8 W := by
  subst hW
  refine ⟨six_off (block_set (block_set (block_set (block_set kr)))) hne, set6 (set_other (set_other (set_other (set_other ks hne.symm) hne.symm) hne.symm) hne.symm), ?_⟩
  have h4 : Mods (fun k => k = k2 ∨ k = k3) w8 _ := (four_mods (k := k2) (b0 := a0) (b1 := a1) (b2 := a2) (b3 := a3)).mono (fun i hi => .inl hi)
  exact h4.trans (six_mods (k := k3)) (fun i hi => .inl (.inr hi))
theorem RbI.step {w wr wx : World} {lo ly top : Int} {a1 : Option Addr} {n c1 : Nat} {a2 : Option Addr} {c2 : Nat} {mo my mo' my' : List Int} {rO rY : Option Nat} {aO' : Option Addr} {nO' cO' : Nat} {aY' : Option Addr} {nY' cY' : Nat} {rO' rY' : Option Nat} {aO2 : Option Addr} {nO2 cO2 : Nat} {aY2 : Option Addr} {nY2 cY2 : Nat} {rO2 rY2 : Option Nat} (h : RbI w wr lo ly top a1 n c1 a2 c2 mo my rO rY aO' nO' cO' aY' nY' cY' rO' rY')
    (hr : RMem wx aO2 nO2 cO2 aY2 nY2 cY2 lo ly mo' my' rO2 rY2) (q1 : ∀ G, rO2 = some G → rO' = some G ∨ wr.heap.size ≤ G) (q2 : ∀ G, rY2 = some G → rY' = some G ∨ wr.heap.size ≤ G) (hb : Below wr.heap.size wr wx) :
    RbI w ((((((wx.setCell ⟨w.heap.size + 1, 0, none⟩ (.int .i64 0)).setCell ⟨w.heap.size + 1, 1, none⟩ (.int .i64 lo)).setCell ⟨w.heap.size + 1, 2, none⟩ (.slice aO2 nO2 cO2)).setCell ⟨w.heap.size + 1, 3, none⟩ (.int .i64 16777216)).setCell ⟨w.heap.size + 1, 4, none⟩ (.int .i64 ly)).setCell ⟨w.heap.size + 1, 5, none⟩ (.slice aY2 nY2 cY2)) lo ly top a1 n c1 a2 c2 mo' my' rO rY aO2 nO2 cO2 aY2 nY2 cY2 rO2 rY2 := by
  have hz := h.hb.size
  have kx := bblock hb h.km
  refine ⟨six_off (bblock hb h.kl) (by omega), set6 kx, six_off (bblock hb h.kr) (by omega), six_off (bblock hb h.ks) (by omega), hr.six kx, fun G e => ?_, fun G e => ?_, six_below (bchain hb h.hb) (by omega)⟩
  · rcases q1 G e with e' | e'
    · exact h.g1 G e'
    · exact .inr (by omega)
  · rcases q2 G e with e' | e'
    · exact h.g2 G e'
    · exact .inr (by omega)
theorem RbI.stay {w wr wx : World} {lo ly top : Int} {a1 : Option Addr} {n c1 : Nat} {a2 : Option Addr} {c2 : Nat} {mo my : List Int} {rO rY : Option Nat} {aO' : Option Addr} {nO' cO' : Nat} {aY' : Option Addr} {nY' cY' : Nat} {rO' rY' : Option Nat} (h : RbI w wr lo ly top a1 n c1 a2 c2 mo my rO rY aO' nO' cO' aY' nY' cY' rO' rY') (hb : Below wr.heap.size wr wx) : RbI w wx lo ly top a1 n c1 a2 c2 mo my rO rY aO' nO' cO' aY' nY' cY' rO' rY' :=
  ⟨bblock hb h.kl, bblock hb h.km, bblock hb h.kr, bblock hb h.ks, h.hr.below hb, h.g1, h.g2, bchain hb h.hb⟩
set_option maxRecDepth 100000 in
set_option maxHeartbeats 16000000 in
theorem rrb_yes {w : World} {top : Int} {nt : List (Int × Int)} {vA vW : Value} (h : LgAt w nt vA vW) {aO : Option Addr} {nO cO : Nat} {aY : Option Addr} {nY cY : Nat} {lo ly : Int} {wo wy : List Int} {rO rY : Option Nat} (hm : RMem w aO nO cO aY nY cY lo ly wo wy rO rY) (hn : nt.length ≤ 100000) (rv : Int) (hrv : (if trE 16777216 (rbW wo wy nt).2 top = 0 then (0 : Int) else 11) = rv) :
    Calls Try.prog 45 #[lgV true top vA vW, mmV lo ly aO nO cO aY nY cY] w (RNext w (fun v => .tuple #[lgV false 0 (.slice none 0 0) (.slice none 0 0), v, .int .i64 rv]) lo ly (rbW wo wy nt).1 (trW 16777216 (rbW wo wy nt).2 top) rO rY) := by
  obtain ⟨a1, c1, ea, hn1, hn2⟩ := row_form1 h.at_
  obtain ⟨a2, c2, ew, hn3, hn4⟩ := row_form1 h.wd
  subst ea ew
  obtain ⟨n, hnn⟩ : ∃ n, nt.length = n := ⟨_, rfl⟩
  have HN := Lib.hid hnn
  have HRV := Lib.hid hrv
  have HH := Lib.hid h
  rw [hnn] at hn hn1 hn3 HH
  rw [hnn]
  clear h hnn hrv
  unfold lgV mmV
  have kl : ((((w.alloc (.cells #[.bool true, .int .i64 top, .slice a1 n c1, .slice a2 n c2] 38)).alloc (.cells #[.int .i64 0, .int .i64 lo, .slice aO nO cO, .int .i64 16777216, .int .i64 ly, .slice aY nY cY] 35)).alloc (.cells #[.bool false, .int .i64 0, .slice none 0 0, .slice none 0 0] 38)).alloc (.cells #[.int .i64 0, .int .i64 0, .slice none 0 0, .int .i64 0, .int .i64 0, .slice none 0 0] 35)).heap[w.heap.size]? = some (.cells #[.bool true, .int .i64 top, .slice a1 n c1, .slice a2 n c2] 38 (0, 0)) := alloc_lt _ (alloc_lt _ (alloc_lt _ (alloc_get _ _)))
  have km : ((((w.alloc (.cells #[.bool true, .int .i64 top, .slice a1 n c1, .slice a2 n c2] 38)).alloc (.cells #[.int .i64 0, .int .i64 lo, .slice aO nO cO, .int .i64 16777216, .int .i64 ly, .slice aY nY cY] 35)).alloc (.cells #[.bool false, .int .i64 0, .slice none 0 0, .slice none 0 0] 38)).alloc (.cells #[.int .i64 0, .int .i64 0, .slice none 0 0, .int .i64 0, .int .i64 0, .slice none 0 0] 35)).heap[w.heap.size + 1]? = some (.cells #[.int .i64 0, .int .i64 lo, .slice aO nO cO, .int .i64 16777216, .int .i64 ly, .slice aY nY cY] 35 (0, 0)) := alloc_lt _ (alloc_lt _ (alloc_at _ (by simp)))
  have kr : ((((w.alloc (.cells #[.bool true, .int .i64 top, .slice a1 n c1, .slice a2 n c2] 38)).alloc (.cells #[.int .i64 0, .int .i64 lo, .slice aO nO cO, .int .i64 16777216, .int .i64 ly, .slice aY nY cY] 35)).alloc (.cells #[.bool false, .int .i64 0, .slice none 0 0, .slice none 0 0] 38)).alloc (.cells #[.int .i64 0, .int .i64 0, .slice none 0 0, .int .i64 0, .int .i64 0, .slice none 0 0] 35)).heap[w.heap.size + 2]? = some (.cells #[.bool false, .int .i64 0, .slice none 0 0, .slice none 0 0] 38 (0, 0)) := alloc_lt _ (alloc_at _ (by simp))
  have ks : ((((w.alloc (.cells #[.bool true, .int .i64 top, .slice a1 n c1, .slice a2 n c2] 38)).alloc (.cells #[.int .i64 0, .int .i64 lo, .slice aO nO cO, .int .i64 16777216, .int .i64 ly, .slice aY nY cY] 35)).alloc (.cells #[.bool false, .int .i64 0, .slice none 0 0, .slice none 0 0] 38)).alloc (.cells #[.int .i64 0, .int .i64 0, .slice none 0 0, .int .i64 0, .int .i64 0, .slice none 0 0] 35)).heap[w.heap.size + 3]? = some (.cells #[.int .i64 0, .int .i64 0, .slice none 0 0, .int .i64 0, .int .i64 0, .slice none 0 0] 35 (0, 0)) := alloc_at _ (by simp)
  have hb1 : Below w.heap.size w ((((w.alloc (.cells #[.bool true, .int .i64 top, .slice a1 n c1, .slice a2 n c2] 38)).alloc (.cells #[.int .i64 0, .int .i64 lo, .slice aO nO cO, .int .i64 16777216, .int .i64 ly, .slice aY nY cY] 35)).alloc (.cells #[.bool false, .int .i64 0, .slice none 0 0, .slice none 0 0] 38)).alloc (.cells #[.int .i64 0, .int .i64 0, .slice none 0 0, .int .i64 0, .int .i64 0, .slice none 0 0] 35)) := by (repeat (first | exact Below.refl _ _ | assumption | refine Below.drew ?_ | refine below_drewN ?_ _ | refine balloc ?_ _ | refine Below.setCell ?_ (by first | (simp; done) | (simp; omega) | omega) _ | refine bchain (by assumption) ?_))
  have q0 : ((((w.alloc (.cells #[.bool true, .int .i64 top, .slice a1 n c1, .slice a2 n c2] 38)).alloc (.cells #[.int .i64 0, .int .i64 lo, .slice aO nO cO, .int .i64 16777216, .int .i64 ly, .slice aY nY cY] 35)).alloc (.cells #[.bool false, .int .i64 0, .slice none 0 0, .slice none 0 0] 38)).alloc (.cells #[.int .i64 0, .int .i64 0, .slice none 0 0, .int .i64 0, .int .i64 0, .slice none 0 0] 35)).cell? ⟨w.heap.size, 0, none⟩ = some (.bool true) := by rw [cell_of_block kl]; rfl
  have q2 : ((((w.alloc (.cells #[.bool true, .int .i64 top, .slice a1 n c1, .slice a2 n c2] 38)).alloc (.cells #[.int .i64 0, .int .i64 lo, .slice aO nO cO, .int .i64 16777216, .int .i64 ly, .slice aY nY cY] 35)).alloc (.cells #[.bool false, .int .i64 0, .slice none 0 0, .slice none 0 0] 38)).alloc (.cells #[.int .i64 0, .int .i64 0, .slice none 0 0, .int .i64 0, .int .i64 0, .slice none 0 0] 35)).cell? ⟨w.heap.size, 2, none⟩ = some (.slice a1 n c1) := by rw [cell_of_block kl]; rfl
  have hI := Lib.hid (show RbI w ((((w.alloc (.cells #[.bool true, .int .i64 top, .slice a1 n c1, .slice a2 n c2] 38)).alloc (.cells #[.int .i64 0, .int .i64 lo, .slice aO nO cO, .int .i64 16777216, .int .i64 ly, .slice aY nY cY] 35)).alloc (.cells #[.bool false, .int .i64 0, .slice none 0 0, .slice none 0 0] 38)).alloc (.cells #[.int .i64 0, .int .i64 0, .slice none 0 0, .int .i64 0, .int .i64 0, .slice none 0 0] 35)) lo ly top a1 n c1 a2 c2 wo wy rO rY aO nO cO aY nY cY rO rY from ⟨kl, km, kr, ks, hm.below hb1, fun G e => .inl e, fun G e => .inl e, hb1⟩)
  clear kl km kr ks hb1 hm
  go_enter Try.func45, Try.ntmps45
  go_wp2_with fail
  obtain ⟨w0, hw0⟩ : ∃ W, ((((w.alloc (.cells #[.bool true, .int .i64 top, .slice a1 n c1, .slice a2 n c2] 38)).alloc (.cells #[.int .i64 0, .int .i64 lo, .slice aO nO cO, .int .i64 16777216, .int .i64 ly, .slice aY nY cY] 35)).alloc (.cells #[.bool false, .int .i64 0, .slice none 0 0, .slice none 0 0] 38)).alloc (.cells #[.int .i64 0, .int .i64 0, .slice none 0 0, .int .i64 0, .int .i64 0, .slice none 0 0] 35)) = W := ⟨_, rfl⟩
  rw [hw0] at hI q0 q2 ⊢
  clear hw0 q0 q2
  go_loopw [7] (fun i wr => RbL w lo ly top a1 n c1 a2 c2 wo wy nt rO rY i wr) (fun i _ => (intOf i + 1).toNat)
  case atStart => exact ⟨n, aO, nO, cO, aY, nY, cY, rO, rY, Nat.le_refl _, rfl, by rw [List.drop_eq_nil_of_le (by rw [HN.out]; exact Nat.le_refl _)]; exact hI.out⟩
  case round =>
    obtain ⟨wq, hwq⟩ : ∃ W, W = wr := ⟨_, rfl⟩
    subst hwq
    obtain ⟨k, aO', nO', cO', aY', nY', cY', rO', rY', hk, rfl, hR⟩ := hrel
    clear hI
    by_cases hk0 : 0 < k
    · obtain ⟨j, rfl⟩ : ∃ j, k = j + 1 := ⟨k - 1, by omega⟩
      obtain ⟨x, hx⟩ : ∃ x, nt[j]? = some x := ⟨_, List.getElem?_eq_getElem (by rw [HN.out]; omega)⟩
      obtain ⟨⟨gA, cA, eA, y0⟩, ⟨gW, cW, eW, y1⟩⟩ := lg_at (HH.out.below hR.hb) hx
      rw [HN.out] at eA eW
      simp only [Value.slice.injEq] at eA eW
      obtain ⟨rfl, _, rfl⟩ := eA
      obtain ⟨rfl, _, rfl⟩ := eW
      have hux := HH.out.wf x (List.mem_of_getElem? hx)
      have HD := Lib.hid (rbW_drop (wo := wo) (wy := wy) hx)
      have HST := Lib.hid (fun W (H : Below wq.heap.size wq W) => rmstore_any (hR.hr.below H) x.1 x.2 hux)
      have HNO := Lib.hid (fun H => st_no (wo := (rbW wo wy (nt.drop (j + 1))).1) (wy := (rbW wo wy (nt.drop (j + 1))).2) (a := x.1) x.2 H)
      have HR := Lib.hid hR
      obtain ⟨x1, x2⟩ := x
      dsimp only at y0 y1 HST HD HNO
      have hc1 : ((j + 1 : Nat) : Int) - 1 = (j : Int) := by omega
      rw [hc1]
      have hd : decide ((0 : Int) ≤ (j : Int)) = true := by simp
      have s1 : ((j : Int)).toNat = j := by omega
      have hj0 : (0 : Int) ≤ (j : Int) := by omega
      have hj1 : (j : Int) < (n : Int) := by omega
      have hj2 : (j : Int) ≤ (n : Int) := by omega
      have kl := hR.kl
      have km := hR.km
      have l2 : wq.cell? ⟨w.heap.size, 2, none⟩ = some (.slice (some ⟨gA, 0, none⟩) n c1) := by rw [cell_of_block kl]; rfl
      have l3 : wq.cell? ⟨w.heap.size, 3, none⟩ = some (.slice (some ⟨gW, 0, none⟩) n c2) := by rw [cell_of_block kl]; rfl
      have m0 : wq.cell? ⟨w.heap.size + 1, 0, none⟩ = some (.int .i64 0) := by rw [cell_of_block km]; rfl
      have m1 : wq.cell? ⟨w.heap.size + 1, 1, none⟩ = some (.int .i64 lo) := by rw [cell_of_block km]; rfl
      have m2 : wq.cell? ⟨w.heap.size + 1, 2, none⟩ = some (.slice aO' nO' cO') := by rw [cell_of_block km]; rfl
      have m3 : wq.cell? ⟨w.heap.size + 1, 3, none⟩ = some (.int .i64 16777216) := by rw [cell_of_block km]; rfl
      have m4 : wq.cell? ⟨w.heap.size + 1, 4, none⟩ = some (.int .i64 ly) := by rw [cell_of_block km]; rfl
      have m5 : wq.cell? ⟨w.heap.size + 1, 5, none⟩ = some (.slice aY' nY' cY') := by rw [cell_of_block km]; rfl
      generalize hmo : (rbW wo wy (nt.drop (j + 1))).1 = mo at *
      generalize hmy : (rbW wo wy (nt.drop (j + 1))).2 = my at *
      generalize hle : LE mo my x1 = le at *
      clear hx hux hR kl km hmo hmy hle
      go_wp2_with fail
      go_cut [8, 9] from 21 to 42 (fun s8 s9 wx => CutR wq lo ly le (stO mo x1 x2) (stY my x1 x2) rO' rY' s8 s9 wx)
      case first =>
        have hBa : Below wq.heap.size wq (wq.alloc (.cells #[.int .i64 0, .int .i64 0, .slice none 0 0, .int .i64 0, .int .i64 0, .slice none 0 0] 35)).drew := by (repeat (first | exact Below.refl _ _ | assumption | refine Below.drew ?_ | refine below_drewN ?_ _ | refine balloc ?_ _ | refine Below.setCell ?_ (by first | (simp; done) | (simp; omega) | omega) _ | refine bchain (by assumption) ?_))
        have hBb : Below wq.heap.size wq wq.drew := (Below.refl _ _).drew
        have hne_l2 : w.heap.size ≠ wq.heap.size := Nat.ne_of_lt (World.block_lt_of_cell? _ _ l2)
        have hne_l3 : w.heap.size ≠ wq.heap.size := Nat.ne_of_lt (World.block_lt_of_cell? _ _ l3)
        have hne_m0 : w.heap.size + 1 ≠ wq.heap.size := Nat.ne_of_lt (World.block_lt_of_cell? _ _ m0)
        have hne_m1 : w.heap.size + 1 ≠ wq.heap.size := Nat.ne_of_lt (World.block_lt_of_cell? _ _ m1)
        have hne_m2 : w.heap.size + 1 ≠ wq.heap.size := Nat.ne_of_lt (World.block_lt_of_cell? _ _ m2)
        have hne_m3 : w.heap.size + 1 ≠ wq.heap.size := Nat.ne_of_lt (World.block_lt_of_cell? _ _ m3)
        have hne_m4 : w.heap.size + 1 ≠ wq.heap.size := Nat.ne_of_lt (World.block_lt_of_cell? _ _ m4)
        have hne_m5 : w.heap.size + 1 ≠ wq.heap.size := Nat.ne_of_lt (World.block_lt_of_cell? _ _ m5)
        have hne_y0 : gA ≠ wq.heap.size := Nat.ne_of_lt (World.block_lt_of_cell? _ _ y0)
        have hne_y1 : gW ≠ wq.heap.size := Nat.ne_of_lt (World.block_lt_of_cell? _ _ y1)
        go_region_held3 (fun w' => w'.cell? ⟨w.heap.size, 2, none⟩ = some (.slice (some ⟨gA, 0, none⟩) n c1) ∧ w'.cell? ⟨w.heap.size, 3, none⟩ = some (.slice (some ⟨gW, 0, none⟩) n c2) ∧ w'.cell? ⟨w.heap.size + 1, 0, none⟩ = some (.int .i64 0) ∧ w'.cell? ⟨w.heap.size + 1, 1, none⟩ = some (.int .i64 lo) ∧ w'.cell? ⟨w.heap.size + 1, 2, none⟩ = some (.slice aO' nO' cO') ∧ w'.cell? ⟨w.heap.size + 1, 3, none⟩ = some (.int .i64 16777216) ∧ w'.cell? ⟨w.heap.size + 1, 4, none⟩ = some (.int .i64 ly) ∧ w'.cell? ⟨w.heap.size + 1, 5, none⟩ = some (.slice aY' nY' cY') ∧ w'.cell? ⟨gA, j, none⟩ = some (.int .i64 x1) ∧ w'.cell? ⟨gW, j, none⟩ = some (.int .u64 x2)) (first | (with_reducible exact ⟨l2, l3, m0, m1, m2, m3, m4, m5, y0, y1⟩) | (with_reducible exact ⟨six_cell l2 hne_l2, six_cell l3 hne_l3, six_cell m0 hne_m0, six_cell m1 hne_m1, six_cell m2 hne_m2, six_cell m3 hne_m3, six_cell m4 hne_m4, six_cell m5 hne_m5, six_cell y0 hne_y0, six_cell y1 hne_y1⟩) | go_keep) (first | (go_at_call 59; (with_reducible refine (HST.out _ hBa).mono ?_); rintro e w6 ⟨aO2, nO2, cO2, aY2, nY2, cY2, rO2, rY2, rfl, hr6, g1, g2, hb6⟩; have Hg1 := Lib.hid g1; have Hg2 := Lib.hid g2; clear g1 g2; have l2 := bcellv hb6 (show (wq.alloc (.cells #[.int .i64 0, .int .i64 0, .slice none 0 0, .int .i64 0, .int .i64 0, .slice none 0 0] 35)).drew.cell? _ = _ from bcellv (balloc (Below.refl _ wq) _) l2); have l3 := bcellv hb6 (show (wq.alloc (.cells #[.int .i64 0, .int .i64 0, .slice none 0 0, .int .i64 0, .int .i64 0, .slice none 0 0] 35)).drew.cell? _ = _ from bcellv (balloc (Below.refl _ wq) _) l3); have m0 := bcellv hb6 (show (wq.alloc (.cells #[.int .i64 0, .int .i64 0, .slice none 0 0, .int .i64 0, .int .i64 0, .slice none 0 0] 35)).drew.cell? _ = _ from bcellv (balloc (Below.refl _ wq) _) m0); have m1 := bcellv hb6 (show (wq.alloc (.cells #[.int .i64 0, .int .i64 0, .slice none 0 0, .int .i64 0, .int .i64 0, .slice none 0 0] 35)).drew.cell? _ = _ from bcellv (balloc (Below.refl _ wq) _) m1); have m2 := bcellv hb6 (show (wq.alloc (.cells #[.int .i64 0, .int .i64 0, .slice none 0 0, .int .i64 0, .int .i64 0, .slice none 0 0] 35)).drew.cell? _ = _ from bcellv (balloc (Below.refl _ wq) _) m2); have m3 := bcellv hb6 (show (wq.alloc (.cells #[.int .i64 0, .int .i64 0, .slice none 0 0, .int .i64 0, .int .i64 0, .slice none 0 0] 35)).drew.cell? _ = _ from bcellv (balloc (Below.refl _ wq) _) m3); have m4 := bcellv hb6 (show (wq.alloc (.cells #[.int .i64 0, .int .i64 0, .slice none 0 0, .int .i64 0, .int .i64 0, .slice none 0 0] 35)).drew.cell? _ = _ from bcellv (balloc (Below.refl _ wq) _) m4); have m5 := bcellv hb6 (show (wq.alloc (.cells #[.int .i64 0, .int .i64 0, .slice none 0 0, .int .i64 0, .int .i64 0, .slice none 0 0] 35)).drew.cell? _ = _ from bcellv (balloc (Below.refl _ wq) _) m5); have y0 := bcellv hb6 (show (wq.alloc (.cells #[.int .i64 0, .int .i64 0, .slice none 0 0, .int .i64 0, .int .i64 0, .slice none 0 0] 35)).drew.cell? _ = _ from bcellv (balloc (Below.refl _ wq) _) y0); have y1 := bcellv hb6 (show (wq.alloc (.cells #[.int .i64 0, .int .i64 0, .slice none 0 0, .int .i64 0, .int .i64 0, .slice none 0 0] 35)).drew.cell? _ = _ from bcellv (balloc (Below.refl _ wq) _) y1); have kv := bblock hb6 (show (wq.alloc (.cells #[.int .i64 0, .int .i64 0, .slice none 0 0, .int .i64 0, .int .i64 0, .slice none 0 0] 35)).drew.heap[_]? = _ from alloc_get wq _); have kv_f : ∀ i, w6.frozen? ⟨wq.heap.size, i, none⟩ = false := frozen_of_block kv; have hzv : wq.heap.size < w6.heap.size := (Array.getElem?_eq_some_iff.1 kv).1; have kv_0 : w6.cell? ⟨wq.heap.size, 0, none⟩ = some (.int .i64 0) := (by rw [cell_of_block kv]; rfl); have kv_1 : w6.cell? ⟨wq.heap.size, 1, none⟩ = some (.int .i64 0) := (by rw [cell_of_block kv]; rfl); have kv_2 : w6.cell? ⟨wq.heap.size, 2, none⟩ = some (.slice none 0 0) := (by rw [cell_of_block kv]; rfl); have kv_3 : w6.cell? ⟨wq.heap.size, 3, none⟩ = some (.int .i64 0) := (by rw [cell_of_block kv]; rfl); have kv_4 : w6.cell? ⟨wq.heap.size, 4, none⟩ = some (.int .i64 0) := (by rw [cell_of_block kv]; rfl); have kv_5 : w6.cell? ⟨wq.heap.size, 5, none⟩ = some (.slice none 0 0) := (by rw [cell_of_block kv]; rfl)) | (go_at_call 59; (with_reducible refine (HST.out _ hBb).mono ?_); rintro e w6 ⟨aO2, nO2, cO2, aY2, nY2, cY2, rO2, rY2, rfl, hr6, g1, g2, hb6⟩; have Hg1 := Lib.hid g1; have Hg2 := Lib.hid g2; clear g1 g2; have l2 := bcellv hb6 (show wq.drew.cell? _ = _ from l2); have l3 := bcellv hb6 (show wq.drew.cell? _ = _ from l3); have m0 := bcellv hb6 (show wq.drew.cell? _ = _ from m0); have m1 := bcellv hb6 (show wq.drew.cell? _ = _ from m1); have m2 := bcellv hb6 (show wq.drew.cell? _ = _ from m2); have m3 := bcellv hb6 (show wq.drew.cell? _ = _ from m3); have m4 := bcellv hb6 (show wq.drew.cell? _ = _ from m4); have m5 := bcellv hb6 (show wq.drew.cell? _ = _ from m5); have y0 := bcellv hb6 (show wq.drew.cell? _ = _ from y0); have y1 := bcellv hb6 (show wq.drew.cell? _ = _ from y1)))
        all_goals (try go_wp2_with fail)
        all_goals go_meet
        · refine ⟨w6.heap.size, aO2, nO2, cO2, aY2, nY2, cY2, rO2, rY2, rfl, rfl, alloc_get _ _, (bchain hb6 hBb).size, hr6.below (balloc (Below.refl _ _) _), Hg1.out, Hg2.out, balloc (bchain hb6 hBb) _⟩
        · refine ⟨wq.heap.size, aO2, nO2, cO2, aY2, nY2, cY2, rO2, rY2, rfl, rfl, set6 kv, Nat.le_refl _, hr6.six kv, fun G e => (Hg1.out G e).imp id (fun h => Nat.le_trans hBa.size h), fun G e => (Hg2.out G e).imp id (fun h => Nat.le_trans hBa.size h), six_below (bchain hb6 hBa) (Nat.le_refl _)⟩
      case rest =>
        obtain ⟨V, aO2, nO2, cO2, aY2, nY2, cY2, rO2, rY2, rfl, rfl, kV, hV, hr2, g1, g2, hbc⟩ := hcut
        have HG1 := Lib.hid g1
        have HG2 := Lib.hid g2
        have HR2 := Lib.hid hr2
        clear g1 g2 hr2
        by_cases h0 : le = 0
        · subst h0
          have km := bblock hbc HR.out.km
          have HF := Lib.hid (HR.out.step HR2.out HG1.out HG2.out hbc)
          have v0 : wc.cell? ⟨V, 0, none⟩ = some (.int .i64 0) := by rw [cell_of_block kV]; rfl
          have v1 : wc.cell? ⟨V, 1, none⟩ = some (.int .i64 lo) := by rw [cell_of_block kV]; rfl
          have v2 : wc.cell? ⟨V, 2, none⟩ = some (.slice aO2 nO2 cO2) := by rw [cell_of_block kV]; rfl
          have v3 : wc.cell? ⟨V, 3, none⟩ = some (.int .i64 16777216) := by rw [cell_of_block kV]; rfl
          have v4 : wc.cell? ⟨V, 4, none⟩ = some (.int .i64 ly) := by rw [cell_of_block kV]; rfl
          have v5 : wc.cell? ⟨V, 5, none⟩ = some (.slice aY2 nY2 cY2) := by rw [cell_of_block kV]; rfl
          have b0 : wc.cell? ⟨w.heap.size + 1, 0, none⟩ = some (.int .i64 0) := by rw [cell_of_block km]; rfl
          have b1 : wc.cell? ⟨w.heap.size + 1, 1, none⟩ = some (.int .i64 lo) := by rw [cell_of_block km]; rfl
          have b2 : wc.cell? ⟨w.heap.size + 1, 2, none⟩ = some (.slice aO' nO' cO') := by rw [cell_of_block km]; rfl
          have b3 : wc.cell? ⟨w.heap.size + 1, 3, none⟩ = some (.int .i64 16777216) := by rw [cell_of_block km]; rfl
          have b4 : wc.cell? ⟨w.heap.size + 1, 4, none⟩ = some (.int .i64 ly) := by rw [cell_of_block km]; rfl
          have b5 : wc.cell? ⟨w.heap.size + 1, 5, none⟩ = some (.slice aY' nY' cY') := by rw [cell_of_block km]; rfl
          have bf : ∀ i, wc.frozen? ⟨w.heap.size + 1, i, none⟩ = false := frozen_of_block km
          clear km kV hbc
          go_wp2
          go_roundw
          case rel => exact ⟨j, aO2, nO2, cO2, aY2, nY2, cY2, rO2, rY2, by omega, rfl, by rw [HD.out]; exact HF.out⟩
          case measure => simp [intOf] <;> omega
        · have hle : (le == 0) = false := by simp [h0]
          have HF := Lib.hid (HR.out.stay hbc)
          have HE := Lib.hid (HNO.out h0)
          clear kV hbc
          go_wp2
          go_roundw
          case rel => exact ⟨j, aO', nO', cO', aY', nY', cY', rO', rY', by omega, rfl, by rw [HD.out, HE.out.1, HE.out.2]; exact HF.out⟩
          case measure => simp [intOf] <;> omega
    · have hk0' : k = 0 := by omega
      subst hk0'
      rw [List.drop_zero] at hR
      have HTR := Lib.hid (fun W (H : Below wq.heap.size wq W) => rtruncate_any (hR.hr.below H).mdY hR.hr.okY top)
      have HOK := Lib.hid (trOk hR.hr.okY top)
      have HTN := Lib.hid (fun H => tr_no (bs := 16777216) (ws := (rbW wo wy nt).2) (x := top) H)
      have kl := hR.kl
      have km := hR.km
      have l1 : wq.cell? ⟨w.heap.size, 1, none⟩ = some (.int .i64 top) := by rw [cell_of_block kl]; rfl
      have m3 : wq.cell? ⟨w.heap.size + 1, 3, none⟩ = some (.int .i64 16777216) := by rw [cell_of_block km]; rfl
      have m4 : wq.cell? ⟨w.heap.size + 1, 4, none⟩ = some (.int .i64 ly) := by rw [cell_of_block km]; rfl
      have m5 : wq.cell? ⟨w.heap.size + 1, 5, none⟩ = some (.slice aY' nY' cY') := by rw [cell_of_block km]; rfl
      have HR := Lib.hid hR
      clear hR kl km
      obtain ⟨te, hte⟩ : ∃ e, trE 16777216 (rbW wo wy nt).2 top = e := ⟨_, rfl⟩
      rw [hte] at HRV HTR HTN
      clear hte
      go_wp2_with fail
      refine (HTR.out _ (by (repeat (first | exact Below.refl _ _ | assumption | refine Below.drew ?_ | refine below_drewN ?_ _ | refine balloc ?_ _ | refine Below.setCell ?_ (by first | (simp; done) | (simp; omega) | omega) _ | refine bchain (by assumption) ?_)))).mono ?_
      rintro e w6 ⟨v', rfl, g', hmd, hg', hb6⟩
      obtain ⟨aY2, cY2, rfl, hry⟩ := hmd
      have HGy := Lib.hid hg'
      have HRy := Lib.hid hry
      have hR6 := HR.out.stay hb6
      have HR6 := Lib.hid hR6
      obtain ⟨ny, hny⟩ : ∃ x, (trW 16777216 (rbW wo wy nt).2 top).length = x := ⟨_, rfl⟩
      rw [hny]
      have HNY := Lib.hid hny
      have hzw : w.heap.size + 3 < w6.heap.size := (Array.getElem?_eq_some_iff.1 hR6.ks).1
      clear hg' hry hR6 hny hb6
      have kl := HR6.out.kl
      have km := alloc_lt (.cells #[.int .i64 16777216, .int .i64 ly, .slice aY2 ny cY2] 33) HR6.out.km
      have kr := alloc_lt (.cells #[.int .i64 16777216, .int .i64 ly, .slice aY2 ny cY2] 33) HR6.out.kr
      have ks := alloc_lt (.cells #[.int .i64 16777216, .int .i64 ly, .slice aY2 ny cY2] 33) HR6.out.ks
      have kS := alloc_get w6 (.cells #[.int .i64 16777216, .int .i64 ly, .slice aY2 ny cY2] 33)
      have hb7 : Below w.heap.size w (w6.alloc (.cells #[.int .i64 16777216, .int .i64 ly, .slice aY2 ny cY2] 33)) := balloc HR6.out.hb _
      have hb67 : Below w6.heap.size w6 (w6.alloc (.cells #[.int .i64 16777216, .int .i64 ly, .slice aY2 ny cY2] 33)) := balloc (Below.refl _ _) _
      have hr7 := HR6.out.hr.below hb67
      have hry7 := HRy.out.keep (fun _ _ _ => bblock hb67)
      go_upto_region 10 with fail
      obtain ⟨w7, hw7⟩ : ∃ W, w6.alloc (.cells #[.int .i64 16777216, .int .i64 ly, .slice aY2 ny cY2] 33) = W := ⟨_, rfl⟩
      rw [hw7] at km kr ks kS hb7 hr7 hry7 ⊢
      clear hw7 kl hb67
      by_cases h0 : te = 0
      · subst h0
        have e0 : (0 : Int) = rv := by simpa using HRV.out
        subst e0
        have p0 : w7.cell? ⟨w6.heap.size, 0, none⟩ = some (.int .i64 16777216) := by rw [cell_of_block kS]; rfl
        have p1 : w7.cell? ⟨w6.heap.size, 1, none⟩ = some (.int .i64 ly) := by rw [cell_of_block kS]; rfl
        have p2 : w7.cell? ⟨w6.heap.size, 2, none⟩ = some (.slice aY2 ny cY2) := by rw [cell_of_block kS]; rfl
        have m0 : w7.cell? ⟨w.heap.size + 1, 0, none⟩ = some (.int .i64 0) := by rw [cell_of_block km]; rfl
        have m1 : w7.cell? ⟨w.heap.size + 1, 1, none⟩ = some (.int .i64 lo) := by rw [cell_of_block km]; rfl
        have m2 : w7.cell? ⟨w.heap.size + 1, 2, none⟩ = some (.slice aO' nO' cO') := by rw [cell_of_block km]; rfl
        have m3 : w7.cell? ⟨w.heap.size + 1, 3, none⟩ = some (.int .i64 16777216) := by rw [cell_of_block km]; rfl
        have m4 : w7.cell? ⟨w.heap.size + 1, 4, none⟩ = some (.int .i64 ly) := by rw [cell_of_block km]; rfl
        have m5 : w7.cell? ⟨w.heap.size + 1, 5, none⟩ = some (.slice aY' nY' cY') := by rw [cell_of_block km]; rfl
        have mf : ∀ i, w7.frozen? ⟨w.heap.size + 1, i, none⟩ = false := frozen_of_block km
        clear kS
        go_upto_region 13 with fail
        have km8 : (((w7.setCell ⟨w.heap.size + 1, 3, none⟩ (.int .i64 16777216)).setCell ⟨w.heap.size + 1, 4, none⟩ (.int .i64 ly)).setCell ⟨w.heap.size + 1, 5, none⟩ (.slice aY2 ny cY2)).heap[w.heap.size + 1]? = some (.cells #[.int .i64 0, .int .i64 lo, .slice aO' nO' cO', .int .i64 16777216, .int .i64 ly, .slice aY2 ny cY2] 35 (0, 0)) := block_set (block_set (block_set km))
        have kr8 : (((w7.setCell ⟨w.heap.size + 1, 3, none⟩ (.int .i64 16777216)).setCell ⟨w.heap.size + 1, 4, none⟩ (.int .i64 ly)).setCell ⟨w.heap.size + 1, 5, none⟩ (.slice aY2 ny cY2)).heap[w.heap.size + 2]? = _ := set_other (set_other (set_other kr (by omega)) (by omega)) (by omega)
        have ks8 : (((w7.setCell ⟨w.heap.size + 1, 3, none⟩ (.int .i64 16777216)).setCell ⟨w.heap.size + 1, 4, none⟩ (.int .i64 ly)).setCell ⟨w.heap.size + 1, 5, none⟩ (.slice aY2 ny cY2)).heap[w.heap.size + 3]? = _ := set_other (set_other (set_other ks (by omega)) (by omega)) (by omega)
        have hM8 : Mods (fun k => k = w.heap.size + 1) w7 (((w7.setCell ⟨w.heap.size + 1, 3, none⟩ (.int .i64 16777216)).setCell ⟨w.heap.size + 1, 4, none⟩ (.int .i64 ly)).setCell ⟨w.heap.size + 1, 5, none⟩ (.slice aY2 ny cY2)) := (((Mods.refl (fun k => k = w.heap.size + 1) w7 : Mods (fun k => k = w.heap.size + 1) w7 w7).setCell (p := ⟨w.heap.size + 1, 3, none⟩) (.inl (by rfl)) _).setCell (p := ⟨w.heap.size + 1, 4, none⟩) (.inl (by rfl)) _).setCell (p := ⟨w.heap.size + 1, 5, none⟩) (.inl (by rfl)) _
        have hb8 : Below w.heap.size w (((w7.setCell ⟨w.heap.size + 1, 3, none⟩ (.int .i64 16777216)).setCell ⟨w.heap.size + 1, 4, none⟩ (.int .i64 ly)).setCell ⟨w.heap.size + 1, 5, none⟩ (.slice aY2 ny cY2)) := by (repeat (first | exact Below.refl _ _ | assumption | refine Below.drew ?_ | refine below_drewN ?_ _ | refine balloc ?_ _ | refine Below.setCell ?_ (by first | (simp; done) | (simp; omega) | omega) _ | refine bchain (by assumption) ?_))
        have hr8 : RMem (((w7.setCell ⟨w.heap.size + 1, 3, none⟩ (.int .i64 16777216)).setCell ⟨w.heap.size + 1, 4, none⟩ (.int .i64 ly)).setCell ⟨w.heap.size + 1, 5, none⟩ (.slice aY2 ny cY2)) aO' nO' cO' aY2 ny cY2 lo ly (rbW wo wy nt).1 (trW 16777216 (rbW wo wy nt).2 top) rO' g' := ⟨hr7.lO, HNY.out, hr7.old.mods hM8 (row_ne hr7.old km (by decide)), hry7.mods hM8 (row_ne hry7 km (by decide)), hr7.okO, HOK.out, hr7.lim⟩
        clear km kr ks p0 p1 p2 m0 m1 m2 m3 m4 m5 mf hM8 hb7 hr7 hry7
        obtain ⟨w8, hw8⟩ : ∃ W, (((w7.setCell ⟨w.heap.size + 1, 3, none⟩ (.int .i64 16777216)).setCell ⟨w.heap.size + 1, 4, none⟩ (.int .i64 ly)).setCell ⟨w.heap.size + 1, 5, none⟩ (.slice aY2 ny cY2)) = W := ⟨_, rfl⟩
        rw [hw8] at km8 kr8 ks8 hb8 hr8 ⊢
        clear hw8
        have HF := Lib.hid (fun W (hM : Mods (fun k => k = w.heap.size + 2 ∨ k = w.heap.size + 3) w8 W) => (⟨aO', nO', cO', aY2, ny, cY2, rO', g', rfl, hr8.mods' hM (fun G e h => h.elim (row_ne hr8.old kr8 (by decide) G e) (row_ne hr8.old ks8 (by decide) G e)) (fun G e h => h.elim (row_ne hr8.yng kr8 (by decide) G e) (row_ne hr8.yng ks8 (by decide) G e)), HR.out.g1, fun G e => ((HGy.out G e).elim (HR.out.g2 G) (fun h => .inr (Nat.le_trans HR.out.hb.size h))), hb8.trans (hM.below hb8.size (fun k hk => by omega))⟩ : RNext w (fun v => .tuple #[.agg #[.bool false, .int .i64 0, .slice none 0 0, .slice none 0 0], v, .int .i64 0]) lo ly (rbW wo wy nt).1 (trW 16777216 (rbW wo wy nt).2 top) rO rY (.returned (.tuple #[.agg #[.bool false, .int .i64 0, .slice none 0 0, .slice none 0 0], .agg #[.int .i64 0, .int .i64 lo, .slice aO' nO' cO', .int .i64 16777216, .int .i64 ly, .slice aY2 ny cY2], .int .i64 0])) W))
        have km := km8
        have kr := kr8
        have ks := ks8
        clear km8 kr8 ks8 hr8
        have m0 : w8.cell? ⟨w.heap.size + 1, 0, none⟩ = some (.int .i64 0) := by rw [cell_of_block km]; rfl
        have m1 : w8.cell? ⟨w.heap.size + 1, 1, none⟩ = some (.int .i64 lo) := by rw [cell_of_block km]; rfl
        have m2 : w8.cell? ⟨w.heap.size + 1, 2, none⟩ = some (.slice aO' nO' cO') := by rw [cell_of_block km]; rfl
        have m3 : w8.cell? ⟨w.heap.size + 1, 3, none⟩ = some (.int .i64 16777216) := by rw [cell_of_block km]; rfl
        have m4 : w8.cell? ⟨w.heap.size + 1, 4, none⟩ = some (.int .i64 ly) := by rw [cell_of_block km]; rfl
        have m5 : w8.cell? ⟨w.heap.size + 1, 5, none⟩ = some (.slice aY2 ny cY2) := by rw [cell_of_block km]; rfl
        have r0 : w8.cell? ⟨w.heap.size + 2, 0, none⟩ = some (.bool false) := by rw [cell_of_block kr]; rfl
        have r1 : w8.cell? ⟨w.heap.size + 2, 1, none⟩ = some (.int .i64 0) := by rw [cell_of_block kr]; rfl
        have r2 : w8.cell? ⟨w.heap.size + 2, 2, none⟩ = some (.slice none 0 0) := by rw [cell_of_block kr]; rfl
        have r3 : w8.cell? ⟨w.heap.size + 2, 3, none⟩ = some (.slice none 0 0) := by rw [cell_of_block kr]; rfl
        have rf : ∀ i, w8.frozen? ⟨w.heap.size + 2, i, none⟩ = false := frozen_of_block kr
        have s0 : w8.cell? ⟨w.heap.size + 3, 0, none⟩ = some (.int .i64 0) := by rw [cell_of_block ks]; rfl
        have s1 : w8.cell? ⟨w.heap.size + 3, 1, none⟩ = some (.int .i64 0) := by rw [cell_of_block ks]; rfl
        have s2 : w8.cell? ⟨w.heap.size + 3, 2, none⟩ = some (.slice none 0 0) := by rw [cell_of_block ks]; rfl
        have s3 : w8.cell? ⟨w.heap.size + 3, 3, none⟩ = some (.int .i64 0) := by rw [cell_of_block ks]; rfl
        have s4 : w8.cell? ⟨w.heap.size + 3, 4, none⟩ = some (.int .i64 0) := by rw [cell_of_block ks]; rfl
        have s5 : w8.cell? ⟨w.heap.size + 3, 5, none⟩ = some (.slice none 0 0) := by rw [cell_of_block ks]; rfl
        have sf : ∀ i, w8.frozen? ⟨w.heap.size + 3, i, none⟩ = false := frozen_of_block ks
        have HKR := Lib.hid kr
        have HKS := Lib.hid ks
        clear km kr ks
        go_wp2_with fail
        go_region
        obtain ⟨w9, hw9⟩ : ∃ W, W = ((((((((((w8.setCell ⟨w.heap.size + 1 + 1, 0, none⟩ (.bool false)).setCell ⟨w.heap.size + 1 + 1, 1, none⟩ (.int .i64 0)).setCell ⟨w.heap.size + 1 + 1, 2, none⟩ (.slice none 0 0)).setCell ⟨w.heap.size + 1 + 1, 3, none⟩ (.slice none 0 0)).setCell ⟨w.heap.size + 1 + 1 + 1, 0, none⟩ (.int .i64 0)).setCell ⟨w.heap.size + 1 + 1 + 1, 1, none⟩ (.int .i64 lo)).setCell ⟨w.heap.size + 1 + 1 + 1, 2, none⟩ (.slice aO' nO' cO')).setCell ⟨w.heap.size + 1 + 1 + 1, 3, none⟩ (.int .i64 16777216)).setCell ⟨w.heap.size + 1 + 1 + 1, 4, none⟩ (.int .i64 ly)).setCell ⟨w.heap.size + 1 + 1 + 1, 5, none⟩ (.slice aY2 ny cY2)) := ⟨_, rfl⟩
        have hE := rb_end HKR.out HKS.out (by omega) hw9
        rw [← hw9]
        obtain ⟨kr9, ks9, hM9⟩ := hE
        clear hw9 m0 m1 m2 m3 m4 m5 r0 r1 r2 r3 rf s0 s1 s2 s3 s4 s5 sf
        have r0 : w9.cell? ⟨w.heap.size + 2, 0, none⟩ = some (.bool false) := by rw [cell_of_block kr9]; rfl
        have r1 : w9.cell? ⟨w.heap.size + 2, 1, none⟩ = some (.int .i64 0) := by rw [cell_of_block kr9]; rfl
        have r2 : w9.cell? ⟨w.heap.size + 2, 2, none⟩ = some (.slice none 0 0) := by rw [cell_of_block kr9]; rfl
        have r3 : w9.cell? ⟨w.heap.size + 2, 3, none⟩ = some (.slice none 0 0) := by rw [cell_of_block kr9]; rfl
        have s0 : w9.cell? ⟨w.heap.size + 3, 0, none⟩ = some (.int .i64 0) := by rw [cell_of_block ks9]; rfl
        have s1 : w9.cell? ⟨w.heap.size + 3, 1, none⟩ = some (.int .i64 lo) := by rw [cell_of_block ks9]; rfl
        have s2 : w9.cell? ⟨w.heap.size + 3, 2, none⟩ = some (.slice aO' nO' cO') := by rw [cell_of_block ks9]; rfl
        have s3 : w9.cell? ⟨w.heap.size + 3, 3, none⟩ = some (.int .i64 16777216) := by rw [cell_of_block ks9]; rfl
        have s4 : w9.cell? ⟨w.heap.size + 3, 4, none⟩ = some (.int .i64 ly) := by rw [cell_of_block ks9]; rfl
        have s5 : w9.cell? ⟨w.heap.size + 3, 5, none⟩ = some (.slice aY2 ny cY2) := by rw [cell_of_block ks9]; rfl
        go_wp2
        refine bodyPost_ret (v := .tuple #[.agg #[.bool false, .int .i64 0, .slice none 0 0, .slice none 0 0], .agg #[.int .i64 0, .int .i64 lo, .slice aO' nO' cO', .int .i64 16777216, .int .i64 ly, .slice aY2 ny cY2], .int .i64 0]) (by simp [results, Try.results45, go_sem, r0, r1, r2, r3, s0, s1, s2, s3, s4, s5]) rfl ?_
        exact HF.out _ hM9.drew
      · have hte : (te != 0) = true := by simp [h0]
        have e0 := HRV.out
        rw [if_neg h0] at e0
        subst e0
        have HE := Lib.hid (HTN.out h0)
        have HF := Lib.hid (fun W (hM : Mods (fun k => k = w.heap.size + 2 ∨ k = w.heap.size + 3) w7 W) => (⟨aO', nO', cO', aY', nY', cY', rO', rY', rfl, by rw [HE.out]; exact hr7.mods' hM (fun G e h => h.elim (row_ne hr7.old kr (by decide) G e) (row_ne hr7.old ks (by decide) G e)) (fun G e h => h.elim (row_ne hr7.yng kr (by decide) G e) (row_ne hr7.yng ks (by decide) G e)), HR.out.g1, HR.out.g2, hb7.trans (hM.below hb7.size (fun k hk => by omega))⟩ : RNext w (fun v => .tuple #[.agg #[.bool false, .int .i64 0, .slice none 0 0, .slice none 0 0], v, .int .i64 11]) lo ly (rbW wo wy nt).1 (trW 16777216 (rbW wo wy nt).2 top) rO rY (.returned (.tuple #[.agg #[.bool false, .int .i64 0, .slice none 0 0, .slice none 0 0], .agg #[.int .i64 0, .int .i64 lo, .slice aO' nO' cO', .int .i64 16777216, .int .i64 ly, .slice aY' nY' cY'], .int .i64 11])) W))
        clear kS hr7 hry7
        have m0 : w7.cell? ⟨w.heap.size + 1, 0, none⟩ = some (.int .i64 0) := by rw [cell_of_block km]; rfl
        have m1 : w7.cell? ⟨w.heap.size + 1, 1, none⟩ = some (.int .i64 lo) := by rw [cell_of_block km]; rfl
        have m2 : w7.cell? ⟨w.heap.size + 1, 2, none⟩ = some (.slice aO' nO' cO') := by rw [cell_of_block km]; rfl
        have m3 : w7.cell? ⟨w.heap.size + 1, 3, none⟩ = some (.int .i64 16777216) := by rw [cell_of_block km]; rfl
        have m4 : w7.cell? ⟨w.heap.size + 1, 4, none⟩ = some (.int .i64 ly) := by rw [cell_of_block km]; rfl
        have m5 : w7.cell? ⟨w.heap.size + 1, 5, none⟩ = some (.slice aY' nY' cY') := by rw [cell_of_block km]; rfl
        have r0 : w7.cell? ⟨w.heap.size + 2, 0, none⟩ = some (.bool false) := by rw [cell_of_block kr]; rfl
        have r1 : w7.cell? ⟨w.heap.size + 2, 1, none⟩ = some (.int .i64 0) := by rw [cell_of_block kr]; rfl
        have r2 : w7.cell? ⟨w.heap.size + 2, 2, none⟩ = some (.slice none 0 0) := by rw [cell_of_block kr]; rfl
        have r3 : w7.cell? ⟨w.heap.size + 2, 3, none⟩ = some (.slice none 0 0) := by rw [cell_of_block kr]; rfl
        have rf : ∀ i, w7.frozen? ⟨w.heap.size + 2, i, none⟩ = false := frozen_of_block kr
        have s0 : w7.cell? ⟨w.heap.size + 3, 0, none⟩ = some (.int .i64 0) := by rw [cell_of_block ks]; rfl
        have s1 : w7.cell? ⟨w.heap.size + 3, 1, none⟩ = some (.int .i64 0) := by rw [cell_of_block ks]; rfl
        have s2 : w7.cell? ⟨w.heap.size + 3, 2, none⟩ = some (.slice none 0 0) := by rw [cell_of_block ks]; rfl
        have s3 : w7.cell? ⟨w.heap.size + 3, 3, none⟩ = some (.int .i64 0) := by rw [cell_of_block ks]; rfl
        have s4 : w7.cell? ⟨w.heap.size + 3, 4, none⟩ = some (.int .i64 0) := by rw [cell_of_block ks]; rfl
        have s5 : w7.cell? ⟨w.heap.size + 3, 5, none⟩ = some (.slice none 0 0) := by rw [cell_of_block ks]; rfl
        have sf : ∀ i, w7.frozen? ⟨w.heap.size + 3, i, none⟩ = false := frozen_of_block ks
        have HKR := Lib.hid kr
        have HKS := Lib.hid ks
        clear km kr ks
        go_wp2_with fail
        go_region
        obtain ⟨w9, hw9⟩ : ∃ W, W = ((((((((((w7.setCell ⟨w.heap.size + 1 + 1, 0, none⟩ (.bool false)).setCell ⟨w.heap.size + 1 + 1, 1, none⟩ (.int .i64 0)).setCell ⟨w.heap.size + 1 + 1, 2, none⟩ (.slice none 0 0)).setCell ⟨w.heap.size + 1 + 1, 3, none⟩ (.slice none 0 0)).setCell ⟨w.heap.size + 1 + 1 + 1, 0, none⟩ (.int .i64 0)).setCell ⟨w.heap.size + 1 + 1 + 1, 1, none⟩ (.int .i64 lo)).setCell ⟨w.heap.size + 1 + 1 + 1, 2, none⟩ (.slice aO' nO' cO')).setCell ⟨w.heap.size + 1 + 1 + 1, 3, none⟩ (.int .i64 16777216)).setCell ⟨w.heap.size + 1 + 1 + 1, 4, none⟩ (.int .i64 ly)).setCell ⟨w.heap.size + 1 + 1 + 1, 5, none⟩ (.slice aY' nY' cY')) := ⟨_, rfl⟩
        have hE := rb_end HKR.out HKS.out (by omega) hw9
        rw [← hw9]
        obtain ⟨kr9, ks9, hM9⟩ := hE
        clear hw9 m0 m1 m2 m3 m4 m5 r0 r1 r2 r3 rf s0 s1 s2 s3 s4 s5 sf
        have r0 : w9.cell? ⟨w.heap.size + 2, 0, none⟩ = some (.bool false) := by rw [cell_of_block kr9]; rfl
        have r1 : w9.cell? ⟨w.heap.size + 2, 1, none⟩ = some (.int .i64 0) := by rw [cell_of_block kr9]; rfl
        have r2 : w9.cell? ⟨w.heap.size + 2, 2, none⟩ = some (.slice none 0 0) := by rw [cell_of_block kr9]; rfl
        have r3 : w9.cell? ⟨w.heap.size + 2, 3, none⟩ = some (.slice none 0 0) := by rw [cell_of_block kr9]; rfl
        have s0 : w9.cell? ⟨w.heap.size + 3, 0, none⟩ = some (.int .i64 0) := by rw [cell_of_block ks9]; rfl
        have s1 : w9.cell? ⟨w.heap.size + 3, 1, none⟩ = some (.int .i64 lo) := by rw [cell_of_block ks9]; rfl
        have s2 : w9.cell? ⟨w.heap.size + 3, 2, none⟩ = some (.slice aO' nO' cO') := by rw [cell_of_block ks9]; rfl
        have s3 : w9.cell? ⟨w.heap.size + 3, 3, none⟩ = some (.int .i64 16777216) := by rw [cell_of_block ks9]; rfl
        have s4 : w9.cell? ⟨w.heap.size + 3, 4, none⟩ = some (.int .i64 ly) := by rw [cell_of_block ks9]; rfl
        have s5 : w9.cell? ⟨w.heap.size + 3, 5, none⟩ = some (.slice aY' nY' cY') := by rw [cell_of_block ks9]; rfl
        go_wp2
        refine bodyPost_ret (v := .tuple #[.agg #[.bool false, .int .i64 0, .slice none 0 0, .slice none 0 0], .agg #[.int .i64 0, .int .i64 lo, .slice aO' nO' cO', .int .i64 16777216, .int .i64 ly, .slice aY' nY' cY'], .int .i64 11]) (by simp [results, Try.results45, go_sem, r0, r1, r2, r3, s0, s1, s2, s3, s4, s5]) rfl ?_
        exact HF.out _ hM9.drew
end Go.Proofs.Ytgipmcmmicppkaa
