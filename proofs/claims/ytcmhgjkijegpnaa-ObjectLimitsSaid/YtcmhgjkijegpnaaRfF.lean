/-
  refmeshref07.Reroute.
-/
import Derived.Test.YtcmhgjkijegpnaaRfE
namespace Go.Proofs.Ytcmhgjkijegpnaa
open Go.RowKit
set_option linter.unusedSimpArgs false
set_option linter.unusedVariables false

theorem block_set {w : World} {k i : Nat} {cs : Array Value} {T : TypeId} {v : Value} (h : w.heap[k]? = some (.cells cs T (0, 0))) : (w.setCell ⟨k, i, none⟩ v).heap[k]? = some (.cells (cs.set! i v) T (0, 0)) := by
  simp [World.setCell, Array.getElem?_modify, h]
theorem set6 {w : World} {k : Nat} {T : TypeId} {a0 a1 a2 a3 a4 a5 b0 b1 b2 b3 b4 b5 : Value} (h : w.heap[k]? = some (.cells #[a0, a1, a2, a3, a4, a5] T (0, 0))) :
    ((((((w.setCell ⟨k, 0, none⟩ b0).setCell ⟨k, 1, none⟩ b1).setCell ⟨k, 2, none⟩ b2).setCell ⟨k, 3, none⟩ b3).setCell ⟨k, 4, none⟩ b4).setCell ⟨k, 5, none⟩ b5).heap[k]? = some (.cells #[b0, b1, b2, b3, b4, b5] T (0, 0)) := by
  exact block_set (block_set (block_set (block_set (block_set (block_set h)))))
theorem set_other {w : World} {k j i : Nat} {v : Value} {o : Obj} (h : w.heap[k]? = some o) (hn : k ≠ j) : (w.setCell ⟨j, i, none⟩ v).heap[k]? = some o := by
  simp [World.setCell, Array.getElem?_modify, Ne.symm hn, h]
theorem nsz6 {w : World} {k : Nat} {b0 b1 b2 b3 b4 b5 : Value} : ((((((w.setCell ⟨k, 0, none⟩ b0).setCell ⟨k, 1, none⟩ b1).setCell ⟨k, 2, none⟩ b2).setCell ⟨k, 3, none⟩ b3).setCell ⟨k, 4, none⟩ b4).setCell ⟨k, 5, none⟩ b5).heap.size = w.heap.size := by simp [World.setCell]
theorem six_other {w : World} {k j : Nat} {o : Obj} {b0 b1 b2 b3 b4 b5 : Value} (h : w.heap[k]? = some o) (hn : k ≠ j) : ((((((w.setCell ⟨j, 0, none⟩ b0).setCell ⟨j, 1, none⟩ b1).setCell ⟨j, 2, none⟩ b2).setCell ⟨j, 3, none⟩ b3).setCell ⟨j, 4, none⟩ b4).setCell ⟨j, 5, none⟩ b5).heap[k]? = some o :=
  set_other (set_other (set_other (set_other (set_other (set_other h hn) hn) hn) hn) hn) hn
theorem six_chain {w wk w' : World} {b0 b1 b2 b3 b4 b5 : Value} (h : Below w.heap.size w wk) (hb : Below (((((((wk.setCell ⟨w.heap.size, 0, none⟩ b0).setCell ⟨w.heap.size, 1, none⟩ b1).setCell ⟨w.heap.size, 2, none⟩ b2).setCell ⟨w.heap.size, 3, none⟩ b3).setCell ⟨w.heap.size, 4, none⟩ b4).setCell ⟨w.heap.size, 5, none⟩ b5)).heap.size ((((((wk.setCell ⟨w.heap.size, 0, none⟩ b0).setCell ⟨w.heap.size, 1, none⟩ b1).setCell ⟨w.heap.size, 2, none⟩ b2).setCell ⟨w.heap.size, 3, none⟩ b3).setCell ⟨w.heap.size, 4, none⟩ b4).setCell ⟨w.heap.size, 5, none⟩ b5) w') : Below w.heap.size w w' := by
  refine bchain hb ?_
  exact below_set (below_set (below_set (below_set (below_set (below_set h _ _ _ (Nat.le_refl _)) _ _ _ (Nat.le_refl _)) _ _ _ (Nat.le_refl _)) _ _ _ (Nat.le_refl _)) _ _ _ (Nat.le_refl _)) _ _ _ (Nat.le_refl _)
theorem RMem.two {w wk W : World} {lo ly : Int} {wo wy wo' wy' : List Int} {gO gY gO' gY' : Option Nat} {aO : Option Addr} {nO cO : Nat} {aY : Option Addr} {nY cY : Nat} {aO' : Option Addr} {nO' cO' : Nat} {aY' : Option Addr} {nY' cY' : Nat}
    (hk : RMem wk aO' nO' cO' aY' nY' cY' lo ly wo' wy' gO' gY') (hm : RMem w aO nO cO aY nY cY lo ly wo wy gO gY) (hgO : ∀ G, gO' = some G → gO = some G ∨ w.heap.size + 2 ≤ G) (hgY : ∀ G, gY' = some G → gY = some G ∨ w.heap.size + 2 ≤ G) (hF : Mods (Two w) wk W) : RMem W aO' nO' cO' aY' nY' cY' lo ly wo' wy' gO' gY' := by
  have l1 := hm.old.lt'
  have l2 := hm.yng.lt'
  refine ⟨hk.lO, hk.lY, hk.old.mods hF (fun G e => ?_), hk.yng.mods hF (fun G e => ?_), hk.okO, hk.okY, hk.lim⟩
  · rintro (h | h) <;> rcases hgO G e with h' | h' <;> first | omega | (have := l1 G h'; omega)
  · rintro (h | h) <;> rcases hgY G e with h' | h' <;> first | omega | (have := l2 G h'; omega)
theorem le_up {wo wy wo' wy' : List Int} {a : Int} (h : HE wo wy a = 0) (h1 : wo'.length = wo.length) (h2 : wy'.length = wy.length) {lo : Int} (hl : (wo.length : Int) ≤ lo) (hlo : lo ≤ 16777216) {i : Int} (hi0 : 0 ≤ i) (hi : i < wordsI (HF wo wy a)) : LE wo' wy' (a + i) = 0 := by
  obtain ⟨_, _, _, h3, h4⟩ := HE_bd h
  have hb : bsA (a + i) = bsA a := by
    unfold bsA wsA at *
    by_cases hq : 16777216 ≤ a
    · rw [if_pos hq, if_pos (by omega)]
    · rw [if_neg hq] at h4 ⊢
      rw [if_neg hq] at h4
      rw [if_neg (by omega)]
  have hw : (wsA wo' wy' (a + i)).length = (wsA wo wy a).length := by
    unfold bsA at hb
    unfold wsA
    by_cases hq : 16777216 ≤ a
    · rw [if_pos hq, if_pos (by omega)]; exact h2
    · rw [if_neg hq] at hb ⊢
      by_cases hq2 : 16777216 ≤ a + i
      · rw [if_pos hq2] at hb; cases hb
      · rw [if_neg hq2]; exact h1
  unfold LE ioE
  rw [hb, hw, if_pos (inB_iff.2 ⟨by omega, by omega⟩)]
set_option maxRecDepth 100000 in
set_option maxHeartbeats 1000000 in
theorem rreroute_e {w : World} {aO : Option Addr} {nO cO : Nat} {aY : Option Addr} {nY cY : Nat} {lo ly : Int} {wo wy : List Int} {gO gY : Option Nat} (hm : RMem w aO nO cO aY nY cY lo ly wo wy gO gY) (a n u : Int) (he : sbE wo wy a ≠ 0) :
    Calls Try.prog 58 #[.agg #[.int .i64 0, .int .i64 lo, .slice aO nO cO, .int .i64 16777216, .int .i64 ly, .slice aY nY cY], .int .i64 a, .int .i64 n, .int .u64 u] w (RNext w (fun v => .tuple #[v, .int .i64 (sbE wo wy a)]) lo ly wo wy gO gY) := by
  have hS := fun W (h : Below w.heap.size w W) => rmstub_any (hm.below h) a
  have hmB := fun W (H : Below w.heap.size w W) => hm.below H
  generalize sbN wo wy a = sn at *
  generalize sbU wo wy a = su at *
  generalize sbE wo wy a = er at *
  have hb1 : (er != 0) = true := by simpa using he
  clear he
  have hw0 : Below w.heap.size w w := Below.refl _ _
  go_enter Try.func58, Try.ntmps58
  go_wp2_with fail
  refine (hS _ (by (repeat (first | exact Below.refl _ _ | assumption | refine Below.drew ?_ | refine below_drewN ?_ _ | refine balloc ?_ _ | refine Below.setCell ?_ (by first | (simp; done) | (simp; omega) | omega) _ | refine bchain (by assumption) ?_)))).mono ?_
  rintro e w1 ⟨rfl, hb1⟩
  have hB1 : Below w.heap.size w w1 := by (repeat (first | exact Below.refl _ _ | assumption | refine Below.drew ?_ | refine below_drewN ?_ _ | refine balloc ?_ _ | refine Below.setCell ?_ (by first | (simp; done) | (simp; omega) | omega) _ | refine bchain (by assumption) ?_))
  have k0 : w1.heap[w.heap.size]? = some (.cells #[.int .i64 0, .int .i64 lo, .slice aO nO cO, .int .i64 16777216, .int .i64 ly, .slice aY nY cY] 35 (0, 0)) := bblock hb1 (by repeat (first | exact alloc_at _ (by simp) | refine alloc_lt _ ?_))
  have r : w1.heap[w.heap.size + 1]? = some (.cells #[.int .i64 0, .int .i64 0, .slice none 0 0, .int .i64 0, .int .i64 0, .slice none 0 0] 35 (0, 0)) := bblock hb1 (by repeat (first | exact alloc_at _ (by simp) | refine alloc_lt _ ?_))
  have hw1 := bchain hB1 hw0
  have hp1 : w.heap.size + 2 ≤ w1.heap.size := by have := (Array.getElem?_eq_some_iff.1 r).1; omega
  have hz_k0 : w.heap.size < w1.heap.size := (Array.getElem?_eq_some_iff.1 k0).1
  have hz_r : w.heap.size + 1 < w1.heap.size := (Array.getElem?_eq_some_iff.1 r).1
  clear hB1
  have k0_0 : w1.cell? ⟨w.heap.size, 0, none⟩ = some (.int .i64 0) := by rw [cell_of_block k0]; rfl
  have k0_1 : w1.cell? ⟨w.heap.size, 1, none⟩ = some (.int .i64 lo) := by rw [cell_of_block k0]; rfl
  have k0_2 : w1.cell? ⟨w.heap.size, 2, none⟩ = some (.slice aO nO cO) := by rw [cell_of_block k0]; rfl
  have k0_3 : w1.cell? ⟨w.heap.size, 3, none⟩ = some (.int .i64 16777216) := by rw [cell_of_block k0]; rfl
  have k0_4 : w1.cell? ⟨w.heap.size, 4, none⟩ = some (.int .i64 ly) := by rw [cell_of_block k0]; rfl
  have k0_5 : w1.cell? ⟨w.heap.size, 5, none⟩ = some (.slice aY nY cY) := by rw [cell_of_block k0]; rfl
  have r_0 : w1.cell? ⟨w.heap.size + 1, 0, none⟩ = some (.int .i64 0) := by rw [cell_of_block r]; rfl
  have r_1 : w1.cell? ⟨w.heap.size + 1, 1, none⟩ = some (.int .i64 0) := by rw [cell_of_block r]; rfl
  have r_2 : w1.cell? ⟨w.heap.size + 1, 2, none⟩ = some (.slice none 0 0) := by rw [cell_of_block r]; rfl
  have r_3 : w1.cell? ⟨w.heap.size + 1, 3, none⟩ = some (.int .i64 0) := by rw [cell_of_block r]; rfl
  have r_4 : w1.cell? ⟨w.heap.size + 1, 4, none⟩ = some (.int .i64 0) := by rw [cell_of_block r]; rfl
  have r_5 : w1.cell? ⟨w.heap.size + 1, 5, none⟩ = some (.slice none 0 0) := by rw [cell_of_block r]; rfl
  have r_f : ∀ i, w1.frozen? ⟨w.heap.size + 1, i, none⟩ = false := frozen_of_block r
  go_wp2
  refine bodyPost_ret (v := .tuple #[.agg #[.int .i64 0, .int .i64 lo, .slice aO nO cO, .int .i64 16777216, .int .i64 ly, .slice aY nY cY], .int .i64 er]) (by simp [results, Try.results58, go_sem, k0_0, k0_1, k0_2, k0_3, k0_4, k0_5, r_0, r_1, r_2, r_3, r_4, r_5, r_f, hz_k0, hz_r]) rfl ?_
  refine rnext_fin (w := w) (wk := w1) (mk := fun v => .tuple #[v, .int .i64 er]) hm (hmB _ hw1) ?_ (fun G e => .inl e) (fun G e => .inl e) ?_
  · (repeat (first | (with_reducible refine Mods.alloc ?_ _) | (with_reducible refine two_set ?_ _ _ _ (.inl rfl)) | (with_reducible refine two_set ?_ _ _ _ (.inr rfl)) | (with_reducible exact Mods.refl _ _)))
  · (repeat (first | (with_reducible refine balloc ?_ _) | (with_reducible refine below_set ?_ _ _ _ (Nat.le_refl _)) | (with_reducible refine below_set ?_ _ _ _ (Nat.le_add_right _ _)) | (with_reducible assumption)))
set_option maxRecDepth 100000 in
set_option maxHeartbeats 1000000 in
theorem rreroute_lo {w : World} {aO : Option Addr} {nO cO : Nat} {aY : Option Addr} {nY cY : Nat} {lo ly : Int} {wo wy : List Int} {gO gY : Option Nat} (hm : RMem w aO nO cO aY nY cY lo ly wo wy gO gY) (a n u : Int) (he : sbE wo wy a = 0) (hn : n < 1) :
    Calls Try.prog 58 #[.agg #[.int .i64 0, .int .i64 lo, .slice aO nO cO, .int .i64 16777216, .int .i64 ly, .slice aY nY cY], .int .i64 a, .int .i64 n, .int .u64 u] w (RNext w (fun v => .tuple #[v, .int .i64 1]) lo ly wo wy gO gY) := by
  have hS := fun W (h : Below w.heap.size w W) => rmstub_any (hm.below h) a
  have hmB := fun W (H : Below w.heap.size w W) => hm.below H
  generalize sbN wo wy a = sn at *
  generalize sbU wo wy a = su at *
  rw [he] at hS
  clear he
  have hw0 : Below w.heap.size w w := Below.refl _ _
  go_enter Try.func58, Try.ntmps58
  go_wp2_with fail
  refine (hS _ (by (repeat (first | exact Below.refl _ _ | assumption | refine Below.drew ?_ | refine below_drewN ?_ _ | refine balloc ?_ _ | refine Below.setCell ?_ (by first | (simp; done) | (simp; omega) | omega) _ | refine bchain (by assumption) ?_)))).mono ?_
  rintro e w1 ⟨rfl, hb1⟩
  have hB1 : Below w.heap.size w w1 := by (repeat (first | exact Below.refl _ _ | assumption | refine Below.drew ?_ | refine below_drewN ?_ _ | refine balloc ?_ _ | refine Below.setCell ?_ (by first | (simp; done) | (simp; omega) | omega) _ | refine bchain (by assumption) ?_))
  have k0 : w1.heap[w.heap.size]? = some (.cells #[.int .i64 0, .int .i64 lo, .slice aO nO cO, .int .i64 16777216, .int .i64 ly, .slice aY nY cY] 35 (0, 0)) := bblock hb1 (by repeat (first | exact alloc_at _ (by simp) | refine alloc_lt _ ?_))
  have r : w1.heap[w.heap.size + 1]? = some (.cells #[.int .i64 0, .int .i64 0, .slice none 0 0, .int .i64 0, .int .i64 0, .slice none 0 0] 35 (0, 0)) := bblock hb1 (by repeat (first | exact alloc_at _ (by simp) | refine alloc_lt _ ?_))
  have hw1 := bchain hB1 hw0
  have hp1 : w.heap.size + 2 ≤ w1.heap.size := by have := (Array.getElem?_eq_some_iff.1 r).1; omega
  have hz_k0 : w.heap.size < w1.heap.size := (Array.getElem?_eq_some_iff.1 k0).1
  have hz_r : w.heap.size + 1 < w1.heap.size := (Array.getElem?_eq_some_iff.1 r).1
  clear hB1
  have k0_0 : w1.cell? ⟨w.heap.size, 0, none⟩ = some (.int .i64 0) := by rw [cell_of_block k0]; rfl
  have k0_1 : w1.cell? ⟨w.heap.size, 1, none⟩ = some (.int .i64 lo) := by rw [cell_of_block k0]; rfl
  have k0_2 : w1.cell? ⟨w.heap.size, 2, none⟩ = some (.slice aO nO cO) := by rw [cell_of_block k0]; rfl
  have k0_3 : w1.cell? ⟨w.heap.size, 3, none⟩ = some (.int .i64 16777216) := by rw [cell_of_block k0]; rfl
  have k0_4 : w1.cell? ⟨w.heap.size, 4, none⟩ = some (.int .i64 ly) := by rw [cell_of_block k0]; rfl
  have k0_5 : w1.cell? ⟨w.heap.size, 5, none⟩ = some (.slice aY nY cY) := by rw [cell_of_block k0]; rfl
  have r_0 : w1.cell? ⟨w.heap.size + 1, 0, none⟩ = some (.int .i64 0) := by rw [cell_of_block r]; rfl
  have r_1 : w1.cell? ⟨w.heap.size + 1, 1, none⟩ = some (.int .i64 0) := by rw [cell_of_block r]; rfl
  have r_2 : w1.cell? ⟨w.heap.size + 1, 2, none⟩ = some (.slice none 0 0) := by rw [cell_of_block r]; rfl
  have r_3 : w1.cell? ⟨w.heap.size + 1, 3, none⟩ = some (.int .i64 0) := by rw [cell_of_block r]; rfl
  have r_4 : w1.cell? ⟨w.heap.size + 1, 4, none⟩ = some (.int .i64 0) := by rw [cell_of_block r]; rfl
  have r_5 : w1.cell? ⟨w.heap.size + 1, 5, none⟩ = some (.slice none 0 0) := by rw [cell_of_block r]; rfl
  have r_f : ∀ i, w1.frozen? ⟨w.heap.size + 1, i, none⟩ = false := frozen_of_block r
  go_wp2
  refine bodyPost_ret (v := .tuple #[.agg #[.int .i64 0, .int .i64 lo, .slice aO nO cO, .int .i64 16777216, .int .i64 ly, .slice aY nY cY], .int .i64 1]) (by simp [results, Try.results58, go_sem, k0_0, k0_1, k0_2, k0_3, k0_4, k0_5, r_0, r_1, r_2, r_3, r_4, r_5, r_f, hz_k0, hz_r]) rfl ?_
  refine rnext_fin (w := w) (wk := w1) (mk := fun v => .tuple #[v, .int .i64 1]) hm (hmB _ hw1) ?_ (fun G e => .inl e) (fun G e => .inl e) ?_
  · (repeat (first | (with_reducible refine Mods.alloc ?_ _) | (with_reducible refine two_set ?_ _ _ _ (.inl rfl)) | (with_reducible refine two_set ?_ _ _ _ (.inr rfl)) | (with_reducible exact Mods.refl _ _)))
  · (repeat (first | (with_reducible refine balloc ?_ _) | (with_reducible refine below_set ?_ _ _ _ (Nat.le_refl _)) | (with_reducible refine below_set ?_ _ _ _ (Nat.le_add_right _ _)) | (with_reducible assumption)))
set_option maxRecDepth 100000 in
set_option maxHeartbeats 1000000 in
theorem rreroute_hi {w : World} {aO : Option Addr} {nO cO : Nat} {aY : Option Addr} {nY cY : Nat} {lo ly : Int} {wo wy : List Int} {gO gY : Option Nat} (hm : RMem w aO nO cO aY nY cY lo ly wo wy gO gY) (a n u : Int) (he : sbE wo wy a = 0) (hn0 : 1 ≤ n) (hn : 8 < n) :
    Calls Try.prog 58 #[.agg #[.int .i64 0, .int .i64 lo, .slice aO nO cO, .int .i64 16777216, .int .i64 ly, .slice aY nY cY], .int .i64 a, .int .i64 n, .int .u64 u] w (RNext w (fun v => .tuple #[v, .int .i64 1]) lo ly wo wy gO gY) := by
  have hS := fun W (h : Below w.heap.size w W) => rmstub_any (hm.below h) a
  have hmB := fun W (H : Below w.heap.size w W) => hm.below H
  generalize sbN wo wy a = sn at *
  generalize sbU wo wy a = su at *
  rw [he] at hS
  clear he
  have hw0 : Below w.heap.size w w := Below.refl _ _
  go_enter Try.func58, Try.ntmps58
  go_wp2_with fail
  refine (hS _ (by (repeat (first | exact Below.refl _ _ | assumption | refine Below.drew ?_ | refine below_drewN ?_ _ | refine balloc ?_ _ | refine Below.setCell ?_ (by first | (simp; done) | (simp; omega) | omega) _ | refine bchain (by assumption) ?_)))).mono ?_
  rintro e w1 ⟨rfl, hb1⟩
  have hB1 : Below w.heap.size w w1 := by (repeat (first | exact Below.refl _ _ | assumption | refine Below.drew ?_ | refine below_drewN ?_ _ | refine balloc ?_ _ | refine Below.setCell ?_ (by first | (simp; done) | (simp; omega) | omega) _ | refine bchain (by assumption) ?_))
  have k0 : w1.heap[w.heap.size]? = some (.cells #[.int .i64 0, .int .i64 lo, .slice aO nO cO, .int .i64 16777216, .int .i64 ly, .slice aY nY cY] 35 (0, 0)) := bblock hb1 (by repeat (first | exact alloc_at _ (by simp) | refine alloc_lt _ ?_))
  have r : w1.heap[w.heap.size + 1]? = some (.cells #[.int .i64 0, .int .i64 0, .slice none 0 0, .int .i64 0, .int .i64 0, .slice none 0 0] 35 (0, 0)) := bblock hb1 (by repeat (first | exact alloc_at _ (by simp) | refine alloc_lt _ ?_))
  have hw1 := bchain hB1 hw0
  have hp1 : w.heap.size + 2 ≤ w1.heap.size := by have := (Array.getElem?_eq_some_iff.1 r).1; omega
  have hz_k0 : w.heap.size < w1.heap.size := (Array.getElem?_eq_some_iff.1 k0).1
  have hz_r : w.heap.size + 1 < w1.heap.size := (Array.getElem?_eq_some_iff.1 r).1
  clear hB1
  have k0_0 : w1.cell? ⟨w.heap.size, 0, none⟩ = some (.int .i64 0) := by rw [cell_of_block k0]; rfl
  have k0_1 : w1.cell? ⟨w.heap.size, 1, none⟩ = some (.int .i64 lo) := by rw [cell_of_block k0]; rfl
  have k0_2 : w1.cell? ⟨w.heap.size, 2, none⟩ = some (.slice aO nO cO) := by rw [cell_of_block k0]; rfl
  have k0_3 : w1.cell? ⟨w.heap.size, 3, none⟩ = some (.int .i64 16777216) := by rw [cell_of_block k0]; rfl
  have k0_4 : w1.cell? ⟨w.heap.size, 4, none⟩ = some (.int .i64 ly) := by rw [cell_of_block k0]; rfl
  have k0_5 : w1.cell? ⟨w.heap.size, 5, none⟩ = some (.slice aY nY cY) := by rw [cell_of_block k0]; rfl
  have r_0 : w1.cell? ⟨w.heap.size + 1, 0, none⟩ = some (.int .i64 0) := by rw [cell_of_block r]; rfl
  have r_1 : w1.cell? ⟨w.heap.size + 1, 1, none⟩ = some (.int .i64 0) := by rw [cell_of_block r]; rfl
  have r_2 : w1.cell? ⟨w.heap.size + 1, 2, none⟩ = some (.slice none 0 0) := by rw [cell_of_block r]; rfl
  have r_3 : w1.cell? ⟨w.heap.size + 1, 3, none⟩ = some (.int .i64 0) := by rw [cell_of_block r]; rfl
  have r_4 : w1.cell? ⟨w.heap.size + 1, 4, none⟩ = some (.int .i64 0) := by rw [cell_of_block r]; rfl
  have r_5 : w1.cell? ⟨w.heap.size + 1, 5, none⟩ = some (.slice none 0 0) := by rw [cell_of_block r]; rfl
  have r_f : ∀ i, w1.frozen? ⟨w.heap.size + 1, i, none⟩ = false := frozen_of_block r
  go_wp2
  refine bodyPost_ret (v := .tuple #[.agg #[.int .i64 0, .int .i64 lo, .slice aO nO cO, .int .i64 16777216, .int .i64 ly, .slice aY nY cY], .int .i64 1]) (by simp [results, Try.results58, go_sem, k0_0, k0_1, k0_2, k0_3, k0_4, k0_5, r_0, r_1, r_2, r_3, r_4, r_5, r_f, hz_k0, hz_r]) rfl ?_
  refine rnext_fin (w := w) (wk := w1) (mk := fun v => .tuple #[v, .int .i64 1]) hm (hmB _ hw1) ?_ (fun G e => .inl e) (fun G e => .inl e) ?_
  · (repeat (first | (with_reducible refine Mods.alloc ?_ _) | (with_reducible refine two_set ?_ _ _ _ (.inl rfl)) | (with_reducible refine two_set ?_ _ _ _ (.inr rfl)) | (with_reducible exact Mods.refl _ _)))
  · (repeat (first | (with_reducible refine balloc ?_ _) | (with_reducible refine below_set ?_ _ _ _ (Nat.le_refl _)) | (with_reducible refine below_set ?_ _ _ _ (Nat.le_add_right _ _)) | (with_reducible assumption)))
set_option maxRecDepth 100000 in
set_option maxHeartbeats 2000000 in
theorem rreroute_y {w : World} {aO : Option Addr} {nO cO : Nat} {aY : Option Addr} {nY cY : Nat} {lo ly : Int} {wo wy : List Int} {gO gY : Option Nat} (hm : RMem w aO nO cO aY nY cY lo ly wo wy gO gY) (a n u : Int) (hu : U64 u) (he : sbE wo wy a = 0) (hn1 : 1 ≤ n) (hn2 : n ≤ 8) :
    Calls Try.prog 58 #[.agg #[.int .i64 0, .int .i64 lo, .slice aO nO cO, .int .i64 16777216, .int .i64 ly, .slice aY nY cY], .int .i64 a, .int .i64 n, .int .u64 u] w (RNext w (fun v => .tuple #[v, .int .i64 0]) lo ly (stO (stO wo (a + 2) n) (a + 3) u) (stY (stY wy (a + 2) n) (a + 3) u) gO gY) := by
  have hS := fun W (h : Below w.heap.size w W) => rmstub_any (hm.below h) a
  have hT := fun W (h : Below w.heap.size w W) => rmstore_any (hm.below h) (a + 2) n (U64.of (by omega) (by omega))
  rw [he] at hS
  have he0 : HE wo wy a = 0 := by
    rw [sbE_of] at he
    by_cases h : HE wo wy a = 0
    · exact h
    · rw [if_pos h] at he; exact absurd he h
  have hbd := HE_bd he0
  have hk1 := (hm.partOk a).b0
  have hk2 := (hm.partOk a).top
  have hk3 := (hm.partOk a).lm1
  have hx0 : 4 ≤ wordsI (HF wo wy a) := by unfold wordsI; split <;> omega
  have ha : 0 ≤ a ∧ a ≤ 1099511627776 := by omega
  obtain ⟨ha0, ha1⟩ := ha
  have hlo := hm.okO.top
  have hz : LE (stO wo (a + 2) n) (stY wy (a + 2) n) (a + 3) = 0 := le_up he0 stO_len stY_len (by omega) hm.lim (by omega) (by omega)
  have hd1 : decide (n < 1) = false := by simpa using hn1
  have hd2 : decide (8 < n) = false := by simpa using hn2
  generalize sbN wo wy a = sn at *
  generalize sbU wo wy a = su at *
  generalize hwo1 : stO wo (a + 2) n = wo1 at *
  generalize hwy1 : stY wy (a + 2) n = wy1 at *
  generalize LE wo wy (a + 2) = l1 at *
  clear hwo1 hwy1 he he0 hbd hk1 hk2 hk3 hx0 hlo
  have hw0 : Below w.heap.size w w := Below.refl _ _
  go_enter Try.func58, Try.ntmps58
  go_wp2_with fail
  refine (hS _ (by (repeat (first | exact Below.refl _ _ | assumption | refine Below.drew ?_ | refine below_drewN ?_ _ | refine balloc ?_ _ | refine Below.setCell ?_ (by first | (simp; done) | (simp; omega) | omega) _ | refine bchain (by assumption) ?_)))).mono ?_
  rintro e w1 ⟨rfl, hb1⟩
  have hB1 : Below w.heap.size w w1 := by (repeat (first | exact Below.refl _ _ | assumption | refine Below.drew ?_ | refine below_drewN ?_ _ | refine balloc ?_ _ | refine Below.setCell ?_ (by first | (simp; done) | (simp; omega) | omega) _ | refine bchain (by assumption) ?_))
  have k0 : w1.heap[w.heap.size]? = some (.cells #[.int .i64 0, .int .i64 lo, .slice aO nO cO, .int .i64 16777216, .int .i64 ly, .slice aY nY cY] 35 (0, 0)) := bblock hb1 (by repeat (first | exact alloc_at _ (by simp) | refine alloc_lt _ ?_))
  have r : w1.heap[w.heap.size + 1]? = some (.cells #[.int .i64 0, .int .i64 0, .slice none 0 0, .int .i64 0, .int .i64 0, .slice none 0 0] 35 (0, 0)) := bblock hb1 (by repeat (first | exact alloc_at _ (by simp) | refine alloc_lt _ ?_))
  have hw1 := bchain hB1 hw0
  have hp1 : w.heap.size + 2 ≤ w1.heap.size := by have := (Array.getElem?_eq_some_iff.1 r).1; omega
  have hz_k0 : w.heap.size < w1.heap.size := (Array.getElem?_eq_some_iff.1 k0).1
  have hz_r : w.heap.size + 1 < w1.heap.size := (Array.getElem?_eq_some_iff.1 r).1
  clear hB1
  have k0_0 : w1.cell? ⟨w.heap.size, 0, none⟩ = some (.int .i64 0) := by rw [cell_of_block k0]; rfl
  have k0_1 : w1.cell? ⟨w.heap.size, 1, none⟩ = some (.int .i64 lo) := by rw [cell_of_block k0]; rfl
  have k0_2 : w1.cell? ⟨w.heap.size, 2, none⟩ = some (.slice aO nO cO) := by rw [cell_of_block k0]; rfl
  have k0_3 : w1.cell? ⟨w.heap.size, 3, none⟩ = some (.int .i64 16777216) := by rw [cell_of_block k0]; rfl
  have k0_4 : w1.cell? ⟨w.heap.size, 4, none⟩ = some (.int .i64 ly) := by rw [cell_of_block k0]; rfl
  have k0_5 : w1.cell? ⟨w.heap.size, 5, none⟩ = some (.slice aY nY cY) := by rw [cell_of_block k0]; rfl
  have k0_f : ∀ i, w1.frozen? ⟨w.heap.size, i, none⟩ = false := frozen_of_block k0
  have r_0 : w1.cell? ⟨w.heap.size + 1, 0, none⟩ = some (.int .i64 0) := by rw [cell_of_block r]; rfl
  have r_1 : w1.cell? ⟨w.heap.size + 1, 1, none⟩ = some (.int .i64 0) := by rw [cell_of_block r]; rfl
  have r_2 : w1.cell? ⟨w.heap.size + 1, 2, none⟩ = some (.slice none 0 0) := by rw [cell_of_block r]; rfl
  have r_3 : w1.cell? ⟨w.heap.size + 1, 3, none⟩ = some (.int .i64 0) := by rw [cell_of_block r]; rfl
  have r_4 : w1.cell? ⟨w.heap.size + 1, 4, none⟩ = some (.int .i64 0) := by rw [cell_of_block r]; rfl
  have r_5 : w1.cell? ⟨w.heap.size + 1, 5, none⟩ = some (.slice none 0 0) := by rw [cell_of_block r]; rfl
  have r_f : ∀ i, w1.frozen? ⟨w.heap.size + 1, i, none⟩ = false := frozen_of_block r
  go_wp2_with fail
  refine (hT _ (by (repeat (first | exact Below.refl _ _ | assumption | refine Below.drew ?_ | refine below_drewN ?_ _ | refine balloc ?_ _ | refine Below.setCell ?_ (by first | (simp; done) | (simp; omega) | omega) _ | refine bchain (by assumption) ?_)))).mono ?_
  rintro e w2 ⟨aO2, nO2, cO2, aY2, nY2, cY2, gO2, gY2, rfl, hR2, hgO2, hgY2, hb2⟩
  have hB2 : Below w1.heap.size w1 w2 := by (repeat (first | exact Below.refl _ _ | assumption | refine Below.drew ?_ | refine below_drewN ?_ _ | refine balloc ?_ _ | refine Below.setCell ?_ (by first | (simp; done) | (simp; omega) | omega) _ | refine bchain (by assumption) ?_))
  have k0 := bblock hB2 k0
  have r := bblock hB2 r
  have hw2 := bchain hB2 hw1
  have hp2 : w.heap.size + 2 ≤ w2.heap.size := by have := (Array.getElem?_eq_some_iff.1 r).1; omega
  clear hz_k0 hz_r
  have hz_k0 : w.heap.size < w2.heap.size := (Array.getElem?_eq_some_iff.1 k0).1
  have hz_r : w.heap.size + 1 < w2.heap.size := (Array.getElem?_eq_some_iff.1 r).1
  clear hB2
  have hgO2 : ∀ G, gO2 = some G → gO = some G ∨ w.heap.size + 2 ≤ G := fun G e => (hgO2 G e).imp id (fun h => by omega)
  have hgY2 : ∀ G, gY2 = some G → gY = some G ∨ w.heap.size + 2 ≤ G := fun G e => (hgY2 G e).imp id (fun h => by omega)
  clear k0_0 k0_1 k0_2 k0_3 k0_4 k0_5 k0_f r_0 r_1 r_2 r_3 r_4 r_5 r_f
  have k0_0 : w2.cell? ⟨w.heap.size, 0, none⟩ = some (.int .i64 0) := by rw [cell_of_block k0]; rfl
  have k0_1 : w2.cell? ⟨w.heap.size, 1, none⟩ = some (.int .i64 lo) := by rw [cell_of_block k0]; rfl
  have k0_2 : w2.cell? ⟨w.heap.size, 2, none⟩ = some (.slice aO nO cO) := by rw [cell_of_block k0]; rfl
  have k0_3 : w2.cell? ⟨w.heap.size, 3, none⟩ = some (.int .i64 16777216) := by rw [cell_of_block k0]; rfl
  have k0_4 : w2.cell? ⟨w.heap.size, 4, none⟩ = some (.int .i64 ly) := by rw [cell_of_block k0]; rfl
  have k0_5 : w2.cell? ⟨w.heap.size, 5, none⟩ = some (.slice aY nY cY) := by rw [cell_of_block k0]; rfl
  have k0_f : ∀ i, w2.frozen? ⟨w.heap.size, i, none⟩ = false := frozen_of_block k0
  have r_0 : w2.cell? ⟨w.heap.size + 1, 0, none⟩ = some (.int .i64 0) := by rw [cell_of_block r]; rfl
  have r_1 : w2.cell? ⟨w.heap.size + 1, 1, none⟩ = some (.int .i64 0) := by rw [cell_of_block r]; rfl
  have r_2 : w2.cell? ⟨w.heap.size + 1, 2, none⟩ = some (.slice none 0 0) := by rw [cell_of_block r]; rfl
  have r_3 : w2.cell? ⟨w.heap.size + 1, 3, none⟩ = some (.int .i64 0) := by rw [cell_of_block r]; rfl
  have r_4 : w2.cell? ⟨w.heap.size + 1, 4, none⟩ = some (.int .i64 0) := by rw [cell_of_block r]; rfl
  have r_5 : w2.cell? ⟨w.heap.size + 1, 5, none⟩ = some (.slice none 0 0) := by rw [cell_of_block r]; rfl
  have r_f : ∀ i, w2.frozen? ⟨w.heap.size + 1, i, none⟩ = false := frozen_of_block r
  go_wp2_with fail
  refine (rmstore_any (hR2.two hm hgO2 hgY2 (by (repeat (first | (with_reducible refine Mods.alloc ?_ _) | (with_reducible refine two_set ?_ _ _ _ (.inl rfl)) | (with_reducible refine two_set ?_ _ _ _ (.inr rfl)) | (with_reducible exact Mods.refl _ _))))) (a + 3) (u) (hu)).mono ?_
  rintro e w3 ⟨aO3, nO3, cO3, aY3, nY3, cY3, gO3, gY3, rfl, hR3, hgO3, hgY3, hb3⟩
  have hz0 := (Array.getElem?_eq_some_iff.1 k0).1
  have hsz := hw2.size
  rw [nsz6] at hgO3 hgY3
  have hB3 : Below w.heap.size w w3 := six_chain hw2 hb3
  have k0' := bblock hb3 (set6 (T := 35) (b0 := .int .i64 0) (b1 := .int .i64 lo) (b2 := .slice aO2 nO2 cO2) (b3 := .int .i64 16777216) (b4 := .int .i64 ly) (b5 := .slice aY2 nY2 cY2) k0)
  have r := bblock hb3 (six_other r (by omega))
  clear k0
  have k0 := k0'
  clear k0'
  have hw3 := hB3
  have hp3 : w.heap.size + 2 ≤ w3.heap.size := by have := hb3.size; rw [nsz6] at this; omega
  have hgO3 : ∀ G, gO3 = some G → gO = some G ∨ w.heap.size + 2 ≤ G := fun G e => (hgO3 G e).elim (hgO2 G) (fun h => .inr (by omega))
  have hgY3 : ∀ G, gY3 = some G → gY = some G ∨ w.heap.size + 2 ≤ G := fun G e => (hgY3 G e).elim (hgY2 G) (fun h => .inr (by omega))
  clear hz_k0 hz_r
  have hz_k0 : w.heap.size < w3.heap.size := (Array.getElem?_eq_some_iff.1 k0).1
  have hz_r : w.heap.size + 1 < w3.heap.size := (Array.getElem?_eq_some_iff.1 r).1
  clear hB3 hz0 hsz
  rw [hz]
  clear hR2 hgO2 hgY2
  clear k0_0 k0_1 k0_2 k0_3 k0_4 k0_5 k0_f r_0 r_1 r_2 r_3 r_4 r_5 r_f
  have k0_0 : w3.cell? ⟨w.heap.size, 0, none⟩ = some (.int .i64 0) := by rw [cell_of_block k0]; rfl
  have k0_1 : w3.cell? ⟨w.heap.size, 1, none⟩ = some (.int .i64 lo) := by rw [cell_of_block k0]; rfl
  have k0_2 : w3.cell? ⟨w.heap.size, 2, none⟩ = some (.slice aO2 nO2 cO2) := by rw [cell_of_block k0]; rfl
  have k0_3 : w3.cell? ⟨w.heap.size, 3, none⟩ = some (.int .i64 16777216) := by rw [cell_of_block k0]; rfl
  have k0_4 : w3.cell? ⟨w.heap.size, 4, none⟩ = some (.int .i64 ly) := by rw [cell_of_block k0]; rfl
  have k0_5 : w3.cell? ⟨w.heap.size, 5, none⟩ = some (.slice aY2 nY2 cY2) := by rw [cell_of_block k0]; rfl
  have k0_f : ∀ i, w3.frozen? ⟨w.heap.size, i, none⟩ = false := frozen_of_block k0
  have r_0 : w3.cell? ⟨w.heap.size + 1, 0, none⟩ = some (.int .i64 0) := by rw [cell_of_block r]; rfl
  have r_1 : w3.cell? ⟨w.heap.size + 1, 1, none⟩ = some (.int .i64 0) := by rw [cell_of_block r]; rfl
  have r_2 : w3.cell? ⟨w.heap.size + 1, 2, none⟩ = some (.slice none 0 0) := by rw [cell_of_block r]; rfl
  have r_3 : w3.cell? ⟨w.heap.size + 1, 3, none⟩ = some (.int .i64 0) := by rw [cell_of_block r]; rfl
  have r_4 : w3.cell? ⟨w.heap.size + 1, 4, none⟩ = some (.int .i64 0) := by rw [cell_of_block r]; rfl
  have r_5 : w3.cell? ⟨w.heap.size + 1, 5, none⟩ = some (.slice none 0 0) := by rw [cell_of_block r]; rfl
  have r_f : ∀ i, w3.frozen? ⟨w.heap.size + 1, i, none⟩ = false := frozen_of_block r
  go_wp2
  refine bodyPost_ret (v := .tuple #[.agg #[.int .i64 0, .int .i64 lo, .slice aO3 nO3 cO3, .int .i64 16777216, .int .i64 ly, .slice aY3 nY3 cY3], .int .i64 0]) (by simp [results, Try.results58, go_sem, k0_0, k0_1, k0_2, k0_3, k0_4, k0_5, k0_f, r_0, r_1, r_2, r_3, r_4, r_5, r_f, hz_k0, hz_r]) rfl ?_
  refine rnext_fin (w := w) (wk := w3) (mk := fun v => .tuple #[v, .int .i64 0]) hm hR3 ?_ hgO3 hgY3 ?_
  · (repeat (first | (with_reducible refine Mods.alloc ?_ _) | (with_reducible refine two_set ?_ _ _ _ (.inl rfl)) | (with_reducible refine two_set ?_ _ _ _ (.inr rfl)) | (with_reducible exact Mods.refl _ _)))
  · (repeat (first | (with_reducible refine balloc ?_ _) | (with_reducible refine below_set ?_ _ _ _ (Nat.le_refl _)) | (with_reducible refine below_set ?_ _ _ _ (Nat.le_add_right _ _)) | (with_reducible assumption)))
theorem rreroute_any {w : World} {aO : Option Addr} {nO cO : Nat} {aY : Option Addr} {nY cY : Nat} {lo ly : Int} {wo wy : List Int} {gO gY : Option Nat} (hm : RMem w aO nO cO aY nY cY lo ly wo wy gO gY) (a n u : Int) (hu : U64 u) : Calls Try.prog 58 #[.agg #[.int .i64 0, .int .i64 lo, .slice aO nO cO, .int .i64 16777216, .int .i64 ly, .slice aY nY cY], .int .i64 a, .int .i64 n, .int .u64 u] w (RNext w (fun v => .tuple #[v, .int .i64 (rrE wo wy a n)]) lo ly (rrM wo wy a n u).1 (rrM wo wy a n u).2 gO gY) := by
  by_cases he : sbE wo wy a = 0
  · by_cases h1 : n < 1
    · have hn : okM n = false := decide_eq_false (by omega)
      have e : rrE wo wy a n = 1 := by unfold rrE; rw [if_neg (by simpa using he), hn]; rfl
      unfold rrM
      rw [e, if_neg (by decide)]
      exact rreroute_lo hm a n u he h1
    · by_cases h2 : 8 < n
      · have hn : okM n = false := decide_eq_false (by omega)
        have e : rrE wo wy a n = 1 := by unfold rrE; rw [if_neg (by simpa using he), hn]; rfl
        unfold rrM
        rw [e, if_neg (by decide)]
        exact rreroute_hi hm a n u he (by omega) h2
      · have hn : okM n = true := decide_eq_true (by omega)
        have e : rrE wo wy a n = 0 := by unfold rrE; rw [if_neg (by simpa using he), hn]; rfl
        unfold rrM
        rw [e, if_pos rfl]
        exact rreroute_y hm a n u hu he (by omega) (by omega)
  · have e : rrE wo wy a n = sbE wo wy a := by unfold rrE; rw [if_pos he]
    unfold rrM
    rw [e, if_neg he]
    exact rreroute_e hm a n u he
end Go.Proofs.Ytcmhgjkijegpnaa
