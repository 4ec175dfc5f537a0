/-
  refmeshref07.ToStub, ToForward.
-/
import Derived.Test.YtcmhgjkijegpnaaRfH
namespace Go.Proofs.Ytcmhgjkijegpnaa
open Go.RowKit
set_option linter.unusedSimpArgs false
set_option linter.unusedVariables false

theorem isE_of {p : Int → Bool} {wo wy : List Int} {a : Int} (he : HE wo wy a = 0) : isE p wo wy a = if p (HK wo wy a) = true then 0 else 7 := by
  unfold isE
  rw [if_neg (by simpa using he)]
theorem isE_bad {p : Int → Bool} {wo wy : List Int} {a : Int} (he : HE wo wy a ≠ 0) : isE p wo wy a = HE wo wy a := by
  unfold isE
  rw [if_pos he]
set_option maxRecDepth 100000 in
set_option maxHeartbeats 1000000 in
theorem rtostub_e {w : World} {aO : Option Addr} {nO cO : Nat} {aY : Option Addr} {nY cY : Nat} {lo ly : Int} {wo wy : List Int} {gO gY : Option Nat} (hm : RMem w aO nO cO aY nY cY lo ly wo wy gO gY) (a n u : Int) (he : HE wo wy a ≠ 0) :
    Calls Try.prog 57 #[.agg #[.int .i64 0, .int .i64 lo, .slice aO nO cO, .int .i64 16777216, .int .i64 ly, .slice aY nY cY], .int .i64 a, .int .i64 n, .int .u64 u] w (RNext w (fun v => .tuple #[v, .int .i64 (HE wo wy a)]) lo ly wo wy gO gY) := by
  have hH := fun W (h : Below w.heap.size w W) => rmhdr_any (hm.below h) a
  have hmB := fun W (H : Below w.heap.size w W) => hm.below H
  generalize HK wo wy a = hk at *
  generalize HC wo wy a = hc at *
  generalize HF wo wy a = hf at *
  generalize HE wo wy a = er at *
  have hb1 : (er != 0) = true := by simpa using he
  clear he
  have hw0 : Below w.heap.size w w := Below.refl _ _
  go_enter Try.func57, Try.ntmps57
  go_wp2_with fail
  refine (hH _ (by (repeat (first | exact Below.refl _ _ | assumption | refine Below.drew ?_ | refine below_drewN ?_ _ | refine balloc ?_ _ | refine Below.setCell ?_ (by first | (simp; done) | (simp; omega) | omega) _ | refine bchain (by assumption) ?_)))).mono ?_
  rintro e w1 ⟨rfl, hb1⟩
  have hB1 : Below w.heap.size w w1 := by (repeat (first | exact Below.refl _ _ | assumption | refine Below.drew ?_ | refine below_drewN ?_ _ | refine balloc ?_ _ | refine Below.setCell ?_ (by first | (simp; done) | (simp; omega) | omega) _ | refine bchain (by assumption) ?_))
  have k0 : w1.heap[w.heap.size]? = some (.cells #[.int .i64 0, .int .i64 lo, .slice aO nO cO, .int .i64 16777216, .int .i64 ly, .slice aY nY cY] 35 (0, 0)) := bblock hb1 (by repeat (first | exact alloc_at _ (by simp) | refine alloc_lt _ ?_))
  have r : w1.heap[w.heap.size + 1]? = some (.cells #[.int .i64 0, .int .i64 0, .slice none 0 0, .int .i64 0, .int .i64 0, .slice none 0 0] 35 (0, 0)) := bblock hb1 (by repeat (first | exact alloc_at _ (by simp) | refine alloc_lt _ ?_))
  have hw1 := bchain hB1 hw0
  have hp1 : w.heap.size + 2 ≤ w1.heap.size := by have := (Array.getElem?_eq_some_iff.1 r).1; omega
  have hz_k0 : w.heap.size < w1.heap.size := (Array.getElem?_eq_some_iff.1 k0).1
  have hz_r : w.heap.size + 1 < w1.heap.size := (Array.getElem?_eq_some_iff.1 r).1
  clear hB1
  have k0_0 : w1.cell? ⟨w.heap.size, 0, none⟩ = some (.int .i64 0) := by rw [cell_of_block k0]; rfl
  have k0_1 : w1.cell? ⟨w.heap.size, 1, none⟩ = some (.int .i64 lo) := by rw [cell_of_block k0]; rfl
  have k0_2 : w1.cell? ⟨w.heap.size, 2, none⟩ = some (.slice aO nO cO) := by rw [cell_of_block k0]; rfl
  have k0_3 : w1.cell? ⟨w.heap.size, 3, none⟩ = some (.int .i64 16777216) := by rw [cell_of_block k0]; rfl
  have k0_4 : w1.cell? ⟨w.heap.size, 4, none⟩ = some (.int .i64 ly) := by rw [cell_of_block k0]; rfl
  have k0_5 : w1.cell? ⟨w.heap.size, 5, none⟩ = some (.slice aY nY cY) := by rw [cell_of_block k0]; rfl
  have r_0 : w1.cell? ⟨w.heap.size + 1, 0, none⟩ = some (.int .i64 0) := by rw [cell_of_block r]; rfl
  have r_1 : w1.cell? ⟨w.heap.size + 1, 1, none⟩ = some (.int .i64 0) := by rw [cell_of_block r]; rfl
  have r_2 : w1.cell? ⟨w.heap.size + 1, 2, none⟩ = some (.slice none 0 0) := by rw [cell_of_block r]; rfl
  have r_3 : w1.cell? ⟨w.heap.size + 1, 3, none⟩ = some (.int .i64 0) := by rw [cell_of_block r]; rfl
  have r_4 : w1.cell? ⟨w.heap.size + 1, 4, none⟩ = some (.int .i64 0) := by rw [cell_of_block r]; rfl
  have r_5 : w1.cell? ⟨w.heap.size + 1, 5, none⟩ = some (.slice none 0 0) := by rw [cell_of_block r]; rfl
  have r_f : ∀ i, w1.frozen? ⟨w.heap.size + 1, i, none⟩ = false := frozen_of_block r
  go_wp2
  refine bodyPost_ret (v := .tuple #[.agg #[.int .i64 0, .int .i64 lo, .slice aO nO cO, .int .i64 16777216, .int .i64 ly, .slice aY nY cY], .int .i64 er]) (by simp [results, Try.results57, go_sem, k0_0, k0_1, k0_2, k0_3, k0_4, k0_5, r_0, r_1, r_2, r_3, r_4, r_5, r_f, hz_k0, hz_r]) rfl ?_
  refine rnext_fin (w := w) (wk := w1) (mk := fun v => .tuple #[v, .int .i64 er]) hm (hmB _ hw1) ?_ (fun G e => .inl e) (fun G e => .inl e) ?_
  · (repeat (first | (with_reducible refine Mods.alloc ?_ _) | (with_reducible refine two_set ?_ _ _ _ (.inl rfl)) | (with_reducible refine two_set ?_ _ _ _ (.inr rfl)) | (with_reducible exact Mods.refl _ _)))
  · (repeat (first | (with_reducible refine balloc ?_ _) | (with_reducible refine below_set ?_ _ _ _ (Nat.le_refl _)) | (with_reducible refine below_set ?_ _ _ _ (Nat.le_add_right _ _)) | (with_reducible assumption)))
set_option maxRecDepth 100000 in
set_option maxHeartbeats 1000000 in
theorem rtostub_3 {w : World} {aO : Option Addr} {nO cO : Nat} {aY : Option Addr} {nY cY : Nat} {lo ly : Int} {wo wy : List Int} {gO gY : Option Nat} (hm : RMem w aO nO cO aY nY cY lo ly wo wy gO gY) (a n u : Int) (he : HE wo wy a = 0) (hs : HK wo wy a = 3) :
    Calls Try.prog 57 #[.agg #[.int .i64 0, .int .i64 lo, .slice aO nO cO, .int .i64 16777216, .int .i64 ly, .slice aY nY cY], .int .i64 a, .int .i64 n, .int .u64 u] w (RNext w (fun v => .tuple #[v, .int .i64 7]) lo ly wo wy gO gY) := by
  have hH := fun W (h : Below w.heap.size w W) => rmhdr_any (hm.below h) a
  have hmB := fun W (H : Below w.heap.size w W) => hm.below H
  rw [he, hs] at hH
  generalize HC wo wy a = hc at *
  generalize HF wo wy a = hf at *
  clear he hs
  have hw0 : Below w.heap.size w w := Below.refl _ _
  go_enter Try.func57, Try.ntmps57
  go_wp2_with fail
  refine (hH _ (by (repeat (first | exact Below.refl _ _ | assumption | refine Below.drew ?_ | refine below_drewN ?_ _ | refine balloc ?_ _ | refine Below.setCell ?_ (by first | (simp; done) | (simp; omega) | omega) _ | refine bchain (by assumption) ?_)))).mono ?_
  rintro e w1 ⟨rfl, hb1⟩
  have hB1 : Below w.heap.size w w1 := by (repeat (first | exact Below.refl _ _ | assumption | refine Below.drew ?_ | refine below_drewN ?_ _ | refine balloc ?_ _ | refine Below.setCell ?_ (by first | (simp; done) | (simp; omega) | omega) _ | refine bchain (by assumption) ?_))
  have k0 : w1.heap[w.heap.size]? = some (.cells #[.int .i64 0, .int .i64 lo, .slice aO nO cO, .int .i64 16777216, .int .i64 ly, .slice aY nY cY] 35 (0, 0)) := bblock hb1 (by repeat (first | exact alloc_at _ (by simp) | refine alloc_lt _ ?_))
  have r : w1.heap[w.heap.size + 1]? = some (.cells #[.int .i64 0, .int .i64 0, .slice none 0 0, .int .i64 0, .int .i64 0, .slice none 0 0] 35 (0, 0)) := bblock hb1 (by repeat (first | exact alloc_at _ (by simp) | refine alloc_lt _ ?_))
  have hw1 := bchain hB1 hw0
  have hp1 : w.heap.size + 2 ≤ w1.heap.size := by have := (Array.getElem?_eq_some_iff.1 r).1; omega
  have hz_k0 : w.heap.size < w1.heap.size := (Array.getElem?_eq_some_iff.1 k0).1
  have hz_r : w.heap.size + 1 < w1.heap.size := (Array.getElem?_eq_some_iff.1 r).1
  clear hB1
  have k0_0 : w1.cell? ⟨w.heap.size, 0, none⟩ = some (.int .i64 0) := by rw [cell_of_block k0]; rfl
  have k0_1 : w1.cell? ⟨w.heap.size, 1, none⟩ = some (.int .i64 lo) := by rw [cell_of_block k0]; rfl
  have k0_2 : w1.cell? ⟨w.heap.size, 2, none⟩ = some (.slice aO nO cO) := by rw [cell_of_block k0]; rfl
  have k0_3 : w1.cell? ⟨w.heap.size, 3, none⟩ = some (.int .i64 16777216) := by rw [cell_of_block k0]; rfl
  have k0_4 : w1.cell? ⟨w.heap.size, 4, none⟩ = some (.int .i64 ly) := by rw [cell_of_block k0]; rfl
  have k0_5 : w1.cell? ⟨w.heap.size, 5, none⟩ = some (.slice aY nY cY) := by rw [cell_of_block k0]; rfl
  have r_0 : w1.cell? ⟨w.heap.size + 1, 0, none⟩ = some (.int .i64 0) := by rw [cell_of_block r]; rfl
  have r_1 : w1.cell? ⟨w.heap.size + 1, 1, none⟩ = some (.int .i64 0) := by rw [cell_of_block r]; rfl
  have r_2 : w1.cell? ⟨w.heap.size + 1, 2, none⟩ = some (.slice none 0 0) := by rw [cell_of_block r]; rfl
  have r_3 : w1.cell? ⟨w.heap.size + 1, 3, none⟩ = some (.int .i64 0) := by rw [cell_of_block r]; rfl
  have r_4 : w1.cell? ⟨w.heap.size + 1, 4, none⟩ = some (.int .i64 0) := by rw [cell_of_block r]; rfl
  have r_5 : w1.cell? ⟨w.heap.size + 1, 5, none⟩ = some (.slice none 0 0) := by rw [cell_of_block r]; rfl
  have r_f : ∀ i, w1.frozen? ⟨w.heap.size + 1, i, none⟩ = false := frozen_of_block r
  go_wp2
  refine bodyPost_ret (v := .tuple #[.agg #[.int .i64 0, .int .i64 lo, .slice aO nO cO, .int .i64 16777216, .int .i64 ly, .slice aY nY cY], .int .i64 7]) (by simp [results, Try.results57, go_sem, k0_0, k0_1, k0_2, k0_3, k0_4, k0_5, r_0, r_1, r_2, r_3, r_4, r_5, r_f, hz_k0, hz_r]) rfl ?_
  refine rnext_fin (w := w) (wk := w1) (mk := fun v => .tuple #[v, .int .i64 7]) hm (hmB _ hw1) ?_ (fun G e => .inl e) (fun G e => .inl e) ?_
  · (repeat (first | (with_reducible refine Mods.alloc ?_ _) | (with_reducible refine two_set ?_ _ _ _ (.inl rfl)) | (with_reducible refine two_set ?_ _ _ _ (.inr rfl)) | (with_reducible exact Mods.refl _ _)))
  · (repeat (first | (with_reducible refine balloc ?_ _) | (with_reducible refine below_set ?_ _ _ _ (Nat.le_refl _)) | (with_reducible refine below_set ?_ _ _ _ (Nat.le_add_right _ _)) | (with_reducible assumption)))
set_option maxRecDepth 100000 in
set_option maxHeartbeats 1000000 in
theorem rtostub_4 {w : World} {aO : Option Addr} {nO cO : Nat} {aY : Option Addr} {nY cY : Nat} {lo ly : Int} {wo wy : List Int} {gO gY : Option Nat} (hm : RMem w aO nO cO aY nY cY lo ly wo wy gO gY) (a n u : Int) (he : HE wo wy a = 0) (hs : HK wo wy a = 4) :
    Calls Try.prog 57 #[.agg #[.int .i64 0, .int .i64 lo, .slice aO nO cO, .int .i64 16777216, .int .i64 ly, .slice aY nY cY], .int .i64 a, .int .i64 n, .int .u64 u] w (RNext w (fun v => .tuple #[v, .int .i64 7]) lo ly wo wy gO gY) := by
  have hH := fun W (h : Below w.heap.size w W) => rmhdr_any (hm.below h) a
  have hmB := fun W (H : Below w.heap.size w W) => hm.below H
  rw [he, hs] at hH
  generalize HC wo wy a = hc at *
  generalize HF wo wy a = hf at *
  clear he hs
  have hw0 : Below w.heap.size w w := Below.refl _ _
  go_enter Try.func57, Try.ntmps57
  go_wp2_with fail
  refine (hH _ (by (repeat (first | exact Below.refl _ _ | assumption | refine Below.drew ?_ | refine below_drewN ?_ _ | refine balloc ?_ _ | refine Below.setCell ?_ (by first | (simp; done) | (simp; omega) | omega) _ | refine bchain (by assumption) ?_)))).mono ?_
  rintro e w1 ⟨rfl, hb1⟩
  have hB1 : Below w.heap.size w w1 := by (repeat (first | exact Below.refl _ _ | assumption | refine Below.drew ?_ | refine below_drewN ?_ _ | refine balloc ?_ _ | refine Below.setCell ?_ (by first | (simp; done) | (simp; omega) | omega) _ | refine bchain (by assumption) ?_))
  have k0 : w1.heap[w.heap.size]? = some (.cells #[.int .i64 0, .int .i64 lo, .slice aO nO cO, .int .i64 16777216, .int .i64 ly, .slice aY nY cY] 35 (0, 0)) := bblock hb1 (by repeat (first | exact alloc_at _ (by simp) | refine alloc_lt _ ?_))
  have r : w1.heap[w.heap.size + 1]? = some (.cells #[.int .i64 0, .int .i64 0, .slice none 0 0, .int .i64 0, .int .i64 0, .slice none 0 0] 35 (0, 0)) := bblock hb1 (by repeat (first | exact alloc_at _ (by simp) | refine alloc_lt _ ?_))
  have hw1 := bchain hB1 hw0
  have hp1 : w.heap.size + 2 ≤ w1.heap.size := by have := (Array.getElem?_eq_some_iff.1 r).1; omega
  have hz_k0 : w.heap.size < w1.heap.size := (Array.getElem?_eq_some_iff.1 k0).1
  have hz_r : w.heap.size + 1 < w1.heap.size := (Array.getElem?_eq_some_iff.1 r).1
  clear hB1
  have k0_0 : w1.cell? ⟨w.heap.size, 0, none⟩ = some (.int .i64 0) := by rw [cell_of_block k0]; rfl
  have k0_1 : w1.cell? ⟨w.heap.size, 1, none⟩ = some (.int .i64 lo) := by rw [cell_of_block k0]; rfl
  have k0_2 : w1.cell? ⟨w.heap.size, 2, none⟩ = some (.slice aO nO cO) := by rw [cell_of_block k0]; rfl
  have k0_3 : w1.cell? ⟨w.heap.size, 3, none⟩ = some (.int .i64 16777216) := by rw [cell_of_block k0]; rfl
  have k0_4 : w1.cell? ⟨w.heap.size, 4, none⟩ = some (.int .i64 ly) := by rw [cell_of_block k0]; rfl
  have k0_5 : w1.cell? ⟨w.heap.size, 5, none⟩ = some (.slice aY nY cY) := by rw [cell_of_block k0]; rfl
  have r_0 : w1.cell? ⟨w.heap.size + 1, 0, none⟩ = some (.int .i64 0) := by rw [cell_of_block r]; rfl
  have r_1 : w1.cell? ⟨w.heap.size + 1, 1, none⟩ = some (.int .i64 0) := by rw [cell_of_block r]; rfl
  have r_2 : w1.cell? ⟨w.heap.size + 1, 2, none⟩ = some (.slice none 0 0) := by rw [cell_of_block r]; rfl
  have r_3 : w1.cell? ⟨w.heap.size + 1, 3, none⟩ = some (.int .i64 0) := by rw [cell_of_block r]; rfl
  have r_4 : w1.cell? ⟨w.heap.size + 1, 4, none⟩ = some (.int .i64 0) := by rw [cell_of_block r]; rfl
  have r_5 : w1.cell? ⟨w.heap.size + 1, 5, none⟩ = some (.slice none 0 0) := by rw [cell_of_block r]; rfl
  have r_f : ∀ i, w1.frozen? ⟨w.heap.size + 1, i, none⟩ = false := frozen_of_block r
  go_wp2
  refine bodyPost_ret (v := .tuple #[.agg #[.int .i64 0, .int .i64 lo, .slice aO nO cO, .int .i64 16777216, .int .i64 ly, .slice aY nY cY], .int .i64 7]) (by simp [results, Try.results57, go_sem, k0_0, k0_1, k0_2, k0_3, k0_4, k0_5, r_0, r_1, r_2, r_3, r_4, r_5, r_f, hz_k0, hz_r]) rfl ?_
  refine rnext_fin (w := w) (wk := w1) (mk := fun v => .tuple #[v, .int .i64 7]) hm (hmB _ hw1) ?_ (fun G e => .inl e) (fun G e => .inl e) ?_
  · (repeat (first | (with_reducible refine Mods.alloc ?_ _) | (with_reducible refine two_set ?_ _ _ _ (.inl rfl)) | (with_reducible refine two_set ?_ _ _ _ (.inr rfl)) | (with_reducible exact Mods.refl _ _)))
  · (repeat (first | (with_reducible refine balloc ?_ _) | (with_reducible refine below_set ?_ _ _ _ (Nat.le_refl _)) | (with_reducible refine below_set ?_ _ _ _ (Nat.le_add_right _ _)) | (with_reducible assumption)))
set_option maxRecDepth 100000 in
set_option maxHeartbeats 1000000 in
theorem rtostub_lo {w : World} {aO : Option Addr} {nO cO : Nat} {aY : Option Addr} {nY cY : Nat} {lo ly : Int} {wo wy : List Int} {gO gY : Option Nat} (hm : RMem w aO nO cO aY nY cY lo ly wo wy gO gY) (a n u : Int) (he : HE wo wy a = 0) (h3 : HK wo wy a ≠ 3) (h4 : HK wo wy a ≠ 4) (hn : n < 1) :
    Calls Try.prog 57 #[.agg #[.int .i64 0, .int .i64 lo, .slice aO nO cO, .int .i64 16777216, .int .i64 ly, .slice aY nY cY], .int .i64 a, .int .i64 n, .int .u64 u] w (RNext w (fun v => .tuple #[v, .int .i64 1]) lo ly wo wy gO gY) := by
  have hH := fun W (h : Below w.heap.size w W) => rmhdr_any (hm.below h) a
  have hmB := fun W (H : Below w.heap.size w W) => hm.below H
  have n3 : (HK wo wy a == 3) = false := by simpa using h3
  have n4 : (HK wo wy a == 4) = false := by simpa using h4
  rw [he] at hH
  generalize HK wo wy a = hk at *
  generalize HC wo wy a = hc at *
  generalize HF wo wy a = hf at *
  have hd1 : decide (n < 1) = true := by simpa using hn
  clear he h3 h4
  have hw0 : Below w.heap.size w w := Below.refl _ _
  go_enter Try.func57, Try.ntmps57
  go_wp2_with fail
  refine (hH _ (by (repeat (first | exact Below.refl _ _ | assumption | refine Below.drew ?_ | refine below_drewN ?_ _ | refine balloc ?_ _ | refine Below.setCell ?_ (by first | (simp; done) | (simp; omega) | omega) _ | refine bchain (by assumption) ?_)))).mono ?_
  rintro e w1 ⟨rfl, hb1⟩
  have hB1 : Below w.heap.size w w1 := by (repeat (first | exact Below.refl _ _ | assumption | refine Below.drew ?_ | refine below_drewN ?_ _ | refine balloc ?_ _ | refine Below.setCell ?_ (by first | (simp; done) | (simp; omega) | omega) _ | refine bchain (by assumption) ?_))
  have k0 : w1.heap[w.heap.size]? = some (.cells #[.int .i64 0, .int .i64 lo, .slice aO nO cO, .int .i64 16777216, .int .i64 ly, .slice aY nY cY] 35 (0, 0)) := bblock hb1 (by repeat (first | exact alloc_at _ (by simp) | refine alloc_lt _ ?_))
  have r : w1.heap[w.heap.size + 1]? = some (.cells #[.int .i64 0, .int .i64 0, .slice none 0 0, .int .i64 0, .int .i64 0, .slice none 0 0] 35 (0, 0)) := bblock hb1 (by repeat (first | exact alloc_at _ (by simp) | refine alloc_lt _ ?_))
  have hw1 := bchain hB1 hw0
  have hp1 : w.heap.size + 2 ≤ w1.heap.size := by have := (Array.getElem?_eq_some_iff.1 r).1; omega
  have hz_k0 : w.heap.size < w1.heap.size := (Array.getElem?_eq_some_iff.1 k0).1
  have hz_r : w.heap.size + 1 < w1.heap.size := (Array.getElem?_eq_some_iff.1 r).1
  clear hB1
  have k0_0 : w1.cell? ⟨w.heap.size, 0, none⟩ = some (.int .i64 0) := by rw [cell_of_block k0]; rfl
  have k0_1 : w1.cell? ⟨w.heap.size, 1, none⟩ = some (.int .i64 lo) := by rw [cell_of_block k0]; rfl
  have k0_2 : w1.cell? ⟨w.heap.size, 2, none⟩ = some (.slice aO nO cO) := by rw [cell_of_block k0]; rfl
  have k0_3 : w1.cell? ⟨w.heap.size, 3, none⟩ = some (.int .i64 16777216) := by rw [cell_of_block k0]; rfl
  have k0_4 : w1.cell? ⟨w.heap.size, 4, none⟩ = some (.int .i64 ly) := by rw [cell_of_block k0]; rfl
  have k0_5 : w1.cell? ⟨w.heap.size, 5, none⟩ = some (.slice aY nY cY) := by rw [cell_of_block k0]; rfl
  have r_0 : w1.cell? ⟨w.heap.size + 1, 0, none⟩ = some (.int .i64 0) := by rw [cell_of_block r]; rfl
  have r_1 : w1.cell? ⟨w.heap.size + 1, 1, none⟩ = some (.int .i64 0) := by rw [cell_of_block r]; rfl
  have r_2 : w1.cell? ⟨w.heap.size + 1, 2, none⟩ = some (.slice none 0 0) := by rw [cell_of_block r]; rfl
  have r_3 : w1.cell? ⟨w.heap.size + 1, 3, none⟩ = some (.int .i64 0) := by rw [cell_of_block r]; rfl
  have r_4 : w1.cell? ⟨w.heap.size + 1, 4, none⟩ = some (.int .i64 0) := by rw [cell_of_block r]; rfl
  have r_5 : w1.cell? ⟨w.heap.size + 1, 5, none⟩ = some (.slice none 0 0) := by rw [cell_of_block r]; rfl
  have r_f : ∀ i, w1.frozen? ⟨w.heap.size + 1, i, none⟩ = false := frozen_of_block r
  go_wp2
  refine bodyPost_ret (v := .tuple #[.agg #[.int .i64 0, .int .i64 lo, .slice aO nO cO, .int .i64 16777216, .int .i64 ly, .slice aY nY cY], .int .i64 1]) (by simp [results, Try.results57, go_sem, k0_0, k0_1, k0_2, k0_3, k0_4, k0_5, r_0, r_1, r_2, r_3, r_4, r_5, r_f, hz_k0, hz_r]) rfl ?_
  refine rnext_fin (w := w) (wk := w1) (mk := fun v => .tuple #[v, .int .i64 1]) hm (hmB _ hw1) ?_ (fun G e => .inl e) (fun G e => .inl e) ?_
  · (repeat (first | (with_reducible refine Mods.alloc ?_ _) | (with_reducible refine two_set ?_ _ _ _ (.inl rfl)) | (with_reducible refine two_set ?_ _ _ _ (.inr rfl)) | (with_reducible exact Mods.refl _ _)))
  · (repeat (first | (with_reducible refine balloc ?_ _) | (with_reducible refine below_set ?_ _ _ _ (Nat.le_refl _)) | (with_reducible refine below_set ?_ _ _ _ (Nat.le_add_right _ _)) | (with_reducible assumption)))
set_option maxRecDepth 100000 in
set_option maxHeartbeats 1000000 in
theorem rtostub_hi {w : World} {aO : Option Addr} {nO cO : Nat} {aY : Option Addr} {nY cY : Nat} {lo ly : Int} {wo wy : List Int} {gO gY : Option Nat} (hm : RMem w aO nO cO aY nY cY lo ly wo wy gO gY) (a n u : Int) (he : HE wo wy a = 0) (h3 : HK wo wy a ≠ 3) (h4 : HK wo wy a ≠ 4) (hn0 : 1 ≤ n) (hn : 8 < n) :
    Calls Try.prog 57 #[.agg #[.int .i64 0, .int .i64 lo, .slice aO nO cO, .int .i64 16777216, .int .i64 ly, .slice aY nY cY], .int .i64 a, .int .i64 n, .int .u64 u] w (RNext w (fun v => .tuple #[v, .int .i64 1]) lo ly wo wy gO gY) := by
  have hH := fun W (h : Below w.heap.size w W) => rmhdr_any (hm.below h) a
  have hmB := fun W (H : Below w.heap.size w W) => hm.below H
  have n3 : (HK wo wy a == 3) = false := by simpa using h3
  have n4 : (HK wo wy a == 4) = false := by simpa using h4
  rw [he] at hH
  generalize HK wo wy a = hk at *
  generalize HC wo wy a = hc at *
  generalize HF wo wy a = hf at *
  have hd1 : decide (n < 1) = false := by simpa using hn0
  have hd2 : decide (8 < n) = true := by simpa using hn
  clear he h3 h4
  have hw0 : Below w.heap.size w w := Below.refl _ _
  go_enter Try.func57, Try.ntmps57
  go_wp2_with fail
  refine (hH _ (by (repeat (first | exact Below.refl _ _ | assumption | refine Below.drew ?_ | refine below_drewN ?_ _ | refine balloc ?_ _ | refine Below.setCell ?_ (by first | (simp; done) | (simp; omega) | omega) _ | refine bchain (by assumption) ?_)))).mono ?_
  rintro e w1 ⟨rfl, hb1⟩
  have hB1 : Below w.heap.size w w1 := by (repeat (first | exact Below.refl _ _ | assumption | refine Below.drew ?_ | refine below_drewN ?_ _ | refine balloc ?_ _ | refine Below.setCell ?_ (by first | (simp; done) | (simp; omega) | omega) _ | refine bchain (by assumption) ?_))
  have k0 : w1.heap[w.heap.size]? = some (.cells #[.int .i64 0, .int .i64 lo, .slice aO nO cO, .int .i64 16777216, .int .i64 ly, .slice aY nY cY] 35 (0, 0)) := bblock hb1 (by repeat (first | exact alloc_at _ (by simp) | refine alloc_lt _ ?_))
  have r : w1.heap[w.heap.size + 1]? = some (.cells #[.int .i64 0, .int .i64 0, .slice none 0 0, .int .i64 0, .int .i64 0, .slice none 0 0] 35 (0, 0)) := bblock hb1 (by repeat (first | exact alloc_at _ (by simp) | refine alloc_lt _ ?_))
  have hw1 := bchain hB1 hw0
  have hp1 : w.heap.size + 2 ≤ w1.heap.size := by have := (Array.getElem?_eq_some_iff.1 r).1; omega
  have hz_k0 : w.heap.size < w1.heap.size := (Array.getElem?_eq_some_iff.1 k0).1
  have hz_r : w.heap.size + 1 < w1.heap.size := (Array.getElem?_eq_some_iff.1 r).1
  clear hB1
  have k0_0 : w1.cell? ⟨w.heap.size, 0, none⟩ = some (.int .i64 0) := by rw [cell_of_block k0]; rfl
  have k0_1 : w1.cell? ⟨w.heap.size, 1, none⟩ = some (.int .i64 lo) := by rw [cell_of_block k0]; rfl
  have k0_2 : w1.cell? ⟨w.heap.size, 2, none⟩ = some (.slice aO nO cO) := by rw [cell_of_block k0]; rfl
  have k0_3 : w1.cell? ⟨w.heap.size, 3, none⟩ = some (.int .i64 16777216) := by rw [cell_of_block k0]; rfl
  have k0_4 : w1.cell? ⟨w.heap.size, 4, none⟩ = some (.int .i64 ly) := by rw [cell_of_block k0]; rfl
  have k0_5 : w1.cell? ⟨w.heap.size, 5, none⟩ = some (.slice aY nY cY) := by rw [cell_of_block k0]; rfl
  have r_0 : w1.cell? ⟨w.heap.size + 1, 0, none⟩ = some (.int .i64 0) := by rw [cell_of_block r]; rfl
  have r_1 : w1.cell? ⟨w.heap.size + 1, 1, none⟩ = some (.int .i64 0) := by rw [cell_of_block r]; rfl
  have r_2 : w1.cell? ⟨w.heap.size + 1, 2, none⟩ = some (.slice none 0 0) := by rw [cell_of_block r]; rfl
  have r_3 : w1.cell? ⟨w.heap.size + 1, 3, none⟩ = some (.int .i64 0) := by rw [cell_of_block r]; rfl
  have r_4 : w1.cell? ⟨w.heap.size + 1, 4, none⟩ = some (.int .i64 0) := by rw [cell_of_block r]; rfl
  have r_5 : w1.cell? ⟨w.heap.size + 1, 5, none⟩ = some (.slice none 0 0) := by rw [cell_of_block r]; rfl
  have r_f : ∀ i, w1.frozen? ⟨w.heap.size + 1, i, none⟩ = false := frozen_of_block r
  go_wp2
  refine bodyPost_ret (v := .tuple #[.agg #[.int .i64 0, .int .i64 lo, .slice aO nO cO, .int .i64 16777216, .int .i64 ly, .slice aY nY cY], .int .i64 1]) (by simp [results, Try.results57, go_sem, k0_0, k0_1, k0_2, k0_3, k0_4, k0_5, r_0, r_1, r_2, r_3, r_4, r_5, r_f, hz_k0, hz_r]) rfl ?_
  refine rnext_fin (w := w) (wk := w1) (mk := fun v => .tuple #[v, .int .i64 1]) hm (hmB _ hw1) ?_ (fun G e => .inl e) (fun G e => .inl e) ?_
  · (repeat (first | (with_reducible refine Mods.alloc ?_ _) | (with_reducible refine two_set ?_ _ _ _ (.inl rfl)) | (with_reducible refine two_set ?_ _ _ _ (.inr rfl)) | (with_reducible exact Mods.refl _ _)))
  · (repeat (first | (with_reducible refine balloc ?_ _) | (with_reducible refine below_set ?_ _ _ _ (Nat.le_refl _)) | (with_reducible refine below_set ?_ _ _ _ (Nat.le_add_right _ _)) | (with_reducible assumption)))
set_option maxRecDepth 100000 in
set_option maxHeartbeats 2000000 in
theorem rtostub_y {w : World} {aO : Option Addr} {nO cO : Nat} {aY : Option Addr} {nY cY : Nat} {lo ly : Int} {wo wy : List Int} {gO gY : Option Nat} (hm : RMem w aO nO cO aY nY cY lo ly wo wy gO gY) (a n u : Int) (hu : U64 u) (he : HE wo wy a = 0) (h3 : HK wo wy a ≠ 3) (h4 : HK wo wy a ≠ 4) (hn1 : 1 ≤ n) (hn2 : n ≤ 8) :
    Calls Try.prog 57 #[.agg #[.int .i64 0, .int .i64 lo, .slice aO nO cO, .int .i64 16777216, .int .i64 ly, .slice aY nY cY], .int .i64 a, .int .i64 n, .int .u64 u] w (RNext w (fun v => .tuple #[v, .int .i64 0]) lo ly (wrM wo wy a 3 [n, u]).1 (wrM wo wy a 3 [n, u]).2 gO gY) := by
  have hH := fun W (h : Below w.heap.size w W) => rmhdr_any (hm.below h) a
  have hpu : ∀ x ∈ [n, u], U64 x := by
    intro x hx
    simp only [List.mem_cons, List.not_mem_nil, or_false] at hx
    rcases hx with rfl | rfl
    · exact U64.of (by omega) (by omega)
    · exact hu
  have hWr := fun (W : World) (H : Below w.heap.size w W) (G : Nat) (hG : G = W.heap.size) => rwrite_any (hm.below (balloc H (.cells #[.int .u64 n, .int .u64 u] 56))) a 3 (.inl rfl) G 2 [n, u] (fun i x hx => by rw [cell_of_block (alloc_at _ hG)]; rcases i with _ | _ | i <;> simp at hx ⊢ <;> exact hx) hpu (by simp) (by omega) he
  have n3 : (HK wo wy a == 3) = false := by simpa using h3
  have n4 : (HK wo wy a == 4) = false := by simpa using h4
  rw [he] at hH
  generalize (wrM wo wy a 3 [n, u]).1 = wo2 at *
  generalize (wrM wo wy a 3 [n, u]).2 = wy2 at *
  generalize HK wo wy a = hk at *
  generalize HC wo wy a = hc at *
  generalize HF wo wy a = hf at *
  have hd1 : decide (n < 1) = false := by simpa using hn1
  have hd2 : decide (8 < n) = false := by simpa using hn2
  clear he h3 h4 hpu hu
  have hw0 : Below w.heap.size w w := Below.refl _ _
  go_enter Try.func57, Try.ntmps57
  go_wp2_with fail
  refine (hH _ (by (repeat (first | exact Below.refl _ _ | assumption | refine Below.drew ?_ | refine below_drewN ?_ _ | refine balloc ?_ _ | refine Below.setCell ?_ (by first | (simp; done) | (simp; omega) | omega) _ | refine bchain (by assumption) ?_)))).mono ?_
  rintro e w1 ⟨rfl, hb1⟩
  have hB1 : Below w.heap.size w w1 := by (repeat (first | exact Below.refl _ _ | assumption | refine Below.drew ?_ | refine below_drewN ?_ _ | refine balloc ?_ _ | refine Below.setCell ?_ (by first | (simp; done) | (simp; omega) | omega) _ | refine bchain (by assumption) ?_))
  have k0 : w1.heap[w.heap.size]? = some (.cells #[.int .i64 0, .int .i64 lo, .slice aO nO cO, .int .i64 16777216, .int .i64 ly, .slice aY nY cY] 35 (0, 0)) := bblock hb1 (by repeat (first | exact alloc_at _ (by simp) | refine alloc_lt _ ?_))
  have r : w1.heap[w.heap.size + 1]? = some (.cells #[.int .i64 0, .int .i64 0, .slice none 0 0, .int .i64 0, .int .i64 0, .slice none 0 0] 35 (0, 0)) := bblock hb1 (by repeat (first | exact alloc_at _ (by simp) | refine alloc_lt _ ?_))
  have hw1 := bchain hB1 hw0
  have hp1 : w.heap.size + 2 ≤ w1.heap.size := by have := (Array.getElem?_eq_some_iff.1 r).1; omega
  have hz_k0 : w.heap.size < w1.heap.size := (Array.getElem?_eq_some_iff.1 k0).1
  have hz_r : w.heap.size + 1 < w1.heap.size := (Array.getElem?_eq_some_iff.1 r).1
  clear hB1
  have k0_0 : w1.cell? ⟨w.heap.size, 0, none⟩ = some (.int .i64 0) := by rw [cell_of_block k0]; rfl
  have k0_1 : w1.cell? ⟨w.heap.size, 1, none⟩ = some (.int .i64 lo) := by rw [cell_of_block k0]; rfl
  have k0_2 : w1.cell? ⟨w.heap.size, 2, none⟩ = some (.slice aO nO cO) := by rw [cell_of_block k0]; rfl
  have k0_3 : w1.cell? ⟨w.heap.size, 3, none⟩ = some (.int .i64 16777216) := by rw [cell_of_block k0]; rfl
  have k0_4 : w1.cell? ⟨w.heap.size, 4, none⟩ = some (.int .i64 ly) := by rw [cell_of_block k0]; rfl
  have k0_5 : w1.cell? ⟨w.heap.size, 5, none⟩ = some (.slice aY nY cY) := by rw [cell_of_block k0]; rfl
  have r_0 : w1.cell? ⟨w.heap.size + 1, 0, none⟩ = some (.int .i64 0) := by rw [cell_of_block r]; rfl
  have r_1 : w1.cell? ⟨w.heap.size + 1, 1, none⟩ = some (.int .i64 0) := by rw [cell_of_block r]; rfl
  have r_2 : w1.cell? ⟨w.heap.size + 1, 2, none⟩ = some (.slice none 0 0) := by rw [cell_of_block r]; rfl
  have r_3 : w1.cell? ⟨w.heap.size + 1, 3, none⟩ = some (.int .i64 0) := by rw [cell_of_block r]; rfl
  have r_4 : w1.cell? ⟨w.heap.size + 1, 4, none⟩ = some (.int .i64 0) := by rw [cell_of_block r]; rfl
  have r_5 : w1.cell? ⟨w.heap.size + 1, 5, none⟩ = some (.slice none 0 0) := by rw [cell_of_block r]; rfl
  have r_f : ∀ i, w1.frozen? ⟨w.heap.size + 1, i, none⟩ = false := frozen_of_block r
  have t0 : True := trivial
  have hal0 : Below w.heap.size w (w1.alloc (.cells #[.int .i64 hk, .int .i64 hc, .int .i64 hf] 23)) := balloc hw1 _
  have hal := balloc hal0 (.cells #[.int .u64 n, .int .u64 u] 56)
  have hsz : w.heap.size + 2 ≤ (World.alloc (w1.alloc (.cells #[.int .i64 hk, .int .i64 hc, .int .i64 hf] 23)) (.cells #[.int .u64 n, .int .u64 u] 56)).heap.size := by simp; omega
  have r0 : (World.alloc (w1.alloc (.cells #[.int .i64 hk, .int .i64 hc, .int .i64 hf] 23)) (.cells #[.int .u64 n, .int .u64 u] 56)).heap[w.heap.size + 1]? = some (.cells #[.int .i64 0, .int .i64 0, .slice none 0 0, .int .i64 0, .int .i64 0, .slice none 0 0] 35 (0, 0)) := (by repeat (first | exact r | refine alloc_lt _ ?_))
  go_wp2_with fail
  refine (hWr _ hal0 _ (by simp)).mono ?_
  rintro e w9 ⟨aO9, nO9, cO9, aY9, nY9, cY9, gO9, gY9, rfl, hR9, hgO9, hgY9, hb9⟩
  have hw9 := bchain hb9 hal
  have r := bblock hb9 r0
  have hz_r : w.heap.size + 1 < w9.heap.size := (Array.getElem?_eq_some_iff.1 r).1
  have hO9 : ∀ G, gO9 = some G → gO = some G ∨ w.heap.size + 2 ≤ G := fun G e => (hgO9 G e).imp id (fun h => by omega)
  have hY9 : ∀ G, gY9 = some G → gY = some G ∨ w.heap.size + 2 ≤ G := fun G e => (hgY9 G e).imp id (fun h => by omega)
  clear hgO9 hgY9 hb9 hal hal0 hsz hWr r0
  clear k0_0 k0_1 k0_2 k0_3 k0_4 k0_5 r_0 r_1 r_2 r_3 r_4 r_5 r_f
  have r_0 : w9.cell? ⟨w.heap.size + 1, 0, none⟩ = some (.int .i64 0) := by rw [cell_of_block r]; rfl
  have r_1 : w9.cell? ⟨w.heap.size + 1, 1, none⟩ = some (.int .i64 0) := by rw [cell_of_block r]; rfl
  have r_2 : w9.cell? ⟨w.heap.size + 1, 2, none⟩ = some (.slice none 0 0) := by rw [cell_of_block r]; rfl
  have r_3 : w9.cell? ⟨w.heap.size + 1, 3, none⟩ = some (.int .i64 0) := by rw [cell_of_block r]; rfl
  have r_4 : w9.cell? ⟨w.heap.size + 1, 4, none⟩ = some (.int .i64 0) := by rw [cell_of_block r]; rfl
  have r_5 : w9.cell? ⟨w.heap.size + 1, 5, none⟩ = some (.slice none 0 0) := by rw [cell_of_block r]; rfl
  have r_f : ∀ i, w9.frozen? ⟨w.heap.size + 1, i, none⟩ = false := frozen_of_block r
  go_wp2
  refine bodyPost_ret (v := .tuple #[.agg #[.int .i64 0, .int .i64 lo, .slice aO9 nO9 cO9, .int .i64 16777216, .int .i64 ly, .slice aY9 nY9 cY9], .int .i64 0]) (by simp [results, Try.results57, go_sem, r_0, r_1, r_2, r_3, r_4, r_5, r_f, hz_r]) rfl ?_
  refine rnext_fin (w := w) (wk := w9) (mk := fun v => .tuple #[v, .int .i64 0]) hm hR9 ?_ hO9 hY9 ?_
  · (repeat (first | (with_reducible refine Mods.alloc ?_ _) | (with_reducible refine two_set ?_ _ _ _ (.inl rfl)) | (with_reducible refine two_set ?_ _ _ _ (.inr rfl)) | (with_reducible exact Mods.refl _ _)))
  · (repeat (first | (with_reducible refine balloc ?_ _) | (with_reducible refine below_set ?_ _ _ _ (Nat.le_refl _)) | (with_reducible refine below_set ?_ _ _ _ (Nat.le_add_right _ _)) | (with_reducible assumption)))
theorem rtostub_any {w : World} {aO : Option Addr} {nO cO : Nat} {aY : Option Addr} {nY cY : Nat} {lo ly : Int} {wo wy : List Int} {gO gY : Option Nat} (hm : RMem w aO nO cO aY nY cY lo ly wo wy gO gY) (a n u : Int) (hu : U64 u) : Calls Try.prog 57 #[.agg #[.int .i64 0, .int .i64 lo, .slice aO nO cO, .int .i64 16777216, .int .i64 ly, .slice aY nY cY], .int .i64 a, .int .i64 n, .int .u64 u] w (RNext w (fun v => .tuple #[v, .int .i64 (tsE wo wy a n)]) lo ly (tsM wo wy a n u).1 (tsM wo wy a n u).2 gO gY) := by
  by_cases he : HE wo wy a = 0
  · by_cases hst : stB (HK wo wy a) = true
    · have e0 : isE (fun k => !stB k) wo wy a = 7 := by rw [isE_of he]; simp [hst]
      have e : tsE wo wy a n = 7 := by unfold tsE; rw [e0, if_pos (by decide)]
      unfold tsM
      rw [e, if_neg (by decide)]
      rcases stB_iff.1 hst with h | h
      · exact rtostub_3 hm a n u he h
      · exact rtostub_4 hm a n u he h
    · have e0 : isE (fun k => !stB k) wo wy a = 0 := by rw [isE_of he]; simp [hst]
      have h3 : HK wo wy a ≠ 3 := fun h => hst (stB_iff.2 (.inl h))
      have h4 : HK wo wy a ≠ 4 := fun h => hst (stB_iff.2 (.inr h))
      by_cases h1 : n < 1
      · have hn : okM n = false := decide_eq_false (by omega)
        have e : tsE wo wy a n = 1 := by unfold tsE; rw [e0, if_neg (by decide), hn]; rfl
        unfold tsM
        rw [e, if_neg (by decide)]
        exact rtostub_lo hm a n u he h3 h4 h1
      · by_cases h2 : 8 < n
        · have hn : okM n = false := decide_eq_false (by omega)
          have e : tsE wo wy a n = 1 := by unfold tsE; rw [e0, if_neg (by decide), hn]; rfl
          unfold tsM
          rw [e, if_neg (by decide)]
          exact rtostub_hi hm a n u he h3 h4 (by omega) h2
        · have hn : okM n = true := decide_eq_true (by omega)
          have e : tsE wo wy a n = 0 := by unfold tsE; rw [e0, if_neg (by decide), hn]; rfl
          unfold tsM
          rw [e, if_pos rfl]
          exact rtostub_y hm a n u hu he h3 h4 (by omega) (by omega)
  · have e : tsE wo wy a n = HE wo wy a := by unfold tsE; rw [isE_bad he, if_pos he]
    unfold tsM
    rw [e, if_neg he]
    exact rtostub_e hm a n u he
set_option maxRecDepth 100000 in
set_option maxHeartbeats 1000000 in
theorem rtofwd_e {w : World} {aO : Option Addr} {nO cO : Nat} {aY : Option Addr} {nY cY : Nat} {lo ly : Int} {wo wy : List Int} {gO gY : Option Nat} (hm : RMem w aO nO cO aY nY cY lo ly wo wy gO gY) (a t : Int) (he : HE wo wy a ≠ 0) :
    Calls Try.prog 60 #[.agg #[.int .i64 0, .int .i64 lo, .slice aO nO cO, .int .i64 16777216, .int .i64 ly, .slice aY nY cY], .int .i64 a, .int .i64 t] w (RNext w (fun v => .tuple #[v, .int .i64 (HE wo wy a)]) lo ly wo wy gO gY) := by
  have hH := fun W (h : Below w.heap.size w W) => rmhdr_any (hm.below h) a
  have hmB := fun W (H : Below w.heap.size w W) => hm.below H
  generalize HK wo wy a = hk at *
  generalize HC wo wy a = hc at *
  generalize HF wo wy a = hf at *
  generalize HE wo wy a = er at *
  have hb1 : (er != 0) = true := by simpa using he
  clear he
  have hw0 : Below w.heap.size w w := Below.refl _ _
  go_enter Try.func60, Try.ntmps60
  go_wp2_with fail
  refine (hH _ (by (repeat (first | exact Below.refl _ _ | assumption | refine Below.drew ?_ | refine below_drewN ?_ _ | refine balloc ?_ _ | refine Below.setCell ?_ (by first | (simp; done) | (simp; omega) | omega) _ | refine bchain (by assumption) ?_)))).mono ?_
  rintro e w1 ⟨rfl, hb1⟩
  have hB1 : Below w.heap.size w w1 := by (repeat (first | exact Below.refl _ _ | assumption | refine Below.drew ?_ | refine below_drewN ?_ _ | refine balloc ?_ _ | refine Below.setCell ?_ (by first | (simp; done) | (simp; omega) | omega) _ | refine bchain (by assumption) ?_))
  have k0 : w1.heap[w.heap.size]? = some (.cells #[.int .i64 0, .int .i64 lo, .slice aO nO cO, .int .i64 16777216, .int .i64 ly, .slice aY nY cY] 35 (0, 0)) := bblock hb1 (by repeat (first | exact alloc_at _ (by simp) | refine alloc_lt _ ?_))
  have r : w1.heap[w.heap.size + 1]? = some (.cells #[.int .i64 0, .int .i64 0, .slice none 0 0, .int .i64 0, .int .i64 0, .slice none 0 0] 35 (0, 0)) := bblock hb1 (by repeat (first | exact alloc_at _ (by simp) | refine alloc_lt _ ?_))
  have hw1 := bchain hB1 hw0
  have hp1 : w.heap.size + 2 ≤ w1.heap.size := by have := (Array.getElem?_eq_some_iff.1 r).1; omega
  have hz_k0 : w.heap.size < w1.heap.size := (Array.getElem?_eq_some_iff.1 k0).1
  have hz_r : w.heap.size + 1 < w1.heap.size := (Array.getElem?_eq_some_iff.1 r).1
  clear hB1
  have k0_0 : w1.cell? ⟨w.heap.size, 0, none⟩ = some (.int .i64 0) := by rw [cell_of_block k0]; rfl
  have k0_1 : w1.cell? ⟨w.heap.size, 1, none⟩ = some (.int .i64 lo) := by rw [cell_of_block k0]; rfl
  have k0_2 : w1.cell? ⟨w.heap.size, 2, none⟩ = some (.slice aO nO cO) := by rw [cell_of_block k0]; rfl
  have k0_3 : w1.cell? ⟨w.heap.size, 3, none⟩ = some (.int .i64 16777216) := by rw [cell_of_block k0]; rfl
  have k0_4 : w1.cell? ⟨w.heap.size, 4, none⟩ = some (.int .i64 ly) := by rw [cell_of_block k0]; rfl
  have k0_5 : w1.cell? ⟨w.heap.size, 5, none⟩ = some (.slice aY nY cY) := by rw [cell_of_block k0]; rfl
  have r_0 : w1.cell? ⟨w.heap.size + 1, 0, none⟩ = some (.int .i64 0) := by rw [cell_of_block r]; rfl
  have r_1 : w1.cell? ⟨w.heap.size + 1, 1, none⟩ = some (.int .i64 0) := by rw [cell_of_block r]; rfl
  have r_2 : w1.cell? ⟨w.heap.size + 1, 2, none⟩ = some (.slice none 0 0) := by rw [cell_of_block r]; rfl
  have r_3 : w1.cell? ⟨w.heap.size + 1, 3, none⟩ = some (.int .i64 0) := by rw [cell_of_block r]; rfl
  have r_4 : w1.cell? ⟨w.heap.size + 1, 4, none⟩ = some (.int .i64 0) := by rw [cell_of_block r]; rfl
  have r_5 : w1.cell? ⟨w.heap.size + 1, 5, none⟩ = some (.slice none 0 0) := by rw [cell_of_block r]; rfl
  have r_f : ∀ i, w1.frozen? ⟨w.heap.size + 1, i, none⟩ = false := frozen_of_block r
  go_wp2
  refine bodyPost_ret (v := .tuple #[.agg #[.int .i64 0, .int .i64 lo, .slice aO nO cO, .int .i64 16777216, .int .i64 ly, .slice aY nY cY], .int .i64 er]) (by simp [results, Try.results60, go_sem, k0_0, k0_1, k0_2, k0_3, k0_4, k0_5, r_0, r_1, r_2, r_3, r_4, r_5, r_f, hz_k0, hz_r]) rfl ?_
  refine rnext_fin (w := w) (wk := w1) (mk := fun v => .tuple #[v, .int .i64 er]) hm (hmB _ hw1) ?_ (fun G e => .inl e) (fun G e => .inl e) ?_
  · (repeat (first | (with_reducible refine Mods.alloc ?_ _) | (with_reducible refine two_set ?_ _ _ _ (.inl rfl)) | (with_reducible refine two_set ?_ _ _ _ (.inr rfl)) | (with_reducible exact Mods.refl _ _)))
  · (repeat (first | (with_reducible refine balloc ?_ _) | (with_reducible refine below_set ?_ _ _ _ (Nat.le_refl _)) | (with_reducible refine below_set ?_ _ _ _ (Nat.le_add_right _ _)) | (with_reducible assumption)))
set_option maxRecDepth 100000 in
set_option maxHeartbeats 1000000 in
theorem rtofwd_4 {w : World} {aO : Option Addr} {nO cO : Nat} {aY : Option Addr} {nY cY : Nat} {lo ly : Int} {wo wy : List Int} {gO gY : Option Nat} (hm : RMem w aO nO cO aY nY cY lo ly wo wy gO gY) (a t : Int) (he : HE wo wy a = 0) (hs : HK wo wy a = 4) :
    Calls Try.prog 60 #[.agg #[.int .i64 0, .int .i64 lo, .slice aO nO cO, .int .i64 16777216, .int .i64 ly, .slice aY nY cY], .int .i64 a, .int .i64 t] w (RNext w (fun v => .tuple #[v, .int .i64 7]) lo ly wo wy gO gY) := by
  have hH := fun W (h : Below w.heap.size w W) => rmhdr_any (hm.below h) a
  have hmB := fun W (H : Below w.heap.size w W) => hm.below H
  rw [he, hs] at hH
  generalize HC wo wy a = hc at *
  generalize HF wo wy a = hf at *
  clear he hs
  have hw0 : Below w.heap.size w w := Below.refl _ _
  go_enter Try.func60, Try.ntmps60
  go_wp2_with fail
  refine (hH _ (by (repeat (first | exact Below.refl _ _ | assumption | refine Below.drew ?_ | refine below_drewN ?_ _ | refine balloc ?_ _ | refine Below.setCell ?_ (by first | (simp; done) | (simp; omega) | omega) _ | refine bchain (by assumption) ?_)))).mono ?_
  rintro e w1 ⟨rfl, hb1⟩
  have hB1 : Below w.heap.size w w1 := by (repeat (first | exact Below.refl _ _ | assumption | refine Below.drew ?_ | refine below_drewN ?_ _ | refine balloc ?_ _ | refine Below.setCell ?_ (by first | (simp; done) | (simp; omega) | omega) _ | refine bchain (by assumption) ?_))
  have k0 : w1.heap[w.heap.size]? = some (.cells #[.int .i64 0, .int .i64 lo, .slice aO nO cO, .int .i64 16777216, .int .i64 ly, .slice aY nY cY] 35 (0, 0)) := bblock hb1 (by repeat (first | exact alloc_at _ (by simp) | refine alloc_lt _ ?_))
  have r : w1.heap[w.heap.size + 1]? = some (.cells #[.int .i64 0, .int .i64 0, .slice none 0 0, .int .i64 0, .int .i64 0, .slice none 0 0] 35 (0, 0)) := bblock hb1 (by repeat (first | exact alloc_at _ (by simp) | refine alloc_lt _ ?_))
  have hw1 := bchain hB1 hw0
  have hp1 : w.heap.size + 2 ≤ w1.heap.size := by have := (Array.getElem?_eq_some_iff.1 r).1; omega
  have hz_k0 : w.heap.size < w1.heap.size := (Array.getElem?_eq_some_iff.1 k0).1
  have hz_r : w.heap.size + 1 < w1.heap.size := (Array.getElem?_eq_some_iff.1 r).1
  clear hB1
  have k0_0 : w1.cell? ⟨w.heap.size, 0, none⟩ = some (.int .i64 0) := by rw [cell_of_block k0]; rfl
  have k0_1 : w1.cell? ⟨w.heap.size, 1, none⟩ = some (.int .i64 lo) := by rw [cell_of_block k0]; rfl
  have k0_2 : w1.cell? ⟨w.heap.size, 2, none⟩ = some (.slice aO nO cO) := by rw [cell_of_block k0]; rfl
  have k0_3 : w1.cell? ⟨w.heap.size, 3, none⟩ = some (.int .i64 16777216) := by rw [cell_of_block k0]; rfl
  have k0_4 : w1.cell? ⟨w.heap.size, 4, none⟩ = some (.int .i64 ly) := by rw [cell_of_block k0]; rfl
  have k0_5 : w1.cell? ⟨w.heap.size, 5, none⟩ = some (.slice aY nY cY) := by rw [cell_of_block k0]; rfl
  have r_0 : w1.cell? ⟨w.heap.size + 1, 0, none⟩ = some (.int .i64 0) := by rw [cell_of_block r]; rfl
  have r_1 : w1.cell? ⟨w.heap.size + 1, 1, none⟩ = some (.int .i64 0) := by rw [cell_of_block r]; rfl
  have r_2 : w1.cell? ⟨w.heap.size + 1, 2, none⟩ = some (.slice none 0 0) := by rw [cell_of_block r]; rfl
  have r_3 : w1.cell? ⟨w.heap.size + 1, 3, none⟩ = some (.int .i64 0) := by rw [cell_of_block r]; rfl
  have r_4 : w1.cell? ⟨w.heap.size + 1, 4, none⟩ = some (.int .i64 0) := by rw [cell_of_block r]; rfl
  have r_5 : w1.cell? ⟨w.heap.size + 1, 5, none⟩ = some (.slice none 0 0) := by rw [cell_of_block r]; rfl
  have r_f : ∀ i, w1.frozen? ⟨w.heap.size + 1, i, none⟩ = false := frozen_of_block r
  go_wp2
  refine bodyPost_ret (v := .tuple #[.agg #[.int .i64 0, .int .i64 lo, .slice aO nO cO, .int .i64 16777216, .int .i64 ly, .slice aY nY cY], .int .i64 7]) (by simp [results, Try.results60, go_sem, k0_0, k0_1, k0_2, k0_3, k0_4, k0_5, r_0, r_1, r_2, r_3, r_4, r_5, r_f, hz_k0, hz_r]) rfl ?_
  refine rnext_fin (w := w) (wk := w1) (mk := fun v => .tuple #[v, .int .i64 7]) hm (hmB _ hw1) ?_ (fun G e => .inl e) (fun G e => .inl e) ?_
  · (repeat (first | (with_reducible refine Mods.alloc ?_ _) | (with_reducible refine two_set ?_ _ _ _ (.inl rfl)) | (with_reducible refine two_set ?_ _ _ _ (.inr rfl)) | (with_reducible exact Mods.refl _ _)))
  · (repeat (first | (with_reducible refine balloc ?_ _) | (with_reducible refine below_set ?_ _ _ _ (Nat.le_refl _)) | (with_reducible refine below_set ?_ _ _ _ (Nat.le_add_right _ _)) | (with_reducible assumption)))
set_option maxRecDepth 100000 in
set_option maxHeartbeats 1000000 in
theorem rtofwd_r {w : World} {aO : Option Addr} {nO cO : Nat} {aY : Option Addr} {nY cY : Nat} {lo ly : Int} {wo wy : List Int} {gO gY : Option Nat} (hm : RMem w aO nO cO aY nY cY lo ly wo wy gO gY) (a t : Int) (he : HE wo wy a = 0) (h4 : HK wo wy a ≠ 4) (hr : RE wo wy t ≠ 0) :
    Calls Try.prog 60 #[.agg #[.int .i64 0, .int .i64 lo, .slice aO nO cO, .int .i64 16777216, .int .i64 ly, .slice aY nY cY], .int .i64 a, .int .i64 t] w (RNext w (fun v => .tuple #[v, .int .i64 1]) lo ly wo wy gO gY) := by
  have hH := fun W (h : Below w.heap.size w W) => rmhdr_any (hm.below h) a
  have hmB := fun W (H : Below w.heap.size w W) => hm.below H
  have hV := fun W (h : Below w.heap.size w W) => rresolve_any (hm.below h) t
  have n4 : (HK wo wy a == 4) = false := by simpa using h4
  rw [he] at hH
  generalize HK wo wy a = hk at *
  generalize HC wo wy a = hc at *
  generalize HF wo wy a = hf at *
  generalize RA wo wy t = ra at *
  generalize RE wo wy t = re at *
  have hb1 : (re != 0) = true := by simpa using hr
  clear he h4 hr
  have hw0 : Below w.heap.size w w := Below.refl _ _
  go_enter Try.func60, Try.ntmps60
  go_wp2_with fail
  refine (hH _ (by (repeat (first | exact Below.refl _ _ | assumption | refine Below.drew ?_ | refine below_drewN ?_ _ | refine balloc ?_ _ | refine Below.setCell ?_ (by first | (simp; done) | (simp; omega) | omega) _ | refine bchain (by assumption) ?_)))).mono ?_
  rintro e w1 ⟨rfl, hb1⟩
  have hB1 : Below w.heap.size w w1 := by (repeat (first | exact Below.refl _ _ | assumption | refine Below.drew ?_ | refine below_drewN ?_ _ | refine balloc ?_ _ | refine Below.setCell ?_ (by first | (simp; done) | (simp; omega) | omega) _ | refine bchain (by assumption) ?_))
  have k0 : w1.heap[w.heap.size]? = some (.cells #[.int .i64 0, .int .i64 lo, .slice aO nO cO, .int .i64 16777216, .int .i64 ly, .slice aY nY cY] 35 (0, 0)) := bblock hb1 (by repeat (first | exact alloc_at _ (by simp) | refine alloc_lt _ ?_))
  have r : w1.heap[w.heap.size + 1]? = some (.cells #[.int .i64 0, .int .i64 0, .slice none 0 0, .int .i64 0, .int .i64 0, .slice none 0 0] 35 (0, 0)) := bblock hb1 (by repeat (first | exact alloc_at _ (by simp) | refine alloc_lt _ ?_))
  have hw1 := bchain hB1 hw0
  have hp1 : w.heap.size + 2 ≤ w1.heap.size := by have := (Array.getElem?_eq_some_iff.1 r).1; omega
  have hz_k0 : w.heap.size < w1.heap.size := (Array.getElem?_eq_some_iff.1 k0).1
  have hz_r : w.heap.size + 1 < w1.heap.size := (Array.getElem?_eq_some_iff.1 r).1
  clear hB1
  have k0_0 : w1.cell? ⟨w.heap.size, 0, none⟩ = some (.int .i64 0) := by rw [cell_of_block k0]; rfl
  have k0_1 : w1.cell? ⟨w.heap.size, 1, none⟩ = some (.int .i64 lo) := by rw [cell_of_block k0]; rfl
  have k0_2 : w1.cell? ⟨w.heap.size, 2, none⟩ = some (.slice aO nO cO) := by rw [cell_of_block k0]; rfl
  have k0_3 : w1.cell? ⟨w.heap.size, 3, none⟩ = some (.int .i64 16777216) := by rw [cell_of_block k0]; rfl
  have k0_4 : w1.cell? ⟨w.heap.size, 4, none⟩ = some (.int .i64 ly) := by rw [cell_of_block k0]; rfl
  have k0_5 : w1.cell? ⟨w.heap.size, 5, none⟩ = some (.slice aY nY cY) := by rw [cell_of_block k0]; rfl
  have r_0 : w1.cell? ⟨w.heap.size + 1, 0, none⟩ = some (.int .i64 0) := by rw [cell_of_block r]; rfl
  have r_1 : w1.cell? ⟨w.heap.size + 1, 1, none⟩ = some (.int .i64 0) := by rw [cell_of_block r]; rfl
  have r_2 : w1.cell? ⟨w.heap.size + 1, 2, none⟩ = some (.slice none 0 0) := by rw [cell_of_block r]; rfl
  have r_3 : w1.cell? ⟨w.heap.size + 1, 3, none⟩ = some (.int .i64 0) := by rw [cell_of_block r]; rfl
  have r_4 : w1.cell? ⟨w.heap.size + 1, 4, none⟩ = some (.int .i64 0) := by rw [cell_of_block r]; rfl
  have r_5 : w1.cell? ⟨w.heap.size + 1, 5, none⟩ = some (.slice none 0 0) := by rw [cell_of_block r]; rfl
  have r_f : ∀ i, w1.frozen? ⟨w.heap.size + 1, i, none⟩ = false := frozen_of_block r
  go_wp2_with fail
  refine (hV _ (by (repeat (first | exact Below.refl _ _ | assumption | refine Below.drew ?_ | refine below_drewN ?_ _ | refine balloc ?_ _ | refine Below.setCell ?_ (by first | (simp; done) | (simp; omega) | omega) _ | refine bchain (by assumption) ?_)))).mono ?_
  rintro e w2 ⟨rfl, hb2⟩
  have hB2 : Below w1.heap.size w1 w2 := by (repeat (first | exact Below.refl _ _ | assumption | refine Below.drew ?_ | refine below_drewN ?_ _ | refine balloc ?_ _ | refine Below.setCell ?_ (by first | (simp; done) | (simp; omega) | omega) _ | refine bchain (by assumption) ?_))
  have k0 := bblock hB2 k0
  have r := bblock hB2 r
  have tt : w2.heap[w1.heap.size]? = some (.cells #[.int .i64 hk, .int .i64 hc, .int .i64 hf] 23 (0, 0)) := bblock hb2 (by repeat (first | exact alloc_at _ (by simp) | refine alloc_lt _ ?_))
  have hw2 := bchain hB2 hw1
  have hp2 : w.heap.size + 2 ≤ w2.heap.size := by have := (Array.getElem?_eq_some_iff.1 r).1; omega
  clear hz_k0 hz_r
  have hz_k0 : w.heap.size < w2.heap.size := (Array.getElem?_eq_some_iff.1 k0).1
  have hz_r : w.heap.size + 1 < w2.heap.size := (Array.getElem?_eq_some_iff.1 r).1
  have hz_tt : w1.heap.size < w2.heap.size := (Array.getElem?_eq_some_iff.1 tt).1
  clear hB2
  clear k0_0 k0_1 k0_2 k0_3 k0_4 k0_5 r_0 r_1 r_2 r_3 r_4 r_5 r_f
  have k0_0 : w2.cell? ⟨w.heap.size, 0, none⟩ = some (.int .i64 0) := by rw [cell_of_block k0]; rfl
  have k0_1 : w2.cell? ⟨w.heap.size, 1, none⟩ = some (.int .i64 lo) := by rw [cell_of_block k0]; rfl
  have k0_2 : w2.cell? ⟨w.heap.size, 2, none⟩ = some (.slice aO nO cO) := by rw [cell_of_block k0]; rfl
  have k0_3 : w2.cell? ⟨w.heap.size, 3, none⟩ = some (.int .i64 16777216) := by rw [cell_of_block k0]; rfl
  have k0_4 : w2.cell? ⟨w.heap.size, 4, none⟩ = some (.int .i64 ly) := by rw [cell_of_block k0]; rfl
  have k0_5 : w2.cell? ⟨w.heap.size, 5, none⟩ = some (.slice aY nY cY) := by rw [cell_of_block k0]; rfl
  have r_0 : w2.cell? ⟨w.heap.size + 1, 0, none⟩ = some (.int .i64 0) := by rw [cell_of_block r]; rfl
  have r_1 : w2.cell? ⟨w.heap.size + 1, 1, none⟩ = some (.int .i64 0) := by rw [cell_of_block r]; rfl
  have r_2 : w2.cell? ⟨w.heap.size + 1, 2, none⟩ = some (.slice none 0 0) := by rw [cell_of_block r]; rfl
  have r_3 : w2.cell? ⟨w.heap.size + 1, 3, none⟩ = some (.int .i64 0) := by rw [cell_of_block r]; rfl
  have r_4 : w2.cell? ⟨w.heap.size + 1, 4, none⟩ = some (.int .i64 0) := by rw [cell_of_block r]; rfl
  have r_5 : w2.cell? ⟨w.heap.size + 1, 5, none⟩ = some (.slice none 0 0) := by rw [cell_of_block r]; rfl
  have r_f : ∀ i, w2.frozen? ⟨w.heap.size + 1, i, none⟩ = false := frozen_of_block r
  have tt_0 : w2.cell? ⟨w1.heap.size, 0, none⟩ = some (.int .i64 hk) := by rw [cell_of_block tt]; rfl
  have tt_1 : w2.cell? ⟨w1.heap.size, 1, none⟩ = some (.int .i64 hc) := by rw [cell_of_block tt]; rfl
  have tt_2 : w2.cell? ⟨w1.heap.size, 2, none⟩ = some (.int .i64 hf) := by rw [cell_of_block tt]; rfl
  go_wp2
  refine bodyPost_ret (v := .tuple #[.agg #[.int .i64 0, .int .i64 lo, .slice aO nO cO, .int .i64 16777216, .int .i64 ly, .slice aY nY cY], .int .i64 1]) (by simp [results, Try.results60, go_sem, k0_0, k0_1, k0_2, k0_3, k0_4, k0_5, r_0, r_1, r_2, r_3, r_4, r_5, r_f, tt_0, tt_1, tt_2, hz_k0, hz_r, hz_tt]) rfl ?_
  refine rnext_fin (w := w) (wk := w2) (mk := fun v => .tuple #[v, .int .i64 1]) hm (hmB _ hw2) ?_ (fun G e => .inl e) (fun G e => .inl e) ?_
  · (repeat (first | (with_reducible refine Mods.alloc ?_ _) | (with_reducible refine two_set ?_ _ _ _ (.inl rfl)) | (with_reducible refine two_set ?_ _ _ _ (.inr rfl)) | (with_reducible exact Mods.refl _ _)))
  · (repeat (first | (with_reducible refine balloc ?_ _) | (with_reducible refine below_set ?_ _ _ _ (Nat.le_refl _)) | (with_reducible refine below_set ?_ _ _ _ (Nat.le_add_right _ _)) | (with_reducible assumption)))
set_option maxRecDepth 100000 in
set_option maxHeartbeats 1000000 in
theorem rtofwd_s {w : World} {aO : Option Addr} {nO cO : Nat} {aY : Option Addr} {nY cY : Nat} {lo ly : Int} {wo wy : List Int} {gO gY : Option Nat} (hm : RMem w aO nO cO aY nY cY lo ly wo wy gO gY) (a t : Int) (he : HE wo wy a = 0) (h4 : HK wo wy a ≠ 4) (hr : RE wo wy t = 0) (hs : RA wo wy t = a) :
    Calls Try.prog 60 #[.agg #[.int .i64 0, .int .i64 lo, .slice aO nO cO, .int .i64 16777216, .int .i64 ly, .slice aY nY cY], .int .i64 a, .int .i64 t] w (RNext w (fun v => .tuple #[v, .int .i64 1]) lo ly wo wy gO gY) := by
  have hH := fun W (h : Below w.heap.size w W) => rmhdr_any (hm.below h) a
  have hmB := fun W (H : Below w.heap.size w W) => hm.below H
  have hV := fun W (h : Below w.heap.size w W) => rresolve_any (hm.below h) t
  have n4 : (HK wo wy a == 4) = false := by simpa using h4
  rw [he] at hH
  rw [hr, hs] at hV
  generalize HK wo wy a = hk at *
  generalize HC wo wy a = hc at *
  generalize HF wo wy a = hf at *
  clear he h4 hr hs
  have hw0 : Below w.heap.size w w := Below.refl _ _
  go_enter Try.func60, Try.ntmps60
  go_wp2_with fail
  refine (hH _ (by (repeat (first | exact Below.refl _ _ | assumption | refine Below.drew ?_ | refine below_drewN ?_ _ | refine balloc ?_ _ | refine Below.setCell ?_ (by first | (simp; done) | (simp; omega) | omega) _ | refine bchain (by assumption) ?_)))).mono ?_
  rintro e w1 ⟨rfl, hb1⟩
  have hB1 : Below w.heap.size w w1 := by (repeat (first | exact Below.refl _ _ | assumption | refine Below.drew ?_ | refine below_drewN ?_ _ | refine balloc ?_ _ | refine Below.setCell ?_ (by first | (simp; done) | (simp; omega) | omega) _ | refine bchain (by assumption) ?_))
  have k0 : w1.heap[w.heap.size]? = some (.cells #[.int .i64 0, .int .i64 lo, .slice aO nO cO, .int .i64 16777216, .int .i64 ly, .slice aY nY cY] 35 (0, 0)) := bblock hb1 (by repeat (first | exact alloc_at _ (by simp) | refine alloc_lt _ ?_))
  have r : w1.heap[w.heap.size + 1]? = some (.cells #[.int .i64 0, .int .i64 0, .slice none 0 0, .int .i64 0, .int .i64 0, .slice none 0 0] 35 (0, 0)) := bblock hb1 (by repeat (first | exact alloc_at _ (by simp) | refine alloc_lt _ ?_))
  have hw1 := bchain hB1 hw0
  have hp1 : w.heap.size + 2 ≤ w1.heap.size := by have := (Array.getElem?_eq_some_iff.1 r).1; omega
  have hz_k0 : w.heap.size < w1.heap.size := (Array.getElem?_eq_some_iff.1 k0).1
  have hz_r : w.heap.size + 1 < w1.heap.size := (Array.getElem?_eq_some_iff.1 r).1
  clear hB1
  have k0_0 : w1.cell? ⟨w.heap.size, 0, none⟩ = some (.int .i64 0) := by rw [cell_of_block k0]; rfl
  have k0_1 : w1.cell? ⟨w.heap.size, 1, none⟩ = some (.int .i64 lo) := by rw [cell_of_block k0]; rfl
  have k0_2 : w1.cell? ⟨w.heap.size, 2, none⟩ = some (.slice aO nO cO) := by rw [cell_of_block k0]; rfl
  have k0_3 : w1.cell? ⟨w.heap.size, 3, none⟩ = some (.int .i64 16777216) := by rw [cell_of_block k0]; rfl
  have k0_4 : w1.cell? ⟨w.heap.size, 4, none⟩ = some (.int .i64 ly) := by rw [cell_of_block k0]; rfl
  have k0_5 : w1.cell? ⟨w.heap.size, 5, none⟩ = some (.slice aY nY cY) := by rw [cell_of_block k0]; rfl
  have r_0 : w1.cell? ⟨w.heap.size + 1, 0, none⟩ = some (.int .i64 0) := by rw [cell_of_block r]; rfl
  have r_1 : w1.cell? ⟨w.heap.size + 1, 1, none⟩ = some (.int .i64 0) := by rw [cell_of_block r]; rfl
  have r_2 : w1.cell? ⟨w.heap.size + 1, 2, none⟩ = some (.slice none 0 0) := by rw [cell_of_block r]; rfl
  have r_3 : w1.cell? ⟨w.heap.size + 1, 3, none⟩ = some (.int .i64 0) := by rw [cell_of_block r]; rfl
  have r_4 : w1.cell? ⟨w.heap.size + 1, 4, none⟩ = some (.int .i64 0) := by rw [cell_of_block r]; rfl
  have r_5 : w1.cell? ⟨w.heap.size + 1, 5, none⟩ = some (.slice none 0 0) := by rw [cell_of_block r]; rfl
  have r_f : ∀ i, w1.frozen? ⟨w.heap.size + 1, i, none⟩ = false := frozen_of_block r
  go_wp2_with fail
  refine (hV _ (by (repeat (first | exact Below.refl _ _ | assumption | refine Below.drew ?_ | refine below_drewN ?_ _ | refine balloc ?_ _ | refine Below.setCell ?_ (by first | (simp; done) | (simp; omega) | omega) _ | refine bchain (by assumption) ?_)))).mono ?_
  rintro e w2 ⟨rfl, hb2⟩
  have hB2 : Below w1.heap.size w1 w2 := by (repeat (first | exact Below.refl _ _ | assumption | refine Below.drew ?_ | refine below_drewN ?_ _ | refine balloc ?_ _ | refine Below.setCell ?_ (by first | (simp; done) | (simp; omega) | omega) _ | refine bchain (by assumption) ?_))
  have k0 := bblock hB2 k0
  have r := bblock hB2 r
  have tt : w2.heap[w1.heap.size]? = some (.cells #[.int .i64 hk, .int .i64 hc, .int .i64 hf] 23 (0, 0)) := bblock hb2 (by repeat (first | exact alloc_at _ (by simp) | refine alloc_lt _ ?_))
  have hw2 := bchain hB2 hw1
  have hp2 : w.heap.size + 2 ≤ w2.heap.size := by have := (Array.getElem?_eq_some_iff.1 r).1; omega
  clear hz_k0 hz_r
  have hz_k0 : w.heap.size < w2.heap.size := (Array.getElem?_eq_some_iff.1 k0).1
  have hz_r : w.heap.size + 1 < w2.heap.size := (Array.getElem?_eq_some_iff.1 r).1
  have hz_tt : w1.heap.size < w2.heap.size := (Array.getElem?_eq_some_iff.1 tt).1
  clear hB2
  clear k0_0 k0_1 k0_2 k0_3 k0_4 k0_5 r_0 r_1 r_2 r_3 r_4 r_5 r_f
  have k0_0 : w2.cell? ⟨w.heap.size, 0, none⟩ = some (.int .i64 0) := by rw [cell_of_block k0]; rfl
  have k0_1 : w2.cell? ⟨w.heap.size, 1, none⟩ = some (.int .i64 lo) := by rw [cell_of_block k0]; rfl
  have k0_2 : w2.cell? ⟨w.heap.size, 2, none⟩ = some (.slice aO nO cO) := by rw [cell_of_block k0]; rfl
  have k0_3 : w2.cell? ⟨w.heap.size, 3, none⟩ = some (.int .i64 16777216) := by rw [cell_of_block k0]; rfl
  have k0_4 : w2.cell? ⟨w.heap.size, 4, none⟩ = some (.int .i64 ly) := by rw [cell_of_block k0]; rfl
  have k0_5 : w2.cell? ⟨w.heap.size, 5, none⟩ = some (.slice aY nY cY) := by rw [cell_of_block k0]; rfl
  have r_0 : w2.cell? ⟨w.heap.size + 1, 0, none⟩ = some (.int .i64 0) := by rw [cell_of_block r]; rfl
  have r_1 : w2.cell? ⟨w.heap.size + 1, 1, none⟩ = some (.int .i64 0) := by rw [cell_of_block r]; rfl
  have r_2 : w2.cell? ⟨w.heap.size + 1, 2, none⟩ = some (.slice none 0 0) := by rw [cell_of_block r]; rfl
  have r_3 : w2.cell? ⟨w.heap.size + 1, 3, none⟩ = some (.int .i64 0) := by rw [cell_of_block r]; rfl
  have r_4 : w2.cell? ⟨w.heap.size + 1, 4, none⟩ = some (.int .i64 0) := by rw [cell_of_block r]; rfl
  have r_5 : w2.cell? ⟨w.heap.size + 1, 5, none⟩ = some (.slice none 0 0) := by rw [cell_of_block r]; rfl
  have r_f : ∀ i, w2.frozen? ⟨w.heap.size + 1, i, none⟩ = false := frozen_of_block r
  have tt_0 : w2.cell? ⟨w1.heap.size, 0, none⟩ = some (.int .i64 hk) := by rw [cell_of_block tt]; rfl
  have tt_1 : w2.cell? ⟨w1.heap.size, 1, none⟩ = some (.int .i64 hc) := by rw [cell_of_block tt]; rfl
  have tt_2 : w2.cell? ⟨w1.heap.size, 2, none⟩ = some (.int .i64 hf) := by rw [cell_of_block tt]; rfl
  go_wp2
  refine bodyPost_ret (v := .tuple #[.agg #[.int .i64 0, .int .i64 lo, .slice aO nO cO, .int .i64 16777216, .int .i64 ly, .slice aY nY cY], .int .i64 1]) (by simp [results, Try.results60, go_sem, k0_0, k0_1, k0_2, k0_3, k0_4, k0_5, r_0, r_1, r_2, r_3, r_4, r_5, r_f, tt_0, tt_1, tt_2, hz_k0, hz_r, hz_tt]) rfl ?_
  refine rnext_fin (w := w) (wk := w2) (mk := fun v => .tuple #[v, .int .i64 1]) hm (hmB _ hw2) ?_ (fun G e => .inl e) (fun G e => .inl e) ?_
  · (repeat (first | (with_reducible refine Mods.alloc ?_ _) | (with_reducible refine two_set ?_ _ _ _ (.inl rfl)) | (with_reducible refine two_set ?_ _ _ _ (.inr rfl)) | (with_reducible exact Mods.refl _ _)))
  · (repeat (first | (with_reducible refine balloc ?_ _) | (with_reducible refine below_set ?_ _ _ _ (Nat.le_refl _)) | (with_reducible refine below_set ?_ _ _ _ (Nat.le_add_right _ _)) | (with_reducible assumption)))
set_option maxRecDepth 100000 in
set_option maxHeartbeats 2000000 in
theorem rtofwd_y {w : World} {aO : Option Addr} {nO cO : Nat} {aY : Option Addr} {nY cY : Nat} {lo ly : Int} {wo wy : List Int} {gO gY : Option Nat} (hm : RMem w aO nO cO aY nY cY lo ly wo wy gO gY) (a t : Int) (he : HE wo wy a = 0) (h4 : HK wo wy a ≠ 4) (hr : RE wo wy t = 0) (hs : RA wo wy t ≠ a) :
    Calls Try.prog 60 #[.agg #[.int .i64 0, .int .i64 lo, .slice aO nO cO, .int .i64 16777216, .int .i64 ly, .slice aY nY cY], .int .i64 a, .int .i64 t] w (RNext w (fun v => .tuple #[v, .int .i64 0]) lo ly (wrM wo wy a 4 [faW t]).1 (wrM wo wy a 4 [faW t]).2 gO gY) := by
  have hH := fun W (h : Below w.heap.size w W) => rmhdr_any (hm.below h) a
  have hpu : ∀ x ∈ [faW t], U64 x := by
    intro x hx
    simp only [List.mem_cons, List.not_mem_nil, or_false] at hx
    rw [hx]
    exact faU t
  have hF := fun W => rfromaddr_any t W
  have hWr := fun (W : World) (H : Below w.heap.size w W) (G : Nat) (hG : G = W.heap.size) => rwrite_any (hm.below (balloc H (.cells #[.int .u64 (faW t)] 56))) a 4 (.inr rfl) G 1 [faW t] (fun i x hx => by rw [cell_of_block (alloc_at _ hG)]; rcases i with _ | i <;> simp at hx ⊢ <;> exact hx) hpu (by simp) (by omega) he
  have hV := fun W (h : Below w.heap.size w W) => rresolve_any (hm.below h) t
  have n4 : (HK wo wy a == 4) = false := by simpa using h4
  rw [he] at hH
  rw [hr] at hV
  generalize (wrM wo wy a 4 [faW t]).1 = wo2 at *
  generalize (wrM wo wy a 4 [faW t]).2 = wy2 at *
  generalize faW t = fw at *
  generalize faE t = fe at *
  generalize HK wo wy a = hk at *
  generalize HC wo wy a = hc at *
  generalize HF wo wy a = hf at *
  generalize RA wo wy t = ra at *
  have hb2 : (ra == a) = false := by simpa using hs
  clear he h4 hpu hr hs
  have hw0 : Below w.heap.size w w := Below.refl _ _
  go_enter Try.func60, Try.ntmps60
  go_wp2_with fail
  refine (hH _ (by (repeat (first | exact Below.refl _ _ | assumption | refine Below.drew ?_ | refine below_drewN ?_ _ | refine balloc ?_ _ | refine Below.setCell ?_ (by first | (simp; done) | (simp; omega) | omega) _ | refine bchain (by assumption) ?_)))).mono ?_
  rintro e w1 ⟨rfl, hb1⟩
  have hB1 : Below w.heap.size w w1 := by (repeat (first | exact Below.refl _ _ | assumption | refine Below.drew ?_ | refine below_drewN ?_ _ | refine balloc ?_ _ | refine Below.setCell ?_ (by first | (simp; done) | (simp; omega) | omega) _ | refine bchain (by assumption) ?_))
  have k0 : w1.heap[w.heap.size]? = some (.cells #[.int .i64 0, .int .i64 lo, .slice aO nO cO, .int .i64 16777216, .int .i64 ly, .slice aY nY cY] 35 (0, 0)) := bblock hb1 (by repeat (first | exact alloc_at _ (by simp) | refine alloc_lt _ ?_))
  have r : w1.heap[w.heap.size + 1]? = some (.cells #[.int .i64 0, .int .i64 0, .slice none 0 0, .int .i64 0, .int .i64 0, .slice none 0 0] 35 (0, 0)) := bblock hb1 (by repeat (first | exact alloc_at _ (by simp) | refine alloc_lt _ ?_))
  have hw1 := bchain hB1 hw0
  have hp1 : w.heap.size + 2 ≤ w1.heap.size := by have := (Array.getElem?_eq_some_iff.1 r).1; omega
  have hz_k0 : w.heap.size < w1.heap.size := (Array.getElem?_eq_some_iff.1 k0).1
  have hz_r : w.heap.size + 1 < w1.heap.size := (Array.getElem?_eq_some_iff.1 r).1
  clear hB1
  have k0_0 : w1.cell? ⟨w.heap.size, 0, none⟩ = some (.int .i64 0) := by rw [cell_of_block k0]; rfl
  have k0_1 : w1.cell? ⟨w.heap.size, 1, none⟩ = some (.int .i64 lo) := by rw [cell_of_block k0]; rfl
  have k0_2 : w1.cell? ⟨w.heap.size, 2, none⟩ = some (.slice aO nO cO) := by rw [cell_of_block k0]; rfl
  have k0_3 : w1.cell? ⟨w.heap.size, 3, none⟩ = some (.int .i64 16777216) := by rw [cell_of_block k0]; rfl
  have k0_4 : w1.cell? ⟨w.heap.size, 4, none⟩ = some (.int .i64 ly) := by rw [cell_of_block k0]; rfl
  have k0_5 : w1.cell? ⟨w.heap.size, 5, none⟩ = some (.slice aY nY cY) := by rw [cell_of_block k0]; rfl
  have r_0 : w1.cell? ⟨w.heap.size + 1, 0, none⟩ = some (.int .i64 0) := by rw [cell_of_block r]; rfl
  have r_1 : w1.cell? ⟨w.heap.size + 1, 1, none⟩ = some (.int .i64 0) := by rw [cell_of_block r]; rfl
  have r_2 : w1.cell? ⟨w.heap.size + 1, 2, none⟩ = some (.slice none 0 0) := by rw [cell_of_block r]; rfl
  have r_3 : w1.cell? ⟨w.heap.size + 1, 3, none⟩ = some (.int .i64 0) := by rw [cell_of_block r]; rfl
  have r_4 : w1.cell? ⟨w.heap.size + 1, 4, none⟩ = some (.int .i64 0) := by rw [cell_of_block r]; rfl
  have r_5 : w1.cell? ⟨w.heap.size + 1, 5, none⟩ = some (.slice none 0 0) := by rw [cell_of_block r]; rfl
  have r_f : ∀ i, w1.frozen? ⟨w.heap.size + 1, i, none⟩ = false := frozen_of_block r
  go_wp2_with fail
  refine (hV _ (by (repeat (first | exact Below.refl _ _ | assumption | refine Below.drew ?_ | refine below_drewN ?_ _ | refine balloc ?_ _ | refine Below.setCell ?_ (by first | (simp; done) | (simp; omega) | omega) _ | refine bchain (by assumption) ?_)))).mono ?_
  rintro e w2 ⟨rfl, hb2⟩
  have hB2 : Below w1.heap.size w1 w2 := by (repeat (first | exact Below.refl _ _ | assumption | refine Below.drew ?_ | refine below_drewN ?_ _ | refine balloc ?_ _ | refine Below.setCell ?_ (by first | (simp; done) | (simp; omega) | omega) _ | refine bchain (by assumption) ?_))
  have k0 := bblock hB2 k0
  have r := bblock hB2 r
  have t0 : w2.heap[w1.heap.size]? = some (.cells #[.int .i64 hk, .int .i64 hc, .int .i64 hf] 23 (0, 0)) := bblock hb2 (by repeat (first | exact alloc_at _ (by simp) | refine alloc_lt _ ?_))
  have hw2 := bchain hB2 hw1
  have hp2 : w.heap.size + 2 ≤ w2.heap.size := by have := (Array.getElem?_eq_some_iff.1 r).1; omega
  clear hz_k0 hz_r
  have hz_k0 : w.heap.size < w2.heap.size := (Array.getElem?_eq_some_iff.1 k0).1
  have hz_r : w.heap.size + 1 < w2.heap.size := (Array.getElem?_eq_some_iff.1 r).1
  have hz_t0 : w1.heap.size < w2.heap.size := (Array.getElem?_eq_some_iff.1 t0).1
  clear hB2
  clear k0_0 k0_1 k0_2 k0_3 k0_4 k0_5 r_0 r_1 r_2 r_3 r_4 r_5 r_f
  have k0_0 : w2.cell? ⟨w.heap.size, 0, none⟩ = some (.int .i64 0) := by rw [cell_of_block k0]; rfl
  have k0_1 : w2.cell? ⟨w.heap.size, 1, none⟩ = some (.int .i64 lo) := by rw [cell_of_block k0]; rfl
  have k0_2 : w2.cell? ⟨w.heap.size, 2, none⟩ = some (.slice aO nO cO) := by rw [cell_of_block k0]; rfl
  have k0_3 : w2.cell? ⟨w.heap.size, 3, none⟩ = some (.int .i64 16777216) := by rw [cell_of_block k0]; rfl
  have k0_4 : w2.cell? ⟨w.heap.size, 4, none⟩ = some (.int .i64 ly) := by rw [cell_of_block k0]; rfl
  have k0_5 : w2.cell? ⟨w.heap.size, 5, none⟩ = some (.slice aY nY cY) := by rw [cell_of_block k0]; rfl
  have r_0 : w2.cell? ⟨w.heap.size + 1, 0, none⟩ = some (.int .i64 0) := by rw [cell_of_block r]; rfl
  have r_1 : w2.cell? ⟨w.heap.size + 1, 1, none⟩ = some (.int .i64 0) := by rw [cell_of_block r]; rfl
  have r_2 : w2.cell? ⟨w.heap.size + 1, 2, none⟩ = some (.slice none 0 0) := by rw [cell_of_block r]; rfl
  have r_3 : w2.cell? ⟨w.heap.size + 1, 3, none⟩ = some (.int .i64 0) := by rw [cell_of_block r]; rfl
  have r_4 : w2.cell? ⟨w.heap.size + 1, 4, none⟩ = some (.int .i64 0) := by rw [cell_of_block r]; rfl
  have r_5 : w2.cell? ⟨w.heap.size + 1, 5, none⟩ = some (.slice none 0 0) := by rw [cell_of_block r]; rfl
  have r_f : ∀ i, w2.frozen? ⟨w.heap.size + 1, i, none⟩ = false := frozen_of_block r
  have t0_0 : w2.cell? ⟨w1.heap.size, 0, none⟩ = some (.int .i64 hk) := by rw [cell_of_block t0]; rfl
  have t0_1 : w2.cell? ⟨w1.heap.size, 1, none⟩ = some (.int .i64 hc) := by rw [cell_of_block t0]; rfl
  have t0_2 : w2.cell? ⟨w1.heap.size, 2, none⟩ = some (.int .i64 hf) := by rw [cell_of_block t0]; rfl
  go_wp2_with fail
  refine (hF _).mono ?_
  rintro e w3 ⟨rfl, hb3⟩
  have hB3 : Below w2.heap.size w2 w3 := by (repeat (first | exact Below.refl _ _ | assumption | refine Below.drew ?_ | refine below_drewN ?_ _ | refine balloc ?_ _ | refine Below.setCell ?_ (by first | (simp; done) | (simp; omega) | omega) _ | refine bchain (by assumption) ?_))
  have k0 := bblock hB3 k0
  have r := bblock hB3 r
  have t0 := bblock hB3 t0
  have hw3 := bchain hB3 hw2
  have hp3 : w.heap.size + 2 ≤ w3.heap.size := by have := (Array.getElem?_eq_some_iff.1 r).1; omega
  clear hz_k0 hz_r hz_t0
  have hz_k0 : w.heap.size < w3.heap.size := (Array.getElem?_eq_some_iff.1 k0).1
  have hz_r : w.heap.size + 1 < w3.heap.size := (Array.getElem?_eq_some_iff.1 r).1
  have hz_t0 : w1.heap.size < w3.heap.size := (Array.getElem?_eq_some_iff.1 t0).1
  clear hB3
  clear k0_0 k0_1 k0_2 k0_3 k0_4 k0_5 r_0 r_1 r_2 r_3 r_4 r_5 r_f t0_0 t0_1 t0_2
  have k0_0 : w3.cell? ⟨w.heap.size, 0, none⟩ = some (.int .i64 0) := by rw [cell_of_block k0]; rfl
  have k0_1 : w3.cell? ⟨w.heap.size, 1, none⟩ = some (.int .i64 lo) := by rw [cell_of_block k0]; rfl
  have k0_2 : w3.cell? ⟨w.heap.size, 2, none⟩ = some (.slice aO nO cO) := by rw [cell_of_block k0]; rfl
  have k0_3 : w3.cell? ⟨w.heap.size, 3, none⟩ = some (.int .i64 16777216) := by rw [cell_of_block k0]; rfl
  have k0_4 : w3.cell? ⟨w.heap.size, 4, none⟩ = some (.int .i64 ly) := by rw [cell_of_block k0]; rfl
  have k0_5 : w3.cell? ⟨w.heap.size, 5, none⟩ = some (.slice aY nY cY) := by rw [cell_of_block k0]; rfl
  have r_0 : w3.cell? ⟨w.heap.size + 1, 0, none⟩ = some (.int .i64 0) := by rw [cell_of_block r]; rfl
  have r_1 : w3.cell? ⟨w.heap.size + 1, 1, none⟩ = some (.int .i64 0) := by rw [cell_of_block r]; rfl
  have r_2 : w3.cell? ⟨w.heap.size + 1, 2, none⟩ = some (.slice none 0 0) := by rw [cell_of_block r]; rfl
  have r_3 : w3.cell? ⟨w.heap.size + 1, 3, none⟩ = some (.int .i64 0) := by rw [cell_of_block r]; rfl
  have r_4 : w3.cell? ⟨w.heap.size + 1, 4, none⟩ = some (.int .i64 0) := by rw [cell_of_block r]; rfl
  have r_5 : w3.cell? ⟨w.heap.size + 1, 5, none⟩ = some (.slice none 0 0) := by rw [cell_of_block r]; rfl
  have r_f : ∀ i, w3.frozen? ⟨w.heap.size + 1, i, none⟩ = false := frozen_of_block r
  have t0_0 : w3.cell? ⟨w1.heap.size, 0, none⟩ = some (.int .i64 hk) := by rw [cell_of_block t0]; rfl
  have t0_1 : w3.cell? ⟨w1.heap.size, 1, none⟩ = some (.int .i64 hc) := by rw [cell_of_block t0]; rfl
  have t0_2 : w3.cell? ⟨w1.heap.size, 2, none⟩ = some (.int .i64 hf) := by rw [cell_of_block t0]; rfl
  have hal0 : Below w.heap.size w w3 := hw3
  have hal := balloc hal0 (.cells #[.int .u64 fw] 56)
  have hsz : w.heap.size + 2 ≤ (World.alloc w3 (.cells #[.int .u64 fw] 56)).heap.size := by simp; omega
  have r0 : (World.alloc w3 (.cells #[.int .u64 fw] 56)).heap[w.heap.size + 1]? = some (.cells #[.int .i64 0, .int .i64 0, .slice none 0 0, .int .i64 0, .int .i64 0, .slice none 0 0] 35 (0, 0)) := (by repeat (first | exact r | refine alloc_lt _ ?_))
  go_wp2_with fail
  refine (hWr _ hal0 _ (by simp)).mono ?_
  rintro e w9 ⟨aO9, nO9, cO9, aY9, nY9, cY9, gO9, gY9, rfl, hR9, hgO9, hgY9, hb9⟩
  have hw9 := bchain hb9 hal
  have r := bblock hb9 r0
  have hz_r : w.heap.size + 1 < w9.heap.size := (Array.getElem?_eq_some_iff.1 r).1
  have hO9 : ∀ G, gO9 = some G → gO = some G ∨ w.heap.size + 2 ≤ G := fun G e => (hgO9 G e).imp id (fun h => by omega)
  have hY9 : ∀ G, gY9 = some G → gY = some G ∨ w.heap.size + 2 ≤ G := fun G e => (hgY9 G e).imp id (fun h => by omega)
  clear hgO9 hgY9 hb9 hal hal0 hsz hWr r0
  clear k0_0 k0_1 k0_2 k0_3 k0_4 k0_5 r_0 r_1 r_2 r_3 r_4 r_5 r_f t0_0 t0_1 t0_2
  have r_0 : w9.cell? ⟨w.heap.size + 1, 0, none⟩ = some (.int .i64 0) := by rw [cell_of_block r]; rfl
  have r_1 : w9.cell? ⟨w.heap.size + 1, 1, none⟩ = some (.int .i64 0) := by rw [cell_of_block r]; rfl
  have r_2 : w9.cell? ⟨w.heap.size + 1, 2, none⟩ = some (.slice none 0 0) := by rw [cell_of_block r]; rfl
  have r_3 : w9.cell? ⟨w.heap.size + 1, 3, none⟩ = some (.int .i64 0) := by rw [cell_of_block r]; rfl
  have r_4 : w9.cell? ⟨w.heap.size + 1, 4, none⟩ = some (.int .i64 0) := by rw [cell_of_block r]; rfl
  have r_5 : w9.cell? ⟨w.heap.size + 1, 5, none⟩ = some (.slice none 0 0) := by rw [cell_of_block r]; rfl
  have r_f : ∀ i, w9.frozen? ⟨w.heap.size + 1, i, none⟩ = false := frozen_of_block r
  go_wp2
  refine bodyPost_ret (v := .tuple #[.agg #[.int .i64 0, .int .i64 lo, .slice aO9 nO9 cO9, .int .i64 16777216, .int .i64 ly, .slice aY9 nY9 cY9], .int .i64 0]) (by simp [results, Try.results60, go_sem, r_0, r_1, r_2, r_3, r_4, r_5, r_f, hz_r]) rfl ?_
  refine rnext_fin (w := w) (wk := w9) (mk := fun v => .tuple #[v, .int .i64 0]) hm hR9 ?_ hO9 hY9 ?_
  · (repeat (first | (with_reducible refine Mods.alloc ?_ _) | (with_reducible refine two_set ?_ _ _ _ (.inl rfl)) | (with_reducible refine two_set ?_ _ _ _ (.inr rfl)) | (with_reducible exact Mods.refl _ _)))
  · (repeat (first | (with_reducible refine balloc ?_ _) | (with_reducible refine below_set ?_ _ _ _ (Nat.le_refl _)) | (with_reducible refine below_set ?_ _ _ _ (Nat.le_add_right _ _)) | (with_reducible assumption)))
theorem rtofwd_any {w : World} {aO : Option Addr} {nO cO : Nat} {aY : Option Addr} {nY cY : Nat} {lo ly : Int} {wo wy : List Int} {gO gY : Option Nat} (hm : RMem w aO nO cO aY nY cY lo ly wo wy gO gY) (a t : Int) : Calls Try.prog 60 #[.agg #[.int .i64 0, .int .i64 lo, .slice aO nO cO, .int .i64 16777216, .int .i64 ly, .slice aY nY cY], .int .i64 a, .int .i64 t] w (RNext w (fun v => .tuple #[v, .int .i64 (tfE wo wy a t)]) lo ly (tfM wo wy a t).1 (tfM wo wy a t).2 gO gY) := by
  by_cases he : HE wo wy a = 0
  · by_cases h4 : HK wo wy a = 4
    · have e0 : isE (fun k => k != 4) wo wy a = 7 := by rw [isE_of he]; simp [h4]
      have e : tfE wo wy a t = 7 := by unfold tfE; rw [e0, if_pos (by decide)]
      unfold tfM
      rw [e, if_neg (by decide)]
      exact rtofwd_4 hm a t he h4
    · have e0 : isE (fun k => k != 4) wo wy a = 0 := by rw [isE_of he]; simp [h4]
      by_cases hr : RE wo wy t = 0
      · by_cases hs : RA wo wy t = a
        · have hb : tfB wo wy a t = true := decide_eq_true (.inr hs)
          have e : tfE wo wy a t = 1 := by unfold tfE; rw [e0, if_neg (by decide), hb]; rfl
          unfold tfM
          rw [e, if_neg (by decide)]
          exact rtofwd_s hm a t he h4 hr hs
        · have hb : tfB wo wy a t = false := decide_eq_false (fun h => h.elim (fun h => h hr) hs)
          have e : tfE wo wy a t = 0 := by unfold tfE; rw [e0, if_neg (by decide), hb]; rfl
          unfold tfM
          rw [e, if_pos rfl]
          exact rtofwd_y hm a t he h4 hr hs
      · have hb : tfB wo wy a t = true := decide_eq_true (.inl hr)
        have e : tfE wo wy a t = 1 := by unfold tfE; rw [e0, if_neg (by decide), hb]; rfl
        unfold tfM
        rw [e, if_neg (by decide)]
        exact rtofwd_r hm a t he h4 hr
  · have e : tfE wo wy a t = HE wo wy a := by unfold tfE; rw [isE_bad he, if_pos he]
    unfold tfM
    rw [e, if_neg he]
    exact rtofwd_e hm a t he
end Go.Proofs.Ytcmhgjkijegpnaa
