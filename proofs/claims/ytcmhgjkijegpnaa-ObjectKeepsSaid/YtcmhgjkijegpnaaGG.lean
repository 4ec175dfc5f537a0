/-
  refmeshref07.SetField, Stub, Reroute.
-/
import Derived.Test.YtcmhgjkijegpnaaGF
namespace Go.Proofs.Ytcmhgjkijegpnaa
open Go.RowKit
set_option linter.unusedSimpArgs false
set_option linter.unusedVariables false

set_option maxRecDepth 100000 in
set_option maxHeartbeats 1000000 in
theorem rmsetf_no {w : World} {aO : Option Addr} {nO cO : Nat} {aY : Option Addr} {nY cY : Nat} {lo ly : Int} {wo wy : List Int} {gO gY : Option Nat} (hm : RMem w aO nO cO aY nY cY lo ly wo wy gO gY) (a i u : Int) (he : fdE wo wy a i ≠ 0) :
    Calls Try.prog 56 #[.agg #[.int .i64 0, .int .i64 lo, .slice aO nO cO, .int .i64 16777216, .int .i64 ly, .slice aY nY cY], .int .i64 a, .int .i64 i, .int .u64 u] w (RNext w (fun v => .tuple #[v, .int .i64 (fdE wo wy a i)]) lo ly wo wy gO gY) := by
  have hH := fun W (h : Below w.heap.size w W) => rfield_any (hm.below h) a i
  have hmB := fun W (H : Below w.heap.size w W) => hm.below H
  generalize fdE wo wy a i = er at *
  have hb1 : (er != 0) = true := by simpa using he
  clear he
  have hw0 : Below w.heap.size w w := Below.refl _ _
  go_enter Try.func56, Try.ntmps56
  go_wp2_with fail
  refine (hH _ (by (repeat (first | exact Below.refl _ _ | assumption | refine Below.drew ?_ | refine below_drewN ?_ _ | refine balloc ?_ _ | refine Below.setCell ?_ (by first | (simp; done) | (simp; omega) | omega) _ | refine bchain (by assumption) ?_)))).mono ?_
  rintro e w1 ⟨rfl, hb1⟩
  have hB1 : Below w.heap.size w w1 := by (repeat (first | exact Below.refl _ _ | assumption | refine Below.drew ?_ | refine below_drewN ?_ _ | refine balloc ?_ _ | refine Below.setCell ?_ (by first | (simp; done) | (simp; omega) | omega) _ | refine bchain (by assumption) ?_))
  have k0 : w1.heap[w.heap.size]? = some (.cells #[.int .i64 0, .int .i64 lo, .slice aO nO cO, .int .i64 16777216, .int .i64 ly, .slice aY nY cY] 35 (0, 0)) := bblock hb1 (by repeat (first | exact alloc_at _ (by simp) | refine alloc_lt _ ?_))
  have r : w1.heap[w.heap.size + 1]? = some (.cells #[.int .i64 0, .int .i64 0, .slice none 0 0, .int .i64 0, .int .i64 0, .slice none 0 0] 35 (0, 0)) := bblock hb1 (by repeat (first | exact alloc_at _ (by simp) | refine alloc_lt _ ?_))
  have hw1 := bchain hB1 hw0
  have hp1 : w.heap.size + 2 ≤ w1.heap.size := by have := (Array.getElem?_eq_some_iff.1 r).1; omega
  have hz_k0 : w.heap.size < w1.heap.size := (Array.getElem?_eq_some_iff.1 k0).1
  have hz_r : w.heap.size + 1 < w1.heap.size := (Array.getElem?_eq_some_iff.1 r).1
  clear hB1
  have k0_0 : w1.cell? ⟨w.heap.size, 0, none⟩ = some (.int .i64 0) := by rw [cell_of_block k0]; rfl
  have k0_1 : w1.cell? ⟨w.heap.size, 1, none⟩ = some (.int .i64 lo) := by rw [cell_of_block k0]; rfl
  have k0_2 : w1.cell? ⟨w.heap.size, 2, none⟩ = some (.slice aO nO cO) := by rw [cell_of_block k0]; rfl
  have k0_3 : w1.cell? ⟨w.heap.size, 3, none⟩ = some (.int .i64 16777216) := by rw [cell_of_block k0]; rfl
  have k0_4 : w1.cell? ⟨w.heap.size, 4, none⟩ = some (.int .i64 ly) := by rw [cell_of_block k0]; rfl
  have k0_5 : w1.cell? ⟨w.heap.size, 5, none⟩ = some (.slice aY nY cY) := by rw [cell_of_block k0]; rfl
  have r_0 : w1.cell? ⟨w.heap.size + 1, 0, none⟩ = some (.int .i64 0) := by rw [cell_of_block r]; rfl
  have r_1 : w1.cell? ⟨w.heap.size + 1, 1, none⟩ = some (.int .i64 0) := by rw [cell_of_block r]; rfl
  have r_2 : w1.cell? ⟨w.heap.size + 1, 2, none⟩ = some (.slice none 0 0) := by rw [cell_of_block r]; rfl
  have r_3 : w1.cell? ⟨w.heap.size + 1, 3, none⟩ = some (.int .i64 0) := by rw [cell_of_block r]; rfl
  have r_4 : w1.cell? ⟨w.heap.size + 1, 4, none⟩ = some (.int .i64 0) := by rw [cell_of_block r]; rfl
  have r_5 : w1.cell? ⟨w.heap.size + 1, 5, none⟩ = some (.slice none 0 0) := by rw [cell_of_block r]; rfl
  have r_f : ∀ i, w1.frozen? ⟨w.heap.size + 1, i, none⟩ = false := frozen_of_block r
  go_wp2
  refine bodyPost_ret (v := .tuple #[.agg #[.int .i64 0, .int .i64 lo, .slice aO nO cO, .int .i64 16777216, .int .i64 ly, .slice aY nY cY], .int .i64 er]) (by simp [results, Try.results56, go_sem, k0_0, k0_1, k0_2, k0_3, k0_4, k0_5, r_0, r_1, r_2, r_3, r_4, r_5, r_f, hz_k0, hz_r]) rfl ?_
  refine rnext_fin (w := w) (wk := w1) (mk := fun v => .tuple #[v, .int .i64 er]) hm (hmB _ hw1) ?_ (fun G e => .inl e) (fun G e => .inl e) ?_
  · (repeat (first | (with_reducible refine Mods.alloc ?_ _) | (with_reducible refine two_set ?_ _ _ _ (.inl rfl)) | (with_reducible refine two_set ?_ _ _ _ (.inr rfl)) | (with_reducible exact Mods.refl _ _)))
  · (repeat (first | (with_reducible refine balloc ?_ _) | (with_reducible refine below_set ?_ _ _ _ (Nat.le_refl _)) | (with_reducible refine below_set ?_ _ _ _ (Nat.le_add_right _ _)) | (with_reducible assumption)))
set_option maxRecDepth 100000 in
set_option maxHeartbeats 1000000 in
theorem rmsetf_yes {w : World} {aO : Option Addr} {nO cO : Nat} {aY : Option Addr} {nY cY : Nat} {lo ly : Int} {wo wy : List Int} {gO gY : Option Nat} (hm : RMem w aO nO cO aY nY cY lo ly wo wy gO gY) (a i u : Int) (hu : U64 u) (he : fdE wo wy a i = 0) :
    Calls Try.prog 56 #[.agg #[.int .i64 0, .int .i64 lo, .slice aO nO cO, .int .i64 16777216, .int .i64 ly, .slice aY nY cY], .int .i64 a, .int .i64 i, .int .u64 u] w (RNext w (fun v => .tuple #[v, .int .i64 (LE wo wy (a + 2 + i))]) lo ly (stO wo (a + 2 + i) u) (stY wy (a + 2 + i) u) gO gY) := by
  have hH := fun W (h : Below w.heap.size w W) => rfield_any (hm.below h) a i
  have hS := fun W (h : Below w.heap.size w W) => rmstore_any (hm.below h) (a + 2 + i) u hu
  rw [he] at hH
  obtain ⟨he0, _, hi0, hi1, _⟩ := fd_zero he
  have hbd := HE_bd he0
  have hk1 := (hm.partOk a).b0
  have hk2 := (hm.partOk a).top
  have hk3 := (hm.partOk a).lm1
  have hx0 : 0 ≤ wordsI (HF wo wy a) := by unfold wordsI; split <;> omega
  have ha : 0 ≤ a ∧ a ≤ 1099511627776 := by omega
  have hi2 : i ≤ 30 := by omega
  generalize LE wo wy (a + 2 + i) = er at *
  generalize stO wo (a + 2 + i) u = wo2 at *
  generalize stY wy (a + 2 + i) u = wy2 at *
  clear he he0 hbd hk1 hk2 hk3 hx0 hu
  have hw0 : Below w.heap.size w w := Below.refl _ _
  go_enter Try.func56, Try.ntmps56
  go_wp2_with fail
  refine (hH _ (by (repeat (first | exact Below.refl _ _ | assumption | refine Below.drew ?_ | refine below_drewN ?_ _ | refine balloc ?_ _ | refine Below.setCell ?_ (by first | (simp; done) | (simp; omega) | omega) _ | refine bchain (by assumption) ?_)))).mono ?_
  rintro e w1 ⟨rfl, hb1⟩
  have hB1 : Below w.heap.size w w1 := by (repeat (first | exact Below.refl _ _ | assumption | refine Below.drew ?_ | refine below_drewN ?_ _ | refine balloc ?_ _ | refine Below.setCell ?_ (by first | (simp; done) | (simp; omega) | omega) _ | refine bchain (by assumption) ?_))
  have k0 : w1.heap[w.heap.size]? = some (.cells #[.int .i64 0, .int .i64 lo, .slice aO nO cO, .int .i64 16777216, .int .i64 ly, .slice aY nY cY] 35 (0, 0)) := bblock hb1 (by repeat (first | exact alloc_at _ (by simp) | refine alloc_lt _ ?_))
  have r : w1.heap[w.heap.size + 1]? = some (.cells #[.int .i64 0, .int .i64 0, .slice none 0 0, .int .i64 0, .int .i64 0, .slice none 0 0] 35 (0, 0)) := bblock hb1 (by repeat (first | exact alloc_at _ (by simp) | refine alloc_lt _ ?_))
  have hw1 := bchain hB1 hw0
  have hp1 : w.heap.size + 2 ≤ w1.heap.size := by have := (Array.getElem?_eq_some_iff.1 r).1; omega
  have hz_k0 : w.heap.size < w1.heap.size := (Array.getElem?_eq_some_iff.1 k0).1
  have hz_r : w.heap.size + 1 < w1.heap.size := (Array.getElem?_eq_some_iff.1 r).1
  clear hB1
  have k0_0 : w1.cell? ⟨w.heap.size, 0, none⟩ = some (.int .i64 0) := by rw [cell_of_block k0]; rfl
  have k0_1 : w1.cell? ⟨w.heap.size, 1, none⟩ = some (.int .i64 lo) := by rw [cell_of_block k0]; rfl
  have k0_2 : w1.cell? ⟨w.heap.size, 2, none⟩ = some (.slice aO nO cO) := by rw [cell_of_block k0]; rfl
  have k0_3 : w1.cell? ⟨w.heap.size, 3, none⟩ = some (.int .i64 16777216) := by rw [cell_of_block k0]; rfl
  have k0_4 : w1.cell? ⟨w.heap.size, 4, none⟩ = some (.int .i64 ly) := by rw [cell_of_block k0]; rfl
  have k0_5 : w1.cell? ⟨w.heap.size, 5, none⟩ = some (.slice aY nY cY) := by rw [cell_of_block k0]; rfl
  have r_0 : w1.cell? ⟨w.heap.size + 1, 0, none⟩ = some (.int .i64 0) := by rw [cell_of_block r]; rfl
  have r_1 : w1.cell? ⟨w.heap.size + 1, 1, none⟩ = some (.int .i64 0) := by rw [cell_of_block r]; rfl
  have r_2 : w1.cell? ⟨w.heap.size + 1, 2, none⟩ = some (.slice none 0 0) := by rw [cell_of_block r]; rfl
  have r_3 : w1.cell? ⟨w.heap.size + 1, 3, none⟩ = some (.int .i64 0) := by rw [cell_of_block r]; rfl
  have r_4 : w1.cell? ⟨w.heap.size + 1, 4, none⟩ = some (.int .i64 0) := by rw [cell_of_block r]; rfl
  have r_5 : w1.cell? ⟨w.heap.size + 1, 5, none⟩ = some (.slice none 0 0) := by rw [cell_of_block r]; rfl
  have r_f : ∀ i, w1.frozen? ⟨w.heap.size + 1, i, none⟩ = false := frozen_of_block r
  go_wp2_with fail
  refine (hS _ (by (repeat (first | exact Below.refl _ _ | assumption | refine Below.drew ?_ | refine below_drewN ?_ _ | refine balloc ?_ _ | refine Below.setCell ?_ (by first | (simp; done) | (simp; omega) | omega) _ | refine bchain (by assumption) ?_)))).mono ?_
  rintro e w2 ⟨aO2, nO2, cO2, aY2, nY2, cY2, gO2, gY2, rfl, hR2, hgO2, hgY2, hb2⟩
  have hB2 : Below w1.heap.size w1 w2 := by (repeat (first | exact Below.refl _ _ | assumption | refine Below.drew ?_ | refine below_drewN ?_ _ | refine balloc ?_ _ | refine Below.setCell ?_ (by first | (simp; done) | (simp; omega) | omega) _ | refine bchain (by assumption) ?_))
  have k0 := bblock hB2 k0
  have r := bblock hB2 r
  have hw2 := bchain hB2 hw1
  have hp2 : w.heap.size + 2 ≤ w2.heap.size := by have := (Array.getElem?_eq_some_iff.1 r).1; omega
  clear hz_k0 hz_r
  have hz_k0 : w.heap.size < w2.heap.size := (Array.getElem?_eq_some_iff.1 k0).1
  have hz_r : w.heap.size + 1 < w2.heap.size := (Array.getElem?_eq_some_iff.1 r).1
  clear hB2
  have hgO2 : ∀ G, gO2 = some G → gO = some G ∨ w.heap.size + 2 ≤ G := fun G e => (hgO2 G e).imp id (fun h => by omega)
  have hgY2 : ∀ G, gY2 = some G → gY = some G ∨ w.heap.size + 2 ≤ G := fun G e => (hgY2 G e).imp id (fun h => by omega)
  clear k0_0 k0_1 k0_2 k0_3 k0_4 k0_5 r_0 r_1 r_2 r_3 r_4 r_5 r_f
  have k0_0 : w2.cell? ⟨w.heap.size, 0, none⟩ = some (.int .i64 0) := by rw [cell_of_block k0]; rfl
  have k0_1 : w2.cell? ⟨w.heap.size, 1, none⟩ = some (.int .i64 lo) := by rw [cell_of_block k0]; rfl
  have k0_2 : w2.cell? ⟨w.heap.size, 2, none⟩ = some (.slice aO nO cO) := by rw [cell_of_block k0]; rfl
  have k0_3 : w2.cell? ⟨w.heap.size, 3, none⟩ = some (.int .i64 16777216) := by rw [cell_of_block k0]; rfl
  have k0_4 : w2.cell? ⟨w.heap.size, 4, none⟩ = some (.int .i64 ly) := by rw [cell_of_block k0]; rfl
  have k0_5 : w2.cell? ⟨w.heap.size, 5, none⟩ = some (.slice aY nY cY) := by rw [cell_of_block k0]; rfl
  have r_0 : w2.cell? ⟨w.heap.size + 1, 0, none⟩ = some (.int .i64 0) := by rw [cell_of_block r]; rfl
  have r_1 : w2.cell? ⟨w.heap.size + 1, 1, none⟩ = some (.int .i64 0) := by rw [cell_of_block r]; rfl
  have r_2 : w2.cell? ⟨w.heap.size + 1, 2, none⟩ = some (.slice none 0 0) := by rw [cell_of_block r]; rfl
  have r_3 : w2.cell? ⟨w.heap.size + 1, 3, none⟩ = some (.int .i64 0) := by rw [cell_of_block r]; rfl
  have r_4 : w2.cell? ⟨w.heap.size + 1, 4, none⟩ = some (.int .i64 0) := by rw [cell_of_block r]; rfl
  have r_5 : w2.cell? ⟨w.heap.size + 1, 5, none⟩ = some (.slice none 0 0) := by rw [cell_of_block r]; rfl
  have r_f : ∀ i, w2.frozen? ⟨w.heap.size + 1, i, none⟩ = false := frozen_of_block r
  go_wp2
  refine bodyPost_ret (v := .tuple #[.agg #[.int .i64 0, .int .i64 lo, .slice aO2 nO2 cO2, .int .i64 16777216, .int .i64 ly, .slice aY2 nY2 cY2], .int .i64 er]) (by simp [results, Try.results56, go_sem, k0_0, k0_1, k0_2, k0_3, k0_4, k0_5, r_0, r_1, r_2, r_3, r_4, r_5, r_f, hz_k0, hz_r]) rfl ?_
  refine rnext_fin (w := w) (wk := w2) (mk := fun v => .tuple #[v, .int .i64 er]) hm hR2 ?_ hgO2 hgY2 ?_
  · (repeat (first | (with_reducible refine Mods.alloc ?_ _) | (with_reducible refine two_set ?_ _ _ _ (.inl rfl)) | (with_reducible refine two_set ?_ _ _ _ (.inr rfl)) | (with_reducible exact Mods.refl _ _)))
  · (repeat (first | (with_reducible refine balloc ?_ _) | (with_reducible refine below_set ?_ _ _ _ (Nat.le_refl _)) | (with_reducible refine below_set ?_ _ _ _ (Nat.le_add_right _ _)) | (with_reducible assumption)))
theorem rmsetf_any {w : World} {aO : Option Addr} {nO cO : Nat} {aY : Option Addr} {nY cY : Nat} {lo ly : Int} {wo wy : List Int} {gO gY : Option Nat} (hm : RMem w aO nO cO aY nY cY lo ly wo wy gO gY) (a i u : Int) (hu : U64 u) : Calls Try.prog 56 #[.agg #[.int .i64 0, .int .i64 lo, .slice aO nO cO, .int .i64 16777216, .int .i64 ly, .slice aY nY cY], .int .i64 a, .int .i64 i, .int .u64 u] w (RNext w (fun v => .tuple #[v, .int .i64 (sfE wo wy a i)]) lo ly (sfO wo wy a i u) (sfY wo wy a i u) gO gY) := by
  unfold sfE sfO sfY
  by_cases he : fdE wo wy a i = 0
  · simp only [if_pos he, (fd_zero he).2.2.2.2]
    exact rmsetf_yes hm a i u hu he
  · simp only [if_neg he]
    exact rmsetf_no hm a i u he
theorem sbE_of {wo wy : List Int} {a : Int} : sbE wo wy a = if HE wo wy a ≠ 0 then HE wo wy a else if HK wo wy a = 3 then 0 else 7 := by
  have hiff : (if (HK wo wy a == 3) = true then (0 : Int) else 7) = (if HK wo wy a = 3 then (0 : Int) else 7) := by
    by_cases h3 : HK wo wy a = 3
    · simp [h3]
    · have h4 : (HK wo wy a == 3) = false := by simpa using h3
      rw [h4, if_neg h3]; rfl
  show (if HE wo wy a ≠ 0 then HE wo wy a else if (HK wo wy a == 3) = true then (0 : Int) else 7) = _
  rw [hiff]
set_option maxRecDepth 100000 in
set_option maxHeartbeats 1000000 in
theorem rmstub_e {w : World} {aO : Option Addr} {nO cO : Nat} {aY : Option Addr} {nY cY : Nat} {lo ly : Int} {wo wy : List Int} {gO gY : Option Nat} (hm : RMem w aO nO cO aY nY cY lo ly wo wy gO gY) (a : Int) (he : HE wo wy a ≠ 0) :
    Calls Try.prog 35 #[.agg #[.int .i64 0, .int .i64 lo, .slice aO nO cO, .int .i64 16777216, .int .i64 ly, .slice aY nY cY], .int .i64 a] w fun e w' => e = .returned (.tuple #[.int .i64 0, .int .u64 0, .int .i64 (HE wo wy a)]) ∧ Below w.heap.size w w' := by
  have hH := fun W (h : Below w.heap.size w W) => rmhdr_any (hm.below h) a
  generalize HK wo wy a = hk at *
  generalize HC wo wy a = hc at *
  generalize HF wo wy a = hf at *
  generalize HE wo wy a = er at *
  have hb1 : (er != 0) = true := by simpa using he
  clear hm he
  have hw0 : Below w.heap.size w w := Below.refl _ _
  go_enter Try.func35, Try.ntmps35
  go_wp2_with fail
  refine (hH _ (by (repeat (first | exact Below.refl _ _ | assumption | refine Below.drew ?_ | refine below_drewN ?_ _ | refine balloc ?_ _ | refine Below.setCell ?_ (by first | (simp; done) | (simp; omega) | omega) _ | refine bchain (by assumption) ?_)))).mono ?_
  rintro e w1 ⟨rfl, hb1⟩
  have hB1 : Below w.heap.size w w1 := by (repeat (first | exact Below.refl _ _ | assumption | refine Below.drew ?_ | refine below_drewN ?_ _ | refine balloc ?_ _ | refine Below.setCell ?_ (by first | (simp; done) | (simp; omega) | omega) _ | refine bchain (by assumption) ?_))
  have k0 : w1.heap[w.heap.size]? = some (.cells #[.int .i64 0, .int .i64 lo, .slice aO nO cO, .int .i64 16777216, .int .i64 ly, .slice aY nY cY] 35 (0, 0)) := bblock hb1 (by repeat (first | exact alloc_at _ (by simp) | refine alloc_lt _ ?_))
  have hw1 := bchain hB1 hw0
  have hp1 : w.heap.size + 1 ≤ w1.heap.size := by have := (Array.getElem?_eq_some_iff.1 k0).1; omega
  have hz_k0 : w.heap.size < w1.heap.size := (Array.getElem?_eq_some_iff.1 k0).1
  clear hB1
  have k0_0 : w1.cell? ⟨w.heap.size, 0, none⟩ = some (.int .i64 0) := by rw [cell_of_block k0]; rfl
  have k0_1 : w1.cell? ⟨w.heap.size, 1, none⟩ = some (.int .i64 lo) := by rw [cell_of_block k0]; rfl
  have k0_2 : w1.cell? ⟨w.heap.size, 2, none⟩ = some (.slice aO nO cO) := by rw [cell_of_block k0]; rfl
  have k0_3 : w1.cell? ⟨w.heap.size, 3, none⟩ = some (.int .i64 16777216) := by rw [cell_of_block k0]; rfl
  have k0_4 : w1.cell? ⟨w.heap.size, 4, none⟩ = some (.int .i64 ly) := by rw [cell_of_block k0]; rfl
  have k0_5 : w1.cell? ⟨w.heap.size, 5, none⟩ = some (.slice aY nY cY) := by rw [cell_of_block k0]; rfl
  go_wp2
  go_ret3
  exact ⟨rfl, by (repeat (first | exact Below.refl _ _ | assumption | refine Below.drew ?_ | refine below_drewN ?_ _ | refine balloc ?_ _ | refine Below.setCell ?_ (by first | (simp; done) | (simp; omega) | omega) _ | refine bchain (by assumption) ?_))⟩
set_option maxRecDepth 100000 in
set_option maxHeartbeats 1000000 in
theorem rmstub_n {w : World} {aO : Option Addr} {nO cO : Nat} {aY : Option Addr} {nY cY : Nat} {lo ly : Int} {wo wy : List Int} {gO gY : Option Nat} (hm : RMem w aO nO cO aY nY cY lo ly wo wy gO gY) (a : Int) (he : HE wo wy a = 0) (h3 : HK wo wy a ≠ 3) :
    Calls Try.prog 35 #[.agg #[.int .i64 0, .int .i64 lo, .slice aO nO cO, .int .i64 16777216, .int .i64 ly, .slice aY nY cY], .int .i64 a] w fun e w' => e = .returned (.tuple #[.int .i64 0, .int .u64 0, .int .i64 7]) ∧ Below w.heap.size w w' := by
  have hH := fun W (h : Below w.heap.size w W) => rmhdr_any (hm.below h) a
  rw [he] at hH
  have n3 : (HK wo wy a != 3) = true := by simpa using h3
  generalize HK wo wy a = hk at *
  generalize HC wo wy a = hc at *
  generalize HF wo wy a = hf at *
  clear hm he h3
  have hw0 : Below w.heap.size w w := Below.refl _ _
  go_enter Try.func35, Try.ntmps35
  go_wp2_with fail
  refine (hH _ (by (repeat (first | exact Below.refl _ _ | assumption | refine Below.drew ?_ | refine below_drewN ?_ _ | refine balloc ?_ _ | refine Below.setCell ?_ (by first | (simp; done) | (simp; omega) | omega) _ | refine bchain (by assumption) ?_)))).mono ?_
  rintro e w1 ⟨rfl, hb1⟩
  have hB1 : Below w.heap.size w w1 := by (repeat (first | exact Below.refl _ _ | assumption | refine Below.drew ?_ | refine below_drewN ?_ _ | refine balloc ?_ _ | refine Below.setCell ?_ (by first | (simp; done) | (simp; omega) | omega) _ | refine bchain (by assumption) ?_))
  have k0 : w1.heap[w.heap.size]? = some (.cells #[.int .i64 0, .int .i64 lo, .slice aO nO cO, .int .i64 16777216, .int .i64 ly, .slice aY nY cY] 35 (0, 0)) := bblock hb1 (by repeat (first | exact alloc_at _ (by simp) | refine alloc_lt _ ?_))
  have hw1 := bchain hB1 hw0
  have hp1 : w.heap.size + 1 ≤ w1.heap.size := by have := (Array.getElem?_eq_some_iff.1 k0).1; omega
  have hz_k0 : w.heap.size < w1.heap.size := (Array.getElem?_eq_some_iff.1 k0).1
  clear hB1
  have k0_0 : w1.cell? ⟨w.heap.size, 0, none⟩ = some (.int .i64 0) := by rw [cell_of_block k0]; rfl
  have k0_1 : w1.cell? ⟨w.heap.size, 1, none⟩ = some (.int .i64 lo) := by rw [cell_of_block k0]; rfl
  have k0_2 : w1.cell? ⟨w.heap.size, 2, none⟩ = some (.slice aO nO cO) := by rw [cell_of_block k0]; rfl
  have k0_3 : w1.cell? ⟨w.heap.size, 3, none⟩ = some (.int .i64 16777216) := by rw [cell_of_block k0]; rfl
  have k0_4 : w1.cell? ⟨w.heap.size, 4, none⟩ = some (.int .i64 ly) := by rw [cell_of_block k0]; rfl
  have k0_5 : w1.cell? ⟨w.heap.size, 5, none⟩ = some (.slice aY nY cY) := by rw [cell_of_block k0]; rfl
  go_wp2
  go_ret3
  exact ⟨rfl, by (repeat (first | exact Below.refl _ _ | assumption | refine Below.drew ?_ | refine below_drewN ?_ _ | refine balloc ?_ _ | refine Below.setCell ?_ (by first | (simp; done) | (simp; omega) | omega) _ | refine bchain (by assumption) ?_))⟩
set_option maxRecDepth 100000 in
set_option maxHeartbeats 1000000 in
theorem rmstub_y {w : World} {aO : Option Addr} {nO cO : Nat} {aY : Option Addr} {nY cY : Nat} {lo ly : Int} {wo wy : List Int} {gO gY : Option Nat} (hm : RMem w aO nO cO aY nY cY lo ly wo wy gO gY) (a : Int) (he : HE wo wy a = 0) (h3 : HK wo wy a = 3) :
    Calls Try.prog 35 #[.agg #[.int .i64 0, .int .i64 lo, .slice aO nO cO, .int .i64 16777216, .int .i64 ly, .slice aY nY cY], .int .i64 a] w fun e w' => e = .returned (.tuple #[.int .i64 (wrap64 (LD wo wy (a + 2))), .int .u64 (LD wo wy (a + 3)), .int .i64 0]) ∧ Below w.heap.size w w' := by
  have hH := fun W (h : Below w.heap.size w W) => rmhdr_any (hm.below h) a
  have hL2 := fun W (h : Below w.heap.size w W) => rmload_any (hm.below h) (a + 2)
  have hL3 := fun W (h : Below w.heap.size w W) => rmload_any (hm.below h) (a + 3)
  have hbd := HE_bd he
  have hk1 := (hm.partOk a).b0
  have hk2 := (hm.partOk a).top
  have hk3 := (hm.partOk a).lm1
  have hx0 : 0 ≤ wordsI (HF wo wy a) := by unfold wordsI; split <;> omega
  have ha : 0 ≤ a ∧ a ≤ 1099511627776 := by omega
  rw [he] at hH
  rw [h3] at hH
  generalize HC wo wy a = hc at *
  generalize HF wo wy a = hf at *
  generalize LD wo wy (a + 2) = x at *
  generalize LE wo wy (a + 2) = y at *
  generalize LD wo wy (a + 3) = x3 at *
  generalize LE wo wy (a + 3) = y3 at *
  clear hm he hbd hk1 hk2 hk3 hx0 h3
  have hw0 : Below w.heap.size w w := Below.refl _ _
  go_enter Try.func35, Try.ntmps35
  go_wp2_with fail
  refine (hH _ (by (repeat (first | exact Below.refl _ _ | assumption | refine Below.drew ?_ | refine below_drewN ?_ _ | refine balloc ?_ _ | refine Below.setCell ?_ (by first | (simp; done) | (simp; omega) | omega) _ | refine bchain (by assumption) ?_)))).mono ?_
  rintro e w1 ⟨rfl, hb1⟩
  have hB1 : Below w.heap.size w w1 := by (repeat (first | exact Below.refl _ _ | assumption | refine Below.drew ?_ | refine below_drewN ?_ _ | refine balloc ?_ _ | refine Below.setCell ?_ (by first | (simp; done) | (simp; omega) | omega) _ | refine bchain (by assumption) ?_))
  have k0 : w1.heap[w.heap.size]? = some (.cells #[.int .i64 0, .int .i64 lo, .slice aO nO cO, .int .i64 16777216, .int .i64 ly, .slice aY nY cY] 35 (0, 0)) := bblock hb1 (by repeat (first | exact alloc_at _ (by simp) | refine alloc_lt _ ?_))
  have hw1 := bchain hB1 hw0
  have hp1 : w.heap.size + 1 ≤ w1.heap.size := by have := (Array.getElem?_eq_some_iff.1 k0).1; omega
  have hz_k0 : w.heap.size < w1.heap.size := (Array.getElem?_eq_some_iff.1 k0).1
  clear hB1
  have k0_0 : w1.cell? ⟨w.heap.size, 0, none⟩ = some (.int .i64 0) := by rw [cell_of_block k0]; rfl
  have k0_1 : w1.cell? ⟨w.heap.size, 1, none⟩ = some (.int .i64 lo) := by rw [cell_of_block k0]; rfl
  have k0_2 : w1.cell? ⟨w.heap.size, 2, none⟩ = some (.slice aO nO cO) := by rw [cell_of_block k0]; rfl
  have k0_3 : w1.cell? ⟨w.heap.size, 3, none⟩ = some (.int .i64 16777216) := by rw [cell_of_block k0]; rfl
  have k0_4 : w1.cell? ⟨w.heap.size, 4, none⟩ = some (.int .i64 ly) := by rw [cell_of_block k0]; rfl
  have k0_5 : w1.cell? ⟨w.heap.size, 5, none⟩ = some (.slice aY nY cY) := by rw [cell_of_block k0]; rfl
  go_wp2_with fail
  refine (hL2 _ (by (repeat (first | exact Below.refl _ _ | assumption | refine Below.drew ?_ | refine below_drewN ?_ _ | refine balloc ?_ _ | refine Below.setCell ?_ (by first | (simp; done) | (simp; omega) | omega) _ | refine bchain (by assumption) ?_)))).mono ?_
  rintro e w2 ⟨rfl, hb2⟩
  have hB2 : Below w1.heap.size w1 w2 := by (repeat (first | exact Below.refl _ _ | assumption | refine Below.drew ?_ | refine below_drewN ?_ _ | refine balloc ?_ _ | refine Below.setCell ?_ (by first | (simp; done) | (simp; omega) | omega) _ | refine bchain (by assumption) ?_))
  have k0 := bblock hB2 k0
  have t : w2.heap[w1.heap.size]? = some (.cells #[.int .i64 3, .int .i64 hc, .int .i64 hf] 23 (0, 0)) := bblock hb2 (by repeat (first | exact alloc_at _ (by simp) | refine alloc_lt _ ?_))
  have hw2 := bchain hB2 hw1
  have hp2 : w.heap.size + 1 ≤ w2.heap.size := by have := (Array.getElem?_eq_some_iff.1 k0).1; omega
  clear hz_k0
  have hz_k0 : w.heap.size < w2.heap.size := (Array.getElem?_eq_some_iff.1 k0).1
  have hz_t : w1.heap.size < w2.heap.size := (Array.getElem?_eq_some_iff.1 t).1
  clear hB2
  clear k0_0 k0_1 k0_2 k0_3 k0_4 k0_5
  have k0_0 : w2.cell? ⟨w.heap.size, 0, none⟩ = some (.int .i64 0) := by rw [cell_of_block k0]; rfl
  have k0_1 : w2.cell? ⟨w.heap.size, 1, none⟩ = some (.int .i64 lo) := by rw [cell_of_block k0]; rfl
  have k0_2 : w2.cell? ⟨w.heap.size, 2, none⟩ = some (.slice aO nO cO) := by rw [cell_of_block k0]; rfl
  have k0_3 : w2.cell? ⟨w.heap.size, 3, none⟩ = some (.int .i64 16777216) := by rw [cell_of_block k0]; rfl
  have k0_4 : w2.cell? ⟨w.heap.size, 4, none⟩ = some (.int .i64 ly) := by rw [cell_of_block k0]; rfl
  have k0_5 : w2.cell? ⟨w.heap.size, 5, none⟩ = some (.slice aY nY cY) := by rw [cell_of_block k0]; rfl
  have t_0 : w2.cell? ⟨w1.heap.size, 0, none⟩ = some (.int .i64 3) := by rw [cell_of_block t]; rfl
  have t_1 : w2.cell? ⟨w1.heap.size, 1, none⟩ = some (.int .i64 hc) := by rw [cell_of_block t]; rfl
  have t_2 : w2.cell? ⟨w1.heap.size, 2, none⟩ = some (.int .i64 hf) := by rw [cell_of_block t]; rfl
  go_wp2_with fail
  refine (hL3 _ (by (repeat (first | exact Below.refl _ _ | assumption | refine Below.drew ?_ | refine below_drewN ?_ _ | refine balloc ?_ _ | refine Below.setCell ?_ (by first | (simp; done) | (simp; omega) | omega) _ | refine bchain (by assumption) ?_)))).mono ?_
  rintro e w3 ⟨rfl, hb3⟩
  have hB3 : Below w2.heap.size w2 w3 := by (repeat (first | exact Below.refl _ _ | assumption | refine Below.drew ?_ | refine below_drewN ?_ _ | refine balloc ?_ _ | refine Below.setCell ?_ (by first | (simp; done) | (simp; omega) | omega) _ | refine bchain (by assumption) ?_))
  have k0 := bblock hB3 k0
  have t := bblock hB3 t
  have hw3 := bchain hB3 hw2
  have hp3 : w.heap.size + 1 ≤ w3.heap.size := by have := (Array.getElem?_eq_some_iff.1 k0).1; omega
  clear hz_k0 hz_t
  have hz_k0 : w.heap.size < w3.heap.size := (Array.getElem?_eq_some_iff.1 k0).1
  have hz_t : w1.heap.size < w3.heap.size := (Array.getElem?_eq_some_iff.1 t).1
  clear hB3
  clear k0_0 k0_1 k0_2 k0_3 k0_4 k0_5 t_0 t_1 t_2
  have k0_0 : w3.cell? ⟨w.heap.size, 0, none⟩ = some (.int .i64 0) := by rw [cell_of_block k0]; rfl
  have k0_1 : w3.cell? ⟨w.heap.size, 1, none⟩ = some (.int .i64 lo) := by rw [cell_of_block k0]; rfl
  have k0_2 : w3.cell? ⟨w.heap.size, 2, none⟩ = some (.slice aO nO cO) := by rw [cell_of_block k0]; rfl
  have k0_3 : w3.cell? ⟨w.heap.size, 3, none⟩ = some (.int .i64 16777216) := by rw [cell_of_block k0]; rfl
  have k0_4 : w3.cell? ⟨w.heap.size, 4, none⟩ = some (.int .i64 ly) := by rw [cell_of_block k0]; rfl
  have k0_5 : w3.cell? ⟨w.heap.size, 5, none⟩ = some (.slice aY nY cY) := by rw [cell_of_block k0]; rfl
  have t_0 : w3.cell? ⟨w1.heap.size, 0, none⟩ = some (.int .i64 3) := by rw [cell_of_block t]; rfl
  have t_1 : w3.cell? ⟨w1.heap.size, 1, none⟩ = some (.int .i64 hc) := by rw [cell_of_block t]; rfl
  have t_2 : w3.cell? ⟨w1.heap.size, 2, none⟩ = some (.int .i64 hf) := by rw [cell_of_block t]; rfl
  go_wp2
  go_ret3
  exact ⟨rfl, by (repeat (first | exact Below.refl _ _ | assumption | refine Below.drew ?_ | refine below_drewN ?_ _ | refine balloc ?_ _ | refine Below.setCell ?_ (by first | (simp; done) | (simp; omega) | omega) _ | refine bchain (by assumption) ?_))⟩
theorem rmstub_any {w : World} {aO : Option Addr} {nO cO : Nat} {aY : Option Addr} {nY cY : Nat} {lo ly : Int} {wo wy : List Int} {gO gY : Option Nat} (hm : RMem w aO nO cO aY nY cY lo ly wo wy gO gY) (a : Int) : Calls Try.prog 35 #[.agg #[.int .i64 0, .int .i64 lo, .slice aO nO cO, .int .i64 16777216, .int .i64 ly, .slice aY nY cY], .int .i64 a] w fun e w' => e = .returned (.tuple #[.int .i64 (sbN wo wy a), .int .u64 (sbU wo wy a), .int .i64 (sbE wo wy a)]) ∧ Below w.heap.size w w' := by
  unfold sbN sbU
  by_cases he : HE wo wy a = 0
  · by_cases h3 : HK wo wy a = 3
    · have e : sbE wo wy a = 0 := by rw [sbE_of, if_neg (by simpa using he), if_pos h3]
      rw [e, if_pos rfl, if_pos rfl]
      exact rmstub_y hm a he h3
    · have e : sbE wo wy a = 7 := by rw [sbE_of, if_neg (by simpa using he), if_neg h3]
      rw [e, if_neg (by decide), if_neg (by decide)]
      exact rmstub_n hm a he h3
  · have e : sbE wo wy a = HE wo wy a := by rw [sbE_of, if_pos he]
    rw [e, if_neg he, if_neg he]
    exact rmstub_e hm a he
end Go.Proofs.Ytcmhgjkijegpnaa
namespace Go.Proofs.Ytcmhgjkijegpnaa
open Go.RowKit
set_option linter.unusedSimpArgs false
set_option linter.unusedVariables false

theorem block_set {w : World} {k i : Nat} {cs : Array Value} {T : TypeId} {v : Value} (h : w.heap[k]? = some (.cells cs T (0, 0))) : (w.setCell ⟨k, i, none⟩ v).heap[k]? = some (.cells (cs.set! i v) T (0, 0)) := by
  simp [World.setCell, Array.getElem?_modify, h]
theorem set6 {w : World} {k : Nat} {T : TypeId} {a0 a1 a2 a3 a4 a5 b0 b1 b2 b3 b4 b5 : Value} (h : w.heap[k]? = some (.cells #[a0, a1, a2, a3, a4, a5] T (0, 0))) :
    ((((((w.setCell ⟨k, 0, none⟩ b0).setCell ⟨k, 1, none⟩ b1).setCell ⟨k, 2, none⟩ b2).setCell ⟨k, 3, none⟩ b3).setCell ⟨k, 4, none⟩ b4).setCell ⟨k, 5, none⟩ b5).heap[k]? = some (.cells #[b0, b1, b2, b3, b4, b5] T (0, 0)) := by
  exact block_set (block_set (block_set (block_set (block_set (block_set h)))))
theorem set_other {w : World} {k j i : Nat} {v : Value} {o : Obj} (h : w.heap[k]? = some o) (hn : k ≠ j) : (w.setCell ⟨j, i, none⟩ v).heap[k]? = some o := by
  simp [World.setCell, Array.getElem?_modify, Ne.symm hn, h]
theorem nsz6 {w : World} {k : Nat} {b0 b1 b2 b3 b4 b5 : Value} : ((((((w.setCell ⟨k, 0, none⟩ b0).setCell ⟨k, 1, none⟩ b1).setCell ⟨k, 2, none⟩ b2).setCell ⟨k, 3, none⟩ b3).setCell ⟨k, 4, none⟩ b4).setCell ⟨k, 5, none⟩ b5).heap.size = w.heap.size := by simp [World.setCell]
theorem six_other {w : World} {k j : Nat} {o : Obj} {b0 b1 b2 b3 b4 b5 : Value} (h : w.heap[k]? = some o) (hn : k ≠ j) : ((((((w.setCell ⟨j, 0, none⟩ b0).setCell ⟨j, 1, none⟩ b1).setCell ⟨j, 2, none⟩ b2).setCell ⟨j, 3, none⟩ b3).setCell ⟨j, 4, none⟩ b4).setCell ⟨j, 5, none⟩ b5).heap[k]? = some o :=
  set_other (set_other (set_other (set_other (set_other (set_other h hn) hn) hn) hn) hn) hn
theorem six_chain {w wk w' : World} {b0 b1 b2 b3 b4 b5 : Value} (h : Below w.heap.size w wk) (hb : Below (((((((wk.setCell ⟨w.heap.size, 0, none⟩ b0).setCell ⟨w.heap.size, 1, none⟩ b1).setCell ⟨w.heap.size, 2, none⟩ b2).setCell ⟨w.heap.size, 3, none⟩ b3).setCell ⟨w.heap.size, 4, none⟩ b4).setCell ⟨w.heap.size, 5, none⟩ b5)).heap.size ((((((wk.setCell ⟨w.heap.size, 0, none⟩ b0).setCell ⟨w.heap.size, 1, none⟩ b1).setCell ⟨w.heap.size, 2, none⟩ b2).setCell ⟨w.heap.size, 3, none⟩ b3).setCell ⟨w.heap.size, 4, none⟩ b4).setCell ⟨w.heap.size, 5, none⟩ b5) w') : Below w.heap.size w w' := by
  refine bchain hb ?_
  exact below_set (below_set (below_set (below_set (below_set (below_set h _ _ _ (Nat.le_refl _)) _ _ _ (Nat.le_refl _)) _ _ _ (Nat.le_refl _)) _ _ _ (Nat.le_refl _)) _ _ _ (Nat.le_refl _)) _ _ _ (Nat.le_refl _)
theorem RMem.two {w wk W : World} {lo ly : Int} {wo wy wo' wy' : List Int} {gO gY gO' gY' : Option Nat} {aO : Option Addr} {nO cO : Nat} {aY : Option Addr} {nY cY : Nat} {aO' : Option Addr} {nO' cO' : Nat} {aY' : Option Addr} {nY' cY' : Nat}
    (hk : RMem wk aO' nO' cO' aY' nY' cY' lo ly wo' wy' gO' gY') (hm : RMem w aO nO cO aY nY cY lo ly wo wy gO gY) (hgO : ∀ G, gO' = some G → gO = some G ∨ w.heap.size + 2 ≤ G) (hgY : ∀ G, gY' = some G → gY = some G ∨ w.heap.size + 2 ≤ G) (hF : Mods (Two w) wk W) : RMem W aO' nO' cO' aY' nY' cY' lo ly wo' wy' gO' gY' := by
  have l1 := hm.old.lt'
  have l2 := hm.yng.lt'
  refine ⟨hk.lO, hk.lY, hk.old.mods hF (fun G e => ?_), hk.yng.mods hF (fun G e => ?_), hk.okO, hk.okY, hk.lim⟩
  · rintro (h | h) <;> rcases hgO G e with h' | h' <;> first | omega | (have := l1 G h'; omega)
  · rintro (h | h) <;> rcases hgY G e with h' | h' <;> first | omega | (have := l2 G h'; omega)
theorem le_up {wo wy wo' wy' : List Int} {a : Int} (h : HE wo wy a = 0) (h1 : wo'.length = wo.length) (h2 : wy'.length = wy.length) {lo : Int} (hl : (wo.length : Int) ≤ lo) (hlo : lo ≤ 16777216) {i : Int} (hi0 : 0 ≤ i) (hi : i < wordsI (HF wo wy a)) : LE wo' wy' (a + i) = 0 := by
  obtain ⟨_, _, _, h3, h4⟩ := HE_bd h
  have hb : bsA (a + i) = bsA a := by
    unfold bsA wsA at *
    by_cases hq : 16777216 ≤ a
    · rw [if_pos hq, if_pos (by omega)]
    · rw [if_neg hq] at h4 ⊢
      rw [if_neg hq] at h4
      rw [if_neg (by omega)]
  have hw : (wsA wo' wy' (a + i)).length = (wsA wo wy a).length := by
    unfold bsA at hb
    unfold wsA
    by_cases hq : 16777216 ≤ a
    · rw [if_pos hq, if_pos (by omega)]; exact h2
    · rw [if_neg hq] at hb ⊢
      by_cases hq2 : 16777216 ≤ a + i
      · rw [if_pos hq2] at hb; cases hb
      · rw [if_neg hq2]; exact h1
  unfold LE ioE
  rw [hb, hw, if_pos (inB_iff.2 ⟨by omega, by omega⟩)]
set_option maxRecDepth 100000 in
set_option maxHeartbeats 1000000 in
theorem rreroute_e {w : World} {aO : Option Addr} {nO cO : Nat} {aY : Option Addr} {nY cY : Nat} {lo ly : Int} {wo wy : List Int} {gO gY : Option Nat} (hm : RMem w aO nO cO aY nY cY lo ly wo wy gO gY) (a n u : Int) (he : sbE wo wy a ≠ 0) :
    Calls Try.prog 58 #[.agg #[.int .i64 0, .int .i64 lo, .slice aO nO cO, .int .i64 16777216, .int .i64 ly, .slice aY nY cY], .int .i64 a, .int .i64 n, .int .u64 u] w (RNext w (fun v => .tuple #[v, .int .i64 (sbE wo wy a)]) lo ly wo wy gO gY) := by
  have hS := fun W (h : Below w.heap.size w W) => rmstub_any (hm.below h) a
  have hmB := fun W (H : Below w.heap.size w W) => hm.below H
  generalize sbN wo wy a = sn at *
  generalize sbU wo wy a = su at *
  generalize sbE wo wy a = er at *
  have hb1 : (er != 0) = true := by simpa using he
  clear he
  have hw0 : Below w.heap.size w w := Below.refl _ _
  go_enter Try.func58, Try.ntmps58
  go_wp2_with fail
  refine (hS _ (by (repeat (first | exact Below.refl _ _ | assumption | refine Below.drew ?_ | refine below_drewN ?_ _ | refine balloc ?_ _ | refine Below.setCell ?_ (by first | (simp; done) | (simp; omega) | omega) _ | refine bchain (by assumption) ?_)))).mono ?_
  rintro e w1 ⟨rfl, hb1⟩
  have hB1 : Below w.heap.size w w1 := by (repeat (first | exact Below.refl _ _ | assumption | refine Below.drew ?_ | refine below_drewN ?_ _ | refine balloc ?_ _ | refine Below.setCell ?_ (by first | (simp; done) | (simp; omega) | omega) _ | refine bchain (by assumption) ?_))
  have k0 : w1.heap[w.heap.size]? = some (.cells #[.int .i64 0, .int .i64 lo, .slice aO nO cO, .int .i64 16777216, .int .i64 ly, .slice aY nY cY] 35 (0, 0)) := bblock hb1 (by repeat (first | exact alloc_at _ (by simp) | refine alloc_lt _ ?_))
  have r : w1.heap[w.heap.size + 1]? = some (.cells #[.int .i64 0, .int .i64 0, .slice none 0 0, .int .i64 0, .int .i64 0, .slice none 0 0] 35 (0, 0)) := bblock hb1 (by repeat (first | exact alloc_at _ (by simp) | refine alloc_lt _ ?_))
  have hw1 := bchain hB1 hw0
  have hp1 : w.heap.size + 2 ≤ w1.heap.size := by have := (Array.getElem?_eq_some_iff.1 r).1; omega
  have hz_k0 : w.heap.size < w1.heap.size := (Array.getElem?_eq_some_iff.1 k0).1
  have hz_r : w.heap.size + 1 < w1.heap.size := (Array.getElem?_eq_some_iff.1 r).1
  clear hB1
  have k0_0 : w1.cell? ⟨w.heap.size, 0, none⟩ = some (.int .i64 0) := by rw [cell_of_block k0]; rfl
  have k0_1 : w1.cell? ⟨w.heap.size, 1, none⟩ = some (.int .i64 lo) := by rw [cell_of_block k0]; rfl
  have k0_2 : w1.cell? ⟨w.heap.size, 2, none⟩ = some (.slice aO nO cO) := by rw [cell_of_block k0]; rfl
  have k0_3 : w1.cell? ⟨w.heap.size, 3, none⟩ = some (.int .i64 16777216) := by rw [cell_of_block k0]; rfl
  have k0_4 : w1.cell? ⟨w.heap.size, 4, none⟩ = some (.int .i64 ly) := by rw [cell_of_block k0]; rfl
  have k0_5 : w1.cell? ⟨w.heap.size, 5, none⟩ = some (.slice aY nY cY) := by rw [cell_of_block k0]; rfl
  have r_0 : w1.cell? ⟨w.heap.size + 1, 0, none⟩ = some (.int .i64 0) := by rw [cell_of_block r]; rfl
  have r_1 : w1.cell? ⟨w.heap.size + 1, 1, none⟩ = some (.int .i64 0) := by rw [cell_of_block r]; rfl
  have r_2 : w1.cell? ⟨w.heap.size + 1, 2, none⟩ = some (.slice none 0 0) := by rw [cell_of_block r]; rfl
  have r_3 : w1.cell? ⟨w.heap.size + 1, 3, none⟩ = some (.int .i64 0) := by rw [cell_of_block r]; rfl
  have r_4 : w1.cell? ⟨w.heap.size + 1, 4, none⟩ = some (.int .i64 0) := by rw [cell_of_block r]; rfl
  have r_5 : w1.cell? ⟨w.heap.size + 1, 5, none⟩ = some (.slice none 0 0) := by rw [cell_of_block r]; rfl
  have r_f : ∀ i, w1.frozen? ⟨w.heap.size + 1, i, none⟩ = false := frozen_of_block r
  go_wp2
  refine bodyPost_ret (v := .tuple #[.agg #[.int .i64 0, .int .i64 lo, .slice aO nO cO, .int .i64 16777216, .int .i64 ly, .slice aY nY cY], .int .i64 er]) (by simp [results, Try.results58, go_sem, k0_0, k0_1, k0_2, k0_3, k0_4, k0_5, r_0, r_1, r_2, r_3, r_4, r_5, r_f, hz_k0, hz_r]) rfl ?_
  refine rnext_fin (w := w) (wk := w1) (mk := fun v => .tuple #[v, .int .i64 er]) hm (hmB _ hw1) ?_ (fun G e => .inl e) (fun G e => .inl e) ?_
  · (repeat (first | (with_reducible refine Mods.alloc ?_ _) | (with_reducible refine two_set ?_ _ _ _ (.inl rfl)) | (with_reducible refine two_set ?_ _ _ _ (.inr rfl)) | (with_reducible exact Mods.refl _ _)))
  · (repeat (first | (with_reducible refine balloc ?_ _) | (with_reducible refine below_set ?_ _ _ _ (Nat.le_refl _)) | (with_reducible refine below_set ?_ _ _ _ (Nat.le_add_right _ _)) | (with_reducible assumption)))
set_option maxRecDepth 100000 in
set_option maxHeartbeats 1000000 in
theorem rreroute_lo {w : World} {aO : Option Addr} {nO cO : Nat} {aY : Option Addr} {nY cY : Nat} {lo ly : Int} {wo wy : List Int} {gO gY : Option Nat} (hm : RMem w aO nO cO aY nY cY lo ly wo wy gO gY) (a n u : Int) (he : sbE wo wy a = 0) (hn : n < 1) :
    Calls Try.prog 58 #[.agg #[.int .i64 0, .int .i64 lo, .slice aO nO cO, .int .i64 16777216, .int .i64 ly, .slice aY nY cY], .int .i64 a, .int .i64 n, .int .u64 u] w (RNext w (fun v => .tuple #[v, .int .i64 1]) lo ly wo wy gO gY) := by
  have hS := fun W (h : Below w.heap.size w W) => rmstub_any (hm.below h) a
  have hmB := fun W (H : Below w.heap.size w W) => hm.below H
  generalize sbN wo wy a = sn at *
  generalize sbU wo wy a = su at *
  rw [he] at hS
  clear he
  have hw0 : Below w.heap.size w w := Below.refl _ _
  go_enter Try.func58, Try.ntmps58
  go_wp2_with fail
  refine (hS _ (by (repeat (first | exact Below.refl _ _ | assumption | refine Below.drew ?_ | refine below_drewN ?_ _ | refine balloc ?_ _ | refine Below.setCell ?_ (by first | (simp; done) | (simp; omega) | omega) _ | refine bchain (by assumption) ?_)))).mono ?_
  rintro e w1 ⟨rfl, hb1⟩
  have hB1 : Below w.heap.size w w1 := by (repeat (first | exact Below.refl _ _ | assumption | refine Below.drew ?_ | refine below_drewN ?_ _ | refine balloc ?_ _ | refine Below.setCell ?_ (by first | (simp; done) | (simp; omega) | omega) _ | refine bchain (by assumption) ?_))
  have k0 : w1.heap[w.heap.size]? = some (.cells #[.int .i64 0, .int .i64 lo, .slice aO nO cO, .int .i64 16777216, .int .i64 ly, .slice aY nY cY] 35 (0, 0)) := bblock hb1 (by repeat (first | exact alloc_at _ (by simp) | refine alloc_lt _ ?_))
  have r : w1.heap[w.heap.size + 1]? = some (.cells #[.int .i64 0, .int .i64 0, .slice none 0 0, .int .i64 0, .int .i64 0, .slice none 0 0] 35 (0, 0)) := bblock hb1 (by repeat (first | exact alloc_at _ (by simp) | refine alloc_lt _ ?_))
  have hw1 := bchain hB1 hw0
  have hp1 : w.heap.size + 2 ≤ w1.heap.size := by have := (Array.getElem?_eq_some_iff.1 r).1; omega
  have hz_k0 : w.heap.size < w1.heap.size := (Array.getElem?_eq_some_iff.1 k0).1
  have hz_r : w.heap.size + 1 < w1.heap.size := (Array.getElem?_eq_some_iff.1 r).1
  clear hB1
  have k0_0 : w1.cell? ⟨w.heap.size, 0, none⟩ = some (.int .i64 0) := by rw [cell_of_block k0]; rfl
  have k0_1 : w1.cell? ⟨w.heap.size, 1, none⟩ = some (.int .i64 lo) := by rw [cell_of_block k0]; rfl
  have k0_2 : w1.cell? ⟨w.heap.size, 2, none⟩ = some (.slice aO nO cO) := by rw [cell_of_block k0]; rfl
  have k0_3 : w1.cell? ⟨w.heap.size, 3, none⟩ = some (.int .i64 16777216) := by rw [cell_of_block k0]; rfl
  have k0_4 : w1.cell? ⟨w.heap.size, 4, none⟩ = some (.int .i64 ly) := by rw [cell_of_block k0]; rfl
  have k0_5 : w1.cell? ⟨w.heap.size, 5, none⟩ = some (.slice aY nY cY) := by rw [cell_of_block k0]; rfl
  have r_0 : w1.cell? ⟨w.heap.size + 1, 0, none⟩ = some (.int .i64 0) := by rw [cell_of_block r]; rfl
  have r_1 : w1.cell? ⟨w.heap.size + 1, 1, none⟩ = some (.int .i64 0) := by rw [cell_of_block r]; rfl
  have r_2 : w1.cell? ⟨w.heap.size + 1, 2, none⟩ = some (.slice none 0 0) := by rw [cell_of_block r]; rfl
  have r_3 : w1.cell? ⟨w.heap.size + 1, 3, none⟩ = some (.int .i64 0) := by rw [cell_of_block r]; rfl
  have r_4 : w1.cell? ⟨w.heap.size + 1, 4, none⟩ = some (.int .i64 0) := by rw [cell_of_block r]; rfl
  have r_5 : w1.cell? ⟨w.heap.size + 1, 5, none⟩ = some (.slice none 0 0) := by rw [cell_of_block r]; rfl
  have r_f : ∀ i, w1.frozen? ⟨w.heap.size + 1, i, none⟩ = false := frozen_of_block r
  go_wp2
  refine bodyPost_ret (v := .tuple #[.agg #[.int .i64 0, .int .i64 lo, .slice aO nO cO, .int .i64 16777216, .int .i64 ly, .slice aY nY cY], .int .i64 1]) (by simp [results, Try.results58, go_sem, k0_0, k0_1, k0_2, k0_3, k0_4, k0_5, r_0, r_1, r_2, r_3, r_4, r_5, r_f, hz_k0, hz_r]) rfl ?_
  refine rnext_fin (w := w) (wk := w1) (mk := fun v => .tuple #[v, .int .i64 1]) hm (hmB _ hw1) ?_ (fun G e => .inl e) (fun G e => .inl e) ?_
  · (repeat (first | (with_reducible refine Mods.alloc ?_ _) | (with_reducible refine two_set ?_ _ _ _ (.inl rfl)) | (with_reducible refine two_set ?_ _ _ _ (.inr rfl)) | (with_reducible exact Mods.refl _ _)))
  · (repeat (first | (with_reducible refine balloc ?_ _) | (with_reducible refine below_set ?_ _ _ _ (Nat.le_refl _)) | (with_reducible refine below_set ?_ _ _ _ (Nat.le_add_right _ _)) | (with_reducible assumption)))
set_option maxRecDepth 100000 in
set_option maxHeartbeats 1000000 in
theorem rreroute_hi {w : World} {aO : Option Addr} {nO cO : Nat} {aY : Option Addr} {nY cY : Nat} {lo ly : Int} {wo wy : List Int} {gO gY : Option Nat} (hm : RMem w aO nO cO aY nY cY lo ly wo wy gO gY) (a n u : Int) (he : sbE wo wy a = 0) (hn0 : 1 ≤ n) (hn : 8 < n) :
    Calls Try.prog 58 #[.agg #[.int .i64 0, .int .i64 lo, .slice aO nO cO, .int .i64 16777216, .int .i64 ly, .slice aY nY cY], .int .i64 a, .int .i64 n, .int .u64 u] w (RNext w (fun v => .tuple #[v, .int .i64 1]) lo ly wo wy gO gY) := by
  have hS := fun W (h : Below w.heap.size w W) => rmstub_any (hm.below h) a
  have hmB := fun W (H : Below w.heap.size w W) => hm.below H
  generalize sbN wo wy a = sn at *
  generalize sbU wo wy a = su at *
  rw [he] at hS
  clear he
  have hw0 : Below w.heap.size w w := Below.refl _ _
  go_enter Try.func58, Try.ntmps58
  go_wp2_with fail
  refine (hS _ (by (repeat (first | exact Below.refl _ _ | assumption | refine Below.drew ?_ | refine below_drewN ?_ _ | refine balloc ?_ _ | refine Below.setCell ?_ (by first | (simp; done) | (simp; omega) | omega) _ | refine bchain (by assumption) ?_)))).mono ?_
  rintro e w1 ⟨rfl, hb1⟩
  have hB1 : Below w.heap.size w w1 := by (repeat (first | exact Below.refl _ _ | assumption | refine Below.drew ?_ | refine below_drewN ?_ _ | refine balloc ?_ _ | refine Below.setCell ?_ (by first | (simp; done) | (simp; omega) | omega) _ | refine bchain (by assumption) ?_))
  have k0 : w1.heap[w.heap.size]? = some (.cells #[.int .i64 0, .int .i64 lo, .slice aO nO cO, .int .i64 16777216, .int .i64 ly, .slice aY nY cY] 35 (0, 0)) := bblock hb1 (by repeat (first | exact alloc_at _ (by simp) | refine alloc_lt _ ?_))
  have r : w1.heap[w.heap.size + 1]? = some (.cells #[.int .i64 0, .int .i64 0, .slice none 0 0, .int .i64 0, .int .i64 0, .slice none 0 0] 35 (0, 0)) := bblock hb1 (by repeat (first | exact alloc_at _ (by simp) | refine alloc_lt _ ?_))
  have hw1 := bchain hB1 hw0
  have hp1 : w.heap.size + 2 ≤ w1.heap.size := by have := (Array.getElem?_eq_some_iff.1 r).1; omega
  have hz_k0 : w.heap.size < w1.heap.size := (Array.getElem?_eq_some_iff.1 k0).1
  have hz_r : w.heap.size + 1 < w1.heap.size := (Array.getElem?_eq_some_iff.1 r).1
  clear hB1
  have k0_0 : w1.cell? ⟨w.heap.size, 0, none⟩ = some (.int .i64 0) := by rw [cell_of_block k0]; rfl
  have k0_1 : w1.cell? ⟨w.heap.size, 1, none⟩ = some (.int .i64 lo) := by rw [cell_of_block k0]; rfl
  have k0_2 : w1.cell? ⟨w.heap.size, 2, none⟩ = some (.slice aO nO cO) := by rw [cell_of_block k0]; rfl
  have k0_3 : w1.cell? ⟨w.heap.size, 3, none⟩ = some (.int .i64 16777216) := by rw [cell_of_block k0]; rfl
  have k0_4 : w1.cell? ⟨w.heap.size, 4, none⟩ = some (.int .i64 ly) := by rw [cell_of_block k0]; rfl
  have k0_5 : w1.cell? ⟨w.heap.size, 5, none⟩ = some (.slice aY nY cY) := by rw [cell_of_block k0]; rfl
  have r_0 : w1.cell? ⟨w.heap.size + 1, 0, none⟩ = some (.int .i64 0) := by rw [cell_of_block r]; rfl
  have r_1 : w1.cell? ⟨w.heap.size + 1, 1, none⟩ = some (.int .i64 0) := by rw [cell_of_block r]; rfl
  have r_2 : w1.cell? ⟨w.heap.size + 1, 2, none⟩ = some (.slice none 0 0) := by rw [cell_of_block r]; rfl
  have r_3 : w1.cell? ⟨w.heap.size + 1, 3, none⟩ = some (.int .i64 0) := by rw [cell_of_block r]; rfl
  have r_4 : w1.cell? ⟨w.heap.size + 1, 4, none⟩ = some (.int .i64 0) := by rw [cell_of_block r]; rfl
  have r_5 : w1.cell? ⟨w.heap.size + 1, 5, none⟩ = some (.slice none 0 0) := by rw [cell_of_block r]; rfl
  have r_f : ∀ i, w1.frozen? ⟨w.heap.size + 1, i, none⟩ = false := frozen_of_block r
  go_wp2
  refine bodyPost_ret (v := .tuple #[.agg #[.int .i64 0, .int .i64 lo, .slice aO nO cO, .int .i64 16777216, .int .i64 ly, .slice aY nY cY], .int .i64 1]) (by simp [results, Try.results58, go_sem, k0_0, k0_1, k0_2, k0_3, k0_4, k0_5, r_0, r_1, r_2, r_3, r_4, r_5, r_f, hz_k0, hz_r]) rfl ?_
  refine rnext_fin (w := w) (wk := w1) (mk := fun v => .tuple #[v, .int .i64 1]) hm (hmB _ hw1) ?_ (fun G e => .inl e) (fun G e => .inl e) ?_
  · (repeat (first | (with_reducible refine Mods.alloc ?_ _) | (with_reducible refine two_set ?_ _ _ _ (.inl rfl)) | (with_reducible refine two_set ?_ _ _ _ (.inr rfl)) | (with_reducible exact Mods.refl _ _)))
  · (repeat (first | (with_reducible refine balloc ?_ _) | (with_reducible refine below_set ?_ _ _ _ (Nat.le_refl _)) | (with_reducible refine below_set ?_ _ _ _ (Nat.le_add_right _ _)) | (with_reducible assumption)))
set_option maxRecDepth 100000 in
set_option maxHeartbeats 2000000 in
theorem rreroute_y {w : World} {aO : Option Addr} {nO cO : Nat} {aY : Option Addr} {nY cY : Nat} {lo ly : Int} {wo wy : List Int} {gO gY : Option Nat} (hm : RMem w aO nO cO aY nY cY lo ly wo wy gO gY) (a n u : Int) (hu : U64 u) (he : sbE wo wy a = 0) (hn1 : 1 ≤ n) (hn2 : n ≤ 8) :
    Calls Try.prog 58 #[.agg #[.int .i64 0, .int .i64 lo, .slice aO nO cO, .int .i64 16777216, .int .i64 ly, .slice aY nY cY], .int .i64 a, .int .i64 n, .int .u64 u] w (RNext w (fun v => .tuple #[v, .int .i64 0]) lo ly (stO (stO wo (a + 2) n) (a + 3) u) (stY (stY wy (a + 2) n) (a + 3) u) gO gY) := by
  have hS := fun W (h : Below w.heap.size w W) => rmstub_any (hm.below h) a
  have hT := fun W (h : Below w.heap.size w W) => rmstore_any (hm.below h) (a + 2) n (U64.of (by omega) (by omega))
  rw [he] at hS
  have he0 : HE wo wy a = 0 := by
    rw [sbE_of] at he
    by_cases h : HE wo wy a = 0
    · exact h
    · rw [if_pos h] at he; exact absurd he h
  have hbd := HE_bd he0
  have hk1 := (hm.partOk a).b0
  have hk2 := (hm.partOk a).top
  have hk3 := (hm.partOk a).lm1
  have hx0 : 4 ≤ wordsI (HF wo wy a) := by unfold wordsI; split <;> omega
  have ha : 0 ≤ a ∧ a ≤ 1099511627776 := by omega
  obtain ⟨ha0, ha1⟩ := ha
  have hlo := hm.okO.top
  have hz : LE (stO wo (a + 2) n) (stY wy (a + 2) n) (a + 3) = 0 := le_up he0 stO_len stY_len (by omega) hm.lim (by omega) (by omega)
  have hd1 : decide (n < 1) = false := by simpa using hn1
  have hd2 : decide (8 < n) = false := by simpa using hn2
  generalize sbN wo wy a = sn at *
  generalize sbU wo wy a = su at *
  generalize hwo1 : stO wo (a + 2) n = wo1 at *
  generalize hwy1 : stY wy (a + 2) n = wy1 at *
  generalize LE wo wy (a + 2) = l1 at *
  clear hwo1 hwy1 he he0 hbd hk1 hk2 hk3 hx0 hlo
  have hw0 : Below w.heap.size w w := Below.refl _ _
  go_enter Try.func58, Try.ntmps58
  go_wp2_with fail
  refine (hS _ (by (repeat (first | exact Below.refl _ _ | assumption | refine Below.drew ?_ | refine below_drewN ?_ _ | refine balloc ?_ _ | refine Below.setCell ?_ (by first | (simp; done) | (simp; omega) | omega) _ | refine bchain (by assumption) ?_)))).mono ?_
  rintro e w1 ⟨rfl, hb1⟩
  have hB1 : Below w.heap.size w w1 := by (repeat (first | exact Below.refl _ _ | assumption | refine Below.drew ?_ | refine below_drewN ?_ _ | refine balloc ?_ _ | refine Below.setCell ?_ (by first | (simp; done) | (simp; omega) | omega) _ | refine bchain (by assumption) ?_))
  have k0 : w1.heap[w.heap.size]? = some (.cells #[.int .i64 0, .int .i64 lo, .slice aO nO cO, .int .i64 16777216, .int .i64 ly, .slice aY nY cY] 35 (0, 0)) := bblock hb1 (by repeat (first | exact alloc_at _ (by simp) | refine alloc_lt _ ?_))
  have r : w1.heap[w.heap.size + 1]? = some (.cells #[.int .i64 0, .int .i64 0, .slice none 0 0, .int .i64 0, .int .i64 0, .slice none 0 0] 35 (0, 0)) := bblock hb1 (by repeat (first | exact alloc_at _ (by simp) | refine alloc_lt _ ?_))
  have hw1 := bchain hB1 hw0
  have hp1 : w.heap.size + 2 ≤ w1.heap.size := by have := (Array.getElem?_eq_some_iff.1 r).1; omega
  have hz_k0 : w.heap.size < w1.heap.size := (Array.getElem?_eq_some_iff.1 k0).1
  have hz_r : w.heap.size + 1 < w1.heap.size := (Array.getElem?_eq_some_iff.1 r).1
  clear hB1
  have k0_0 : w1.cell? ⟨w.heap.size, 0, none⟩ = some (.int .i64 0) := by rw [cell_of_block k0]; rfl
  have k0_1 : w1.cell? ⟨w.heap.size, 1, none⟩ = some (.int .i64 lo) := by rw [cell_of_block k0]; rfl
  have k0_2 : w1.cell? ⟨w.heap.size, 2, none⟩ = some (.slice aO nO cO) := by rw [cell_of_block k0]; rfl
  have k0_3 : w1.cell? ⟨w.heap.size, 3, none⟩ = some (.int .i64 16777216) := by rw [cell_of_block k0]; rfl
  have k0_4 : w1.cell? ⟨w.heap.size, 4, none⟩ = some (.int .i64 ly) := by rw [cell_of_block k0]; rfl
  have k0_5 : w1.cell? ⟨w.heap.size, 5, none⟩ = some (.slice aY nY cY) := by rw [cell_of_block k0]; rfl
  have k0_f : ∀ i, w1.frozen? ⟨w.heap.size, i, none⟩ = false := frozen_of_block k0
  have r_0 : w1.cell? ⟨w.heap.size + 1, 0, none⟩ = some (.int .i64 0) := by rw [cell_of_block r]; rfl
  have r_1 : w1.cell? ⟨w.heap.size + 1, 1, none⟩ = some (.int .i64 0) := by rw [cell_of_block r]; rfl
  have r_2 : w1.cell? ⟨w.heap.size + 1, 2, none⟩ = some (.slice none 0 0) := by rw [cell_of_block r]; rfl
  have r_3 : w1.cell? ⟨w.heap.size + 1, 3, none⟩ = some (.int .i64 0) := by rw [cell_of_block r]; rfl
  have r_4 : w1.cell? ⟨w.heap.size + 1, 4, none⟩ = some (.int .i64 0) := by rw [cell_of_block r]; rfl
  have r_5 : w1.cell? ⟨w.heap.size + 1, 5, none⟩ = some (.slice none 0 0) := by rw [cell_of_block r]; rfl
  have r_f : ∀ i, w1.frozen? ⟨w.heap.size + 1, i, none⟩ = false := frozen_of_block r
  go_wp2_with fail
  refine (hT _ (by (repeat (first | exact Below.refl _ _ | assumption | refine Below.drew ?_ | refine below_drewN ?_ _ | refine balloc ?_ _ | refine Below.setCell ?_ (by first | (simp; done) | (simp; omega) | omega) _ | refine bchain (by assumption) ?_)))).mono ?_
  rintro e w2 ⟨aO2, nO2, cO2, aY2, nY2, cY2, gO2, gY2, rfl, hR2, hgO2, hgY2, hb2⟩
  have hB2 : Below w1.heap.size w1 w2 := by (repeat (first | exact Below.refl _ _ | assumption | refine Below.drew ?_ | refine below_drewN ?_ _ | refine balloc ?_ _ | refine Below.setCell ?_ (by first | (simp; done) | (simp; omega) | omega) _ | refine bchain (by assumption) ?_))
  have k0 := bblock hB2 k0
  have r := bblock hB2 r
  have hw2 := bchain hB2 hw1
  have hp2 : w.heap.size + 2 ≤ w2.heap.size := by have := (Array.getElem?_eq_some_iff.1 r).1; omega
  clear hz_k0 hz_r
  have hz_k0 : w.heap.size < w2.heap.size := (Array.getElem?_eq_some_iff.1 k0).1
  have hz_r : w.heap.size + 1 < w2.heap.size := (Array.getElem?_eq_some_iff.1 r).1
  clear hB2
  have hgO2 : ∀ G, gO2 = some G → gO = some G ∨ w.heap.size + 2 ≤ G := fun G e => (hgO2 G e).imp id (fun h => by omega)
  have hgY2 : ∀ G, gY2 = some G → gY = some G ∨ w.heap.size + 2 ≤ G := fun G e => (hgY2 G e).imp id (fun h => by omega)
  clear k0_0 k0_1 k0_2 k0_3 k0_4 k0_5 k0_f r_0 r_1 r_2 r_3 r_4 r_5 r_f
  have k0_0 : w2.cell? ⟨w.heap.size, 0, none⟩ = some (.int .i64 0) := by rw [cell_of_block k0]; rfl
  have k0_1 : w2.cell? ⟨w.heap.size, 1, none⟩ = some (.int .i64 lo) := by rw [cell_of_block k0]; rfl
  have k0_2 : w2.cell? ⟨w.heap.size, 2, none⟩ = some (.slice aO nO cO) := by rw [cell_of_block k0]; rfl
  have k0_3 : w2.cell? ⟨w.heap.size, 3, none⟩ = some (.int .i64 16777216) := by rw [cell_of_block k0]; rfl
  have k0_4 : w2.cell? ⟨w.heap.size, 4, none⟩ = some (.int .i64 ly) := by rw [cell_of_block k0]; rfl
  have k0_5 : w2.cell? ⟨w.heap.size, 5, none⟩ = some (.slice aY nY cY) := by rw [cell_of_block k0]; rfl
  have k0_f : ∀ i, w2.frozen? ⟨w.heap.size, i, none⟩ = false := frozen_of_block k0
  have r_0 : w2.cell? ⟨w.heap.size + 1, 0, none⟩ = some (.int .i64 0) := by rw [cell_of_block r]; rfl
  have r_1 : w2.cell? ⟨w.heap.size + 1, 1, none⟩ = some (.int .i64 0) := by rw [cell_of_block r]; rfl
  have r_2 : w2.cell? ⟨w.heap.size + 1, 2, none⟩ = some (.slice none 0 0) := by rw [cell_of_block r]; rfl
  have r_3 : w2.cell? ⟨w.heap.size + 1, 3, none⟩ = some (.int .i64 0) := by rw [cell_of_block r]; rfl
  have r_4 : w2.cell? ⟨w.heap.size + 1, 4, none⟩ = some (.int .i64 0) := by rw [cell_of_block r]; rfl
  have r_5 : w2.cell? ⟨w.heap.size + 1, 5, none⟩ = some (.slice none 0 0) := by rw [cell_of_block r]; rfl
  have r_f : ∀ i, w2.frozen? ⟨w.heap.size + 1, i, none⟩ = false := frozen_of_block r
  go_wp2_with fail
  refine (rmstore_any (hR2.two hm hgO2 hgY2 (by (repeat (first | (with_reducible refine Mods.alloc ?_ _) | (with_reducible refine two_set ?_ _ _ _ (.inl rfl)) | (with_reducible refine two_set ?_ _ _ _ (.inr rfl)) | (with_reducible exact Mods.refl _ _))))) (a + 3) (u) (hu)).mono ?_
  rintro e w3 ⟨aO3, nO3, cO3, aY3, nY3, cY3, gO3, gY3, rfl, hR3, hgO3, hgY3, hb3⟩
  have hz0 := (Array.getElem?_eq_some_iff.1 k0).1
  have hsz := hw2.size
  rw [nsz6] at hgO3 hgY3
  have hB3 : Below w.heap.size w w3 := six_chain hw2 hb3
  have k0' := bblock hb3 (set6 (T := 35) (b0 := .int .i64 0) (b1 := .int .i64 lo) (b2 := .slice aO2 nO2 cO2) (b3 := .int .i64 16777216) (b4 := .int .i64 ly) (b5 := .slice aY2 nY2 cY2) k0)
  have r := bblock hb3 (six_other r (by omega))
  clear k0
  have k0 := k0'
  clear k0'
  have hw3 := hB3
  have hp3 : w.heap.size + 2 ≤ w3.heap.size := by have := hb3.size; rw [nsz6] at this; omega
  have hgO3 : ∀ G, gO3 = some G → gO = some G ∨ w.heap.size + 2 ≤ G := fun G e => (hgO3 G e).elim (hgO2 G) (fun h => .inr (by omega))
  have hgY3 : ∀ G, gY3 = some G → gY = some G ∨ w.heap.size + 2 ≤ G := fun G e => (hgY3 G e).elim (hgY2 G) (fun h => .inr (by omega))
  clear hz_k0 hz_r
  have hz_k0 : w.heap.size < w3.heap.size := (Array.getElem?_eq_some_iff.1 k0).1
  have hz_r : w.heap.size + 1 < w3.heap.size := (Array.getElem?_eq_some_iff.1 r).1
  clear hB3 hz0 hsz
  rw [hz]
  clear hR2 hgO2 hgY2
  clear k0_0 k0_1 k0_2 k0_3 k0_4 k0_5 k0_f r_0 r_1 r_2 r_3 r_4 r_5 r_f
  have k0_0 : w3.cell? ⟨w.heap.size, 0, none⟩ = some (.int .i64 0) := by rw [cell_of_block k0]; rfl
  have k0_1 : w3.cell? ⟨w.heap.size, 1, none⟩ = some (.int .i64 lo) := by rw [cell_of_block k0]; rfl
  have k0_2 : w3.cell? ⟨w.heap.size, 2, none⟩ = some (.slice aO2 nO2 cO2) := by rw [cell_of_block k0]; rfl
  have k0_3 : w3.cell? ⟨w.heap.size, 3, none⟩ = some (.int .i64 16777216) := by rw [cell_of_block k0]; rfl
  have k0_4 : w3.cell? ⟨w.heap.size, 4, none⟩ = some (.int .i64 ly) := by rw [cell_of_block k0]; rfl
  have k0_5 : w3.cell? ⟨w.heap.size, 5, none⟩ = some (.slice aY2 nY2 cY2) := by rw [cell_of_block k0]; rfl
  have k0_f : ∀ i, w3.frozen? ⟨w.heap.size, i, none⟩ = false := frozen_of_block k0
  have r_0 : w3.cell? ⟨w.heap.size + 1, 0, none⟩ = some (.int .i64 0) := by rw [cell_of_block r]; rfl
  have r_1 : w3.cell? ⟨w.heap.size + 1, 1, none⟩ = some (.int .i64 0) := by rw [cell_of_block r]; rfl
  have r_2 : w3.cell? ⟨w.heap.size + 1, 2, none⟩ = some (.slice none 0 0) := by rw [cell_of_block r]; rfl
  have r_3 : w3.cell? ⟨w.heap.size + 1, 3, none⟩ = some (.int .i64 0) := by rw [cell_of_block r]; rfl
  have r_4 : w3.cell? ⟨w.heap.size + 1, 4, none⟩ = some (.int .i64 0) := by rw [cell_of_block r]; rfl
  have r_5 : w3.cell? ⟨w.heap.size + 1, 5, none⟩ = some (.slice none 0 0) := by rw [cell_of_block r]; rfl
  have r_f : ∀ i, w3.frozen? ⟨w.heap.size + 1, i, none⟩ = false := frozen_of_block r
  go_wp2
  refine bodyPost_ret (v := .tuple #[.agg #[.int .i64 0, .int .i64 lo, .slice aO3 nO3 cO3, .int .i64 16777216, .int .i64 ly, .slice aY3 nY3 cY3], .int .i64 0]) (by simp [results, Try.results58, go_sem, k0_0, k0_1, k0_2, k0_3, k0_4, k0_5, k0_f, r_0, r_1, r_2, r_3, r_4, r_5, r_f, hz_k0, hz_r]) rfl ?_
  refine rnext_fin (w := w) (wk := w3) (mk := fun v => .tuple #[v, .int .i64 0]) hm hR3 ?_ hgO3 hgY3 ?_
  · (repeat (first | (with_reducible refine Mods.alloc ?_ _) | (with_reducible refine two_set ?_ _ _ _ (.inl rfl)) | (with_reducible refine two_set ?_ _ _ _ (.inr rfl)) | (with_reducible exact Mods.refl _ _)))
  · (repeat (first | (with_reducible refine balloc ?_ _) | (with_reducible refine below_set ?_ _ _ _ (Nat.le_refl _)) | (with_reducible refine below_set ?_ _ _ _ (Nat.le_add_right _ _)) | (with_reducible assumption)))
theorem rreroute_any {w : World} {aO : Option Addr} {nO cO : Nat} {aY : Option Addr} {nY cY : Nat} {lo ly : Int} {wo wy : List Int} {gO gY : Option Nat} (hm : RMem w aO nO cO aY nY cY lo ly wo wy gO gY) (a n u : Int) (hu : U64 u) : Calls Try.prog 58 #[.agg #[.int .i64 0, .int .i64 lo, .slice aO nO cO, .int .i64 16777216, .int .i64 ly, .slice aY nY cY], .int .i64 a, .int .i64 n, .int .u64 u] w (RNext w (fun v => .tuple #[v, .int .i64 (rrE wo wy a n)]) lo ly (rrM wo wy a n u).1 (rrM wo wy a n u).2 gO gY) := by
  by_cases he : sbE wo wy a = 0
  · by_cases h1 : n < 1
    · have hn : okM n = false := decide_eq_false (by omega)
      have e : rrE wo wy a n = 1 := by unfold rrE; rw [if_neg (by simpa using he), hn]; rfl
      unfold rrM
      rw [e, if_neg (by decide)]
      exact rreroute_lo hm a n u he h1
    · by_cases h2 : 8 < n
      · have hn : okM n = false := decide_eq_false (by omega)
        have e : rrE wo wy a n = 1 := by unfold rrE; rw [if_neg (by simpa using he), hn]; rfl
        unfold rrM
        rw [e, if_neg (by decide)]
        exact rreroute_hi hm a n u he (by omega) h2
      · have hn : okM n = true := decide_eq_true (by omega)
        have e : rrE wo wy a n = 0 := by unfold rrE; rw [if_neg (by simpa using he), hn]; rfl
        unfold rrM
        rw [e, if_pos rfl]
        exact rreroute_y hm a n u hu he (by omega) (by omega)
  · have e : rrE wo wy a n = sbE wo wy a := by unfold rrE; rw [if_pos he]
    unfold rrM
    rw [e, if_neg he]
    exact rreroute_e hm a n u he
end Go.Proofs.Ytcmhgjkijegpnaa
namespace Go.Proofs.Ytcmhgjkijegpnaa
open Go.RowKit
set_option linter.unusedSimpArgs false
set_option linter.unusedVariables false

/-- The walk of write: the current memory lies in the variable's block. -/
def WrIn (w : World) (lo ly : Int) (gO gY : Option Nat) (H : Nat) (hk hc hf : Int) (m : List Int × List Int) (wr : World) : Prop :=
  ∃ (aO : Option Addr) (nO cO : Nat) (aY : Option Addr) (nY cY : Nat) (gO' gY' : Option Nat), RMem wr aO nO cO aY nY cY lo ly m.1 m.2 gO' gY' ∧ (∀ G, gO' = some G → gO = some G ∨ w.heap.size + 2 ≤ G) ∧ (∀ G, gY' = some G → gY = some G ∨ w.heap.size + 2 ≤ G) ∧ wr.heap[w.heap.size]? = some (.cells #[.int .i64 0, .int .i64 lo, .slice aO nO cO, .int .i64 16777216, .int .i64 ly, .slice aY nY cY] 35 (0, 0)) ∧ wr.heap[w.heap.size + 1]? = some (.cells #[.int .i64 0, .int .i64 0, .slice none 0 0, .int .i64 0, .int .i64 0, .slice none 0 0] 35 (0, 0)) ∧ wr.heap[H]? = some (.cells #[.int .i64 hk, .int .i64 hc, .int .i64 hf] 23 (0, 0)) ∧ Below w.heap.size w wr
theorem wrin_next {w wr w9 : World} {lo ly : Int} {wo wy wo' wy' : List Int} {gO gY gO1 gY1 gO' gY' : Option Nat} {H : Nat} {hk hc hf : Int} {m : List Int × List Int} {a0 a1 a2 a3 a4 a5 : Value} {aO : Option Addr} {nO cO : Nat} {aY : Option Addr} {nY cY : Nat} {aO' : Option Addr} {nO' cO' : Nat} {aY' : Option Addr} {nY' cY' : Nat}
    (hm : RMem w aO nO cO aY nY cY lo ly wo wy gO gY) (hR : RMem w9 aO' nO' cO' aY' nY' cY' lo ly wo' wy' gO' gY') (hmm : m = (wo', wy')) (hg1 : ∀ G, gO1 = some G → gO = some G ∨ w.heap.size + 2 ≤ G) (hg2 : ∀ G, gY1 = some G → gY = some G ∨ w.heap.size + 2 ≤ G) (hgO : ∀ G, gO' = some G → gO1 = some G ∨ wr.heap.size ≤ G) (hgY : ∀ G, gY' = some G → gY1 = some G ∨ wr.heap.size ≤ G)
    (k0 : wr.heap[w.heap.size]? = some (.cells #[a0, a1, a2, a3, a4, a5] 35 (0, 0))) (r : wr.heap[w.heap.size + 1]? = some (.cells #[.int .i64 0, .int .i64 0, .slice none 0 0, .int .i64 0, .int .i64 0, .slice none 0 0] 35 (0, 0))) (t : wr.heap[H]? = some (.cells #[.int .i64 hk, .int .i64 hc, .int .i64 hf] 23 (0, 0))) (hH : w.heap.size + 2 ≤ H) (hw : Below w.heap.size w wr) (hb : Below wr.heap.size wr w9) :
    WrIn w lo ly gO gY H hk hc hf m ((((((w9.setCell ⟨w.heap.size, 0, none⟩ (.int .i64 0)).setCell ⟨w.heap.size, 1, none⟩ (.int .i64 lo)).setCell ⟨w.heap.size, 2, none⟩ (.slice aO' nO' cO')).setCell ⟨w.heap.size, 3, none⟩ (.int .i64 16777216)).setCell ⟨w.heap.size, 4, none⟩ (.int .i64 ly)).setCell ⟨w.heap.size, 5, none⟩ (.slice aY' nY' cY')) := by
  subst hmm
  have hs : w.heap.size + 2 ≤ wr.heap.size := by have := (Array.getElem?_eq_some_iff.1 t).1; omega
  have hO : ∀ G, gO' = some G → gO = some G ∨ w.heap.size + 2 ≤ G := fun G e => (hgO G e).elim (hg1 G) (fun h => .inr (by omega))
  have hY : ∀ G, gY' = some G → gY = some G ∨ w.heap.size + 2 ≤ G := fun G e => (hgY G e).elim (hg2 G) (fun h => .inr (by omega))
  have hB := bchain hb hw
  refine ⟨aO', nO', cO', aY', nY', cY', gO', gY', hR.two hm hO hY ?_, hO, hY, set6 (bblock hb k0), six_other (bblock hb r) (by omega), six_other (bblock hb t) (by omega), ?_⟩
  · exact two_set (two_set (two_set (two_set (two_set (two_set (Mods.refl _ _) _ _ _ (.inl rfl)) _ _ _ (.inl rfl)) _ _ _ (.inl rfl)) _ _ _ (.inl rfl)) _ _ _ (.inl rfl)) _ _ _ (.inl rfl)
  · exact below_set (below_set (below_set (below_set (below_set (below_set hB _ _ _ (Nat.le_refl _)) _ _ _ (Nat.le_refl _)) _ _ _ (Nat.le_refl _)) _ _ _ (Nat.le_refl _)) _ _ _ (Nat.le_refl _)) _ _ _ (Nat.le_refl _)
set_option maxRecDepth 100000 in
set_option maxHeartbeats 4000000 in
theorem rwrite_any {w : World} {aO : Option Addr} {nO cO : Nat} {aY : Option Addr} {nY cY : Nat} {lo ly : Int} {wo wy : List Int} {gO gY : Option Nat} (hm : RMem w aO nO cO aY nY cY lo ly wo wy gO gY) (a k : Int) (hkk : k = 3 ∨ k = 4) (G c : Nat) (pl : List Int) (hpl : PayAt w G pl) (hplu : ∀ x ∈ pl, U64 x) (hpc : pl.length ≤ c) (hc63 : c ≤ 9223372036854775807) (he : HE wo wy a = 0) :
    Calls Try.prog 82 #[.agg #[.int .i64 0, .int .i64 lo, .slice aO nO cO, .int .i64 16777216, .int .i64 ly, .slice aY nY cY], .int .i64 a, .int .i64 k, .slice (some ⟨G, 0, none⟩) pl.length c] w (RNext w (fun v => v) lo ly (wrM wo wy a k pl).1 (wrM wo wy a k pl).2 gO gY) := by
  have hL := fun W (h : Below w.heap.size w W) => rmload_any (hm.below h) a
  obtain ⟨g1, g2, g3, g4, g5⟩ := hd_word he
  have hD := fun W => rdecode_yes (LD wo wy a) (hm.ldU a) g1 W
  have hCh := fun W => rchange_yes (LD wo wy a) k (hm.ldU a) g1 hkk W
  rw [← g3, ← g4] at hCh
  rw [← g2, ← g3, ← g4] at hD
  have hW := fun W => rwords_yes _ _ _ g5 W
  have hbd := HE_bd he
  have hk1 := (hm.partOk a).b0
  have hk2 := (hm.partOk a).top
  have hk3 := (hm.partOk a).lm1
  obtain ⟨x0, x1, x2⟩ := wordsI_bd g5
  have ha : 0 ≤ a ∧ a ≤ 1099511627776 := by omega
  obtain ⟨ha0, ha1⟩ := ha
  have hhu : U64 (encI k (HC wo wy a) (HF wo wy a)) := by
    have := encI_bd (k := k) (c := HC wo wy a) (f := HF wo wy a) (by rw [g3, g4]; exact hvB_change g1 hkk)
    exact U64.of (by omega) (by omega)
  unfold wrM wrH
  generalize hWW : wordsI (HF wo wy a) = W0 at *
  obtain ⟨sz, hsz⟩ : ∃ sz : Nat, (sz : Int) = W0 - 2 := ⟨(W0 - 2).toNat, by omega⟩
  rw [← hsz, Int.toNat_natCast]
  have HSZ := Lib.hid hsz
  generalize hhd : encI k (HC wo wy a) (HF wo wy a) = hd at *
  generalize LD wo wy a = x at *
  generalize HK wo wy a = hk at *
  generalize HC wo wy a = hc at *
  generalize HF wo wy a = hf at *
  have hSt := fun W (h : Below w.heap.size w W) => rmstore_any (hm.below h) a hd hhu
  generalize LE wo wy a = y at *
  clear he g1 g2 g3 g4 g5 hbd hk1 hk2 hk3 x2 hsz hhd hkk hWW
  obtain ⟨m0, hm0'⟩ : ∃ m0, (stO wo a hd, stY wy a hd) = m0 := ⟨_, rfl⟩
  have e1 : stO wo a hd = m0.1 := by rw [← hm0']
  have e2 : stY wy a hd = m0.2 := by rw [← hm0']
  rw [e1, e2] at hSt
  rw [hm0']
  clear e1 e2 hm0' hhu
  have hpg : ∀ i, U64 (pl.getD i 0) := getD_u64 hplu
  clear hplu
  have hpm : ∀ W, Below w.heap.size w W → PayAt W G pl := fun W hM i x hx => bcellv hM (hpl i x hx)
  clear hpl
  have hw0 : Below w.heap.size w w := Below.refl _ _
  go_enter Try.func82, Try.ntmps82
  go_wp2_with fail
  refine (hL _ (by (repeat (first | exact Below.refl _ _ | assumption | refine Below.drew ?_ | refine below_drewN ?_ _ | refine balloc ?_ _ | refine Below.setCell ?_ (by first | (simp; done) | (simp; omega) | omega) _ | refine bchain (by assumption) ?_)))).mono ?_
  rintro e w1 ⟨rfl, hb1⟩
  have hB1 : Below w.heap.size w w1 := by (repeat (first | exact Below.refl _ _ | assumption | refine Below.drew ?_ | refine below_drewN ?_ _ | refine balloc ?_ _ | refine Below.setCell ?_ (by first | (simp; done) | (simp; omega) | omega) _ | refine bchain (by assumption) ?_))
  have k0 : w1.heap[w.heap.size]? = some (.cells #[.int .i64 0, .int .i64 lo, .slice aO nO cO, .int .i64 16777216, .int .i64 ly, .slice aY nY cY] 35 (0, 0)) := bblock hb1 (by repeat (first | exact alloc_at _ (by simp) | refine alloc_lt _ ?_))
  have r : w1.heap[w.heap.size + 1]? = some (.cells #[.int .i64 0, .int .i64 0, .slice none 0 0, .int .i64 0, .int .i64 0, .slice none 0 0] 35 (0, 0)) := bblock hb1 (by repeat (first | exact alloc_at _ (by simp) | refine alloc_lt _ ?_))
  have hw1 := bchain hB1 hw0
  have hp1 : w.heap.size + 2 ≤ w1.heap.size := by have := (Array.getElem?_eq_some_iff.1 r).1; omega
  have hz_k0 : w.heap.size < w1.heap.size := (Array.getElem?_eq_some_iff.1 k0).1
  have hz_r : w.heap.size + 1 < w1.heap.size := (Array.getElem?_eq_some_iff.1 r).1
  clear hB1
  have k0_0 : w1.cell? ⟨w.heap.size, 0, none⟩ = some (.int .i64 0) := by rw [cell_of_block k0]; rfl
  have k0_1 : w1.cell? ⟨w.heap.size, 1, none⟩ = some (.int .i64 lo) := by rw [cell_of_block k0]; rfl
  have k0_2 : w1.cell? ⟨w.heap.size, 2, none⟩ = some (.slice aO nO cO) := by rw [cell_of_block k0]; rfl
  have k0_3 : w1.cell? ⟨w.heap.size, 3, none⟩ = some (.int .i64 16777216) := by rw [cell_of_block k0]; rfl
  have k0_4 : w1.cell? ⟨w.heap.size, 4, none⟩ = some (.int .i64 ly) := by rw [cell_of_block k0]; rfl
  have k0_5 : w1.cell? ⟨w.heap.size, 5, none⟩ = some (.slice aY nY cY) := by rw [cell_of_block k0]; rfl
  have k0_f : ∀ i, w1.frozen? ⟨w.heap.size, i, none⟩ = false := frozen_of_block k0
  have r_0 : w1.cell? ⟨w.heap.size + 1, 0, none⟩ = some (.int .i64 0) := by rw [cell_of_block r]; rfl
  have r_1 : w1.cell? ⟨w.heap.size + 1, 1, none⟩ = some (.int .i64 0) := by rw [cell_of_block r]; rfl
  have r_2 : w1.cell? ⟨w.heap.size + 1, 2, none⟩ = some (.slice none 0 0) := by rw [cell_of_block r]; rfl
  have r_3 : w1.cell? ⟨w.heap.size + 1, 3, none⟩ = some (.int .i64 0) := by rw [cell_of_block r]; rfl
  have r_4 : w1.cell? ⟨w.heap.size + 1, 4, none⟩ = some (.int .i64 0) := by rw [cell_of_block r]; rfl
  have r_5 : w1.cell? ⟨w.heap.size + 1, 5, none⟩ = some (.slice none 0 0) := by rw [cell_of_block r]; rfl
  have r_f : ∀ i, w1.frozen? ⟨w.heap.size + 1, i, none⟩ = false := frozen_of_block r
  go_wp2_with fail
  refine (hD _).mono ?_
  rintro e w2 ⟨rfl, hb2⟩
  have hB2 : Below w1.heap.size w1 w2 := by (repeat (first | exact Below.refl _ _ | assumption | refine Below.drew ?_ | refine below_drewN ?_ _ | refine balloc ?_ _ | refine Below.setCell ?_ (by first | (simp; done) | (simp; omega) | omega) _ | refine bchain (by assumption) ?_))
  have k0 := bblock hB2 k0
  have r := bblock hB2 r
  have hw2 := bchain hB2 hw1
  have hp2 : w.heap.size + 2 ≤ w2.heap.size := by have := (Array.getElem?_eq_some_iff.1 r).1; omega
  clear hz_k0 hz_r
  have hz_k0 : w.heap.size < w2.heap.size := (Array.getElem?_eq_some_iff.1 k0).1
  have hz_r : w.heap.size + 1 < w2.heap.size := (Array.getElem?_eq_some_iff.1 r).1
  clear hB2
  clear k0_0 k0_1 k0_2 k0_3 k0_4 k0_5 k0_f r_0 r_1 r_2 r_3 r_4 r_5 r_f
  have k0_0 : w2.cell? ⟨w.heap.size, 0, none⟩ = some (.int .i64 0) := by rw [cell_of_block k0]; rfl
  have k0_1 : w2.cell? ⟨w.heap.size, 1, none⟩ = some (.int .i64 lo) := by rw [cell_of_block k0]; rfl
  have k0_2 : w2.cell? ⟨w.heap.size, 2, none⟩ = some (.slice aO nO cO) := by rw [cell_of_block k0]; rfl
  have k0_3 : w2.cell? ⟨w.heap.size, 3, none⟩ = some (.int .i64 16777216) := by rw [cell_of_block k0]; rfl
  have k0_4 : w2.cell? ⟨w.heap.size, 4, none⟩ = some (.int .i64 ly) := by rw [cell_of_block k0]; rfl
  have k0_5 : w2.cell? ⟨w.heap.size, 5, none⟩ = some (.slice aY nY cY) := by rw [cell_of_block k0]; rfl
  have k0_f : ∀ i, w2.frozen? ⟨w.heap.size, i, none⟩ = false := frozen_of_block k0
  have r_0 : w2.cell? ⟨w.heap.size + 1, 0, none⟩ = some (.int .i64 0) := by rw [cell_of_block r]; rfl
  have r_1 : w2.cell? ⟨w.heap.size + 1, 1, none⟩ = some (.int .i64 0) := by rw [cell_of_block r]; rfl
  have r_2 : w2.cell? ⟨w.heap.size + 1, 2, none⟩ = some (.slice none 0 0) := by rw [cell_of_block r]; rfl
  have r_3 : w2.cell? ⟨w.heap.size + 1, 3, none⟩ = some (.int .i64 0) := by rw [cell_of_block r]; rfl
  have r_4 : w2.cell? ⟨w.heap.size + 1, 4, none⟩ = some (.int .i64 0) := by rw [cell_of_block r]; rfl
  have r_5 : w2.cell? ⟨w.heap.size + 1, 5, none⟩ = some (.slice none 0 0) := by rw [cell_of_block r]; rfl
  have r_f : ∀ i, w2.frozen? ⟨w.heap.size + 1, i, none⟩ = false := frozen_of_block r
  go_wp2_with fail
  refine (hCh _).mono ?_
  rintro e w3 ⟨rfl, hb3⟩
  have hB3 : Below w2.heap.size w2 w3 := by (repeat (first | exact Below.refl _ _ | assumption | refine Below.drew ?_ | refine below_drewN ?_ _ | refine balloc ?_ _ | refine Below.setCell ?_ (by first | (simp; done) | (simp; omega) | omega) _ | refine bchain (by assumption) ?_))
  have k0 := bblock hB3 k0
  have r := bblock hB3 r
  have t : w3.heap[w2.heap.size]? = some (.cells #[.int .i64 hk, .int .i64 hc, .int .i64 hf] 23 (0, 0)) := bblock hb3 (by repeat (first | exact alloc_at _ (by simp) | refine alloc_lt _ ?_))
  have hw3 := bchain hB3 hw2
  have hp3 : w.heap.size + 2 ≤ w3.heap.size := by have := (Array.getElem?_eq_some_iff.1 r).1; omega
  clear hz_k0 hz_r
  have hz_k0 : w.heap.size < w3.heap.size := (Array.getElem?_eq_some_iff.1 k0).1
  have hz_r : w.heap.size + 1 < w3.heap.size := (Array.getElem?_eq_some_iff.1 r).1
  have hz_t : w2.heap.size < w3.heap.size := (Array.getElem?_eq_some_iff.1 t).1
  clear hB3
  clear k0_0 k0_1 k0_2 k0_3 k0_4 k0_5 k0_f r_0 r_1 r_2 r_3 r_4 r_5 r_f
  have k0_0 : w3.cell? ⟨w.heap.size, 0, none⟩ = some (.int .i64 0) := by rw [cell_of_block k0]; rfl
  have k0_1 : w3.cell? ⟨w.heap.size, 1, none⟩ = some (.int .i64 lo) := by rw [cell_of_block k0]; rfl
  have k0_2 : w3.cell? ⟨w.heap.size, 2, none⟩ = some (.slice aO nO cO) := by rw [cell_of_block k0]; rfl
  have k0_3 : w3.cell? ⟨w.heap.size, 3, none⟩ = some (.int .i64 16777216) := by rw [cell_of_block k0]; rfl
  have k0_4 : w3.cell? ⟨w.heap.size, 4, none⟩ = some (.int .i64 ly) := by rw [cell_of_block k0]; rfl
  have k0_5 : w3.cell? ⟨w.heap.size, 5, none⟩ = some (.slice aY nY cY) := by rw [cell_of_block k0]; rfl
  have k0_f : ∀ i, w3.frozen? ⟨w.heap.size, i, none⟩ = false := frozen_of_block k0
  have r_0 : w3.cell? ⟨w.heap.size + 1, 0, none⟩ = some (.int .i64 0) := by rw [cell_of_block r]; rfl
  have r_1 : w3.cell? ⟨w.heap.size + 1, 1, none⟩ = some (.int .i64 0) := by rw [cell_of_block r]; rfl
  have r_2 : w3.cell? ⟨w.heap.size + 1, 2, none⟩ = some (.slice none 0 0) := by rw [cell_of_block r]; rfl
  have r_3 : w3.cell? ⟨w.heap.size + 1, 3, none⟩ = some (.int .i64 0) := by rw [cell_of_block r]; rfl
  have r_4 : w3.cell? ⟨w.heap.size + 1, 4, none⟩ = some (.int .i64 0) := by rw [cell_of_block r]; rfl
  have r_5 : w3.cell? ⟨w.heap.size + 1, 5, none⟩ = some (.slice none 0 0) := by rw [cell_of_block r]; rfl
  have r_f : ∀ i, w3.frozen? ⟨w.heap.size + 1, i, none⟩ = false := frozen_of_block r
  have t_0 : w3.cell? ⟨w2.heap.size, 0, none⟩ = some (.int .i64 hk) := by rw [cell_of_block t]; rfl
  have t_1 : w3.cell? ⟨w2.heap.size, 1, none⟩ = some (.int .i64 hc) := by rw [cell_of_block t]; rfl
  have t_2 : w3.cell? ⟨w2.heap.size, 2, none⟩ = some (.int .i64 hf) := by rw [cell_of_block t]; rfl
  have k0p := k0
  have rp := r
  have tp := t
  go_wp2_with fail
  refine (hSt _ (by (repeat (first | exact Below.refl _ _ | assumption | refine Below.drew ?_ | refine below_drewN ?_ _ | refine balloc ?_ _ | refine Below.setCell ?_ (by first | (simp; done) | (simp; omega) | omega) _ | refine bchain (by assumption) ?_)))).mono ?_
  rintro e w4 ⟨aO2, nO2, cO2, aY2, nY2, cY2, gO2, gY2, rfl, hR2, hgO2, hgY2, hb4⟩
  have hB4 : Below w3.heap.size w3 w4 := by (repeat (first | exact Below.refl _ _ | assumption | refine Below.drew ?_ | refine below_drewN ?_ _ | refine balloc ?_ _ | refine Below.setCell ?_ (by first | (simp; done) | (simp; omega) | omega) _ | refine bchain (by assumption) ?_))
  have k0 := bblock hB4 k0
  have r := bblock hB4 r
  have t := bblock hB4 t
  have hw4 := bchain hB4 hw3
  have hp4 : w.heap.size + 2 ≤ w4.heap.size := by have := (Array.getElem?_eq_some_iff.1 r).1; omega
  clear hz_k0 hz_r hz_t
  have hz_k0 : w.heap.size < w4.heap.size := (Array.getElem?_eq_some_iff.1 k0).1
  have hz_r : w.heap.size + 1 < w4.heap.size := (Array.getElem?_eq_some_iff.1 r).1
  have hz_t : w2.heap.size < w4.heap.size := (Array.getElem?_eq_some_iff.1 t).1
  clear hB4
  have hrel0 : ∀ W, W = _ → WrIn w lo ly gO gY w2.heap.size hk hc hf m0 W := fun W e => e ▸ wrin_next hm hR2 rfl (fun G e => .inl e) (fun G e => .inl e) hgO2 hgY2 k0p rp tp (by omega) hw3 hb4
  clear k0p rp tp hR2 hgO2 hgY2
  clear k0_0 k0_1 k0_2 k0_3 k0_4 k0_5 k0_f r_0 r_1 r_2 r_3 r_4 r_5 r_f t_0 t_1 t_2
  have k0_0 : w4.cell? ⟨w.heap.size, 0, none⟩ = some (.int .i64 0) := by rw [cell_of_block k0]; rfl
  have k0_1 : w4.cell? ⟨w.heap.size, 1, none⟩ = some (.int .i64 lo) := by rw [cell_of_block k0]; rfl
  have k0_2 : w4.cell? ⟨w.heap.size, 2, none⟩ = some (.slice aO nO cO) := by rw [cell_of_block k0]; rfl
  have k0_3 : w4.cell? ⟨w.heap.size, 3, none⟩ = some (.int .i64 16777216) := by rw [cell_of_block k0]; rfl
  have k0_4 : w4.cell? ⟨w.heap.size, 4, none⟩ = some (.int .i64 ly) := by rw [cell_of_block k0]; rfl
  have k0_5 : w4.cell? ⟨w.heap.size, 5, none⟩ = some (.slice aY nY cY) := by rw [cell_of_block k0]; rfl
  have k0_f : ∀ i, w4.frozen? ⟨w.heap.size, i, none⟩ = false := frozen_of_block k0
  have r_0 : w4.cell? ⟨w.heap.size + 1, 0, none⟩ = some (.int .i64 0) := by rw [cell_of_block r]; rfl
  have r_1 : w4.cell? ⟨w.heap.size + 1, 1, none⟩ = some (.int .i64 0) := by rw [cell_of_block r]; rfl
  have r_2 : w4.cell? ⟨w.heap.size + 1, 2, none⟩ = some (.slice none 0 0) := by rw [cell_of_block r]; rfl
  have r_3 : w4.cell? ⟨w.heap.size + 1, 3, none⟩ = some (.int .i64 0) := by rw [cell_of_block r]; rfl
  have r_4 : w4.cell? ⟨w.heap.size + 1, 4, none⟩ = some (.int .i64 0) := by rw [cell_of_block r]; rfl
  have r_5 : w4.cell? ⟨w.heap.size + 1, 5, none⟩ = some (.slice none 0 0) := by rw [cell_of_block r]; rfl
  have r_f : ∀ i, w4.frozen? ⟨w.heap.size + 1, i, none⟩ = false := frozen_of_block r
  have t_0 : w4.cell? ⟨w2.heap.size, 0, none⟩ = some (.int .i64 hk) := by rw [cell_of_block t]; rfl
  have t_1 : w4.cell? ⟨w2.heap.size, 1, none⟩ = some (.int .i64 hc) := by rw [cell_of_block t]; rfl
  have t_2 : w4.cell? ⟨w2.heap.size, 2, none⟩ = some (.int .i64 hf) := by rw [cell_of_block t]; rfl
  clear hL hD hCh hSt
  go_wp2_with fail
  go_loopw [15, 16] (fun i _ wr => ∃ (j : Nat) (ii : Int), j ≤ sz ∧ Hid (ii = j + 2) ∧ i = .int .i64 ii ∧ WrIn w lo ly gO gY w2.heap.size hk hc hf (wrS m0 a pl j) wr) (fun i _ _ => (W0 - intOf i).toNat)
  case atStart => exact ⟨0, 2, Nat.zero_le _, Lib.hid rfl, rfl, hrel0 _ rfl⟩
  case round =>
    obtain ⟨j, ii, hj, hii, rfl, aOr, nOr, cOr, aYr, nYr, cYr, gOr, gYr, hRr, hgOr, hgYr, k0, r, t, hwr⟩ := hrel
    clear hrel0 k0_0 k0_1 k0_2 k0_3 k0_4 k0_5 k0_f r_0 r_1 r_2 r_3 r_4 r_5 r_f t_0 t_1 t_2 hz_k0 hz_r hz_t
    have hsz := HSZ.out
    have hii2 := hii.out
    have hi0 : 2 ≤ ii := by omega
    have hi1 : ii ≤ 32 := by omega
    have s1 : (ii - 2).toNat = j := by omega
    have hjs : ii < W0 → j < sz := by intro h; omega
    have hjn : ¬ ii < W0 → j = sz := by intro h; omega
    have HJS := Lib.hid hjs
    have HJN := Lib.hid hjn
    have hjl : ii - 2 = (j : Int) := by omega
    have HJL := Lib.hid hjl
    have hav : a + ii = a + 2 + (j : Int) := by omega
    have HAV := Lib.hid hav
    have HJ1 := Lib.hid (show ii + 1 = ((j + 1 : Nat) : Int) + 2 by omega)
    clear hsz hii2 hjs hjn hjl hav hii
    have k0_0 : wr.cell? ⟨w.heap.size, 0, none⟩ = some (.int .i64 0) := by rw [cell_of_block k0]; rfl
    have k0_1 : wr.cell? ⟨w.heap.size, 1, none⟩ = some (.int .i64 lo) := by rw [cell_of_block k0]; rfl
    have k0_2 : wr.cell? ⟨w.heap.size, 2, none⟩ = some (.slice aOr nOr cOr) := by rw [cell_of_block k0]; rfl
    have k0_3 : wr.cell? ⟨w.heap.size, 3, none⟩ = some (.int .i64 16777216) := by rw [cell_of_block k0]; rfl
    have k0_4 : wr.cell? ⟨w.heap.size, 4, none⟩ = some (.int .i64 ly) := by rw [cell_of_block k0]; rfl
    have k0_5 : wr.cell? ⟨w.heap.size, 5, none⟩ = some (.slice aYr nYr cYr) := by rw [cell_of_block k0]; rfl
    have k0_f : ∀ i, wr.frozen? ⟨w.heap.size, i, none⟩ = false := frozen_of_block k0
    have t_0 : wr.cell? ⟨w2.heap.size, 0, none⟩ = some (.int .i64 hk) := by rw [cell_of_block t]; rfl
    have t_1 : wr.cell? ⟨w2.heap.size, 1, none⟩ = some (.int .i64 hc) := by rw [cell_of_block t]; rfl
    have t_2 : wr.cell? ⟨w2.heap.size, 2, none⟩ = some (.int .i64 hf) := by rw [cell_of_block t]; rfl
    have r_f : ∀ i, wr.frozen? ⟨w.heap.size + 1, i, none⟩ = false := frozen_of_block r
    have r_0 : wr.cell? ⟨w.heap.size + 1, 0, none⟩ = some (.int .i64 0) := by rw [cell_of_block r]; rfl
    have r_1 : wr.cell? ⟨w.heap.size + 1, 1, none⟩ = some (.int .i64 0) := by rw [cell_of_block r]; rfl
    have r_2 : wr.cell? ⟨w.heap.size + 1, 2, none⟩ = some (.slice none 0 0) := by rw [cell_of_block r]; rfl
    have r_3 : wr.cell? ⟨w.heap.size + 1, 3, none⟩ = some (.int .i64 0) := by rw [cell_of_block r]; rfl
    have r_4 : wr.cell? ⟨w.heap.size + 1, 4, none⟩ = some (.int .i64 0) := by rw [cell_of_block r]; rfl
    have r_5 : wr.cell? ⟨w.heap.size + 1, 5, none⟩ = some (.slice none 0 0) := by rw [cell_of_block r]; rfl
    have hzr : w.heap.size + 1 < wr.heap.size := (Array.getElem?_eq_some_iff.1 r).1
    have hzt : w2.heap.size < wr.heap.size := (Array.getElem?_eq_some_iff.1 t).1
    go_wp2_with fail
    refine (hW _).mono ?_
    rintro e w7 ⟨rfl, hb7⟩
    have hR7 := hRr.below hb7
    have k0 := bblock hb7 k0
    have r := bblock hb7 r
    have t := bblock hb7 t
    have hw7 := bchain hb7 hwr
    have hs7 := hb7.size
    clear k0_0 k0_1 k0_2 k0_3 k0_4 k0_5 k0_f t_0 t_1 t_2 r_f r_0 r_1 r_2 r_3 r_4 r_5 hRr hb7
    have k0_0 : w7.cell? ⟨w.heap.size, 0, none⟩ = some (.int .i64 0) := by rw [cell_of_block k0]; rfl
    have k0_1 : w7.cell? ⟨w.heap.size, 1, none⟩ = some (.int .i64 lo) := by rw [cell_of_block k0]; rfl
    have k0_2 : w7.cell? ⟨w.heap.size, 2, none⟩ = some (.slice aOr nOr cOr) := by rw [cell_of_block k0]; rfl
    have k0_3 : w7.cell? ⟨w.heap.size, 3, none⟩ = some (.int .i64 16777216) := by rw [cell_of_block k0]; rfl
    have k0_4 : w7.cell? ⟨w.heap.size, 4, none⟩ = some (.int .i64 ly) := by rw [cell_of_block k0]; rfl
    have k0_5 : w7.cell? ⟨w.heap.size, 5, none⟩ = some (.slice aYr nYr cYr) := by rw [cell_of_block k0]; rfl
    have k0_f : ∀ i, w7.frozen? ⟨w.heap.size, i, none⟩ = false := frozen_of_block k0
    have t_0 : w7.cell? ⟨w2.heap.size, 0, none⟩ = some (.int .i64 hk) := by rw [cell_of_block t]; rfl
    have t_1 : w7.cell? ⟨w2.heap.size, 1, none⟩ = some (.int .i64 hc) := by rw [cell_of_block t]; rfl
    have t_2 : w7.cell? ⟨w2.heap.size, 2, none⟩ = some (.int .i64 hf) := by rw [cell_of_block t]; rfl
    have r_f : ∀ i, w7.frozen? ⟨w.heap.size + 1, i, none⟩ = false := frozen_of_block r
    have r_0 : w7.cell? ⟨w.heap.size + 1, 0, none⟩ = some (.int .i64 0) := by rw [cell_of_block r]; rfl
    have r_1 : w7.cell? ⟨w.heap.size + 1, 1, none⟩ = some (.int .i64 0) := by rw [cell_of_block r]; rfl
    have r_2 : w7.cell? ⟨w.heap.size + 1, 2, none⟩ = some (.slice none 0 0) := by rw [cell_of_block r]; rfl
    have r_3 : w7.cell? ⟨w.heap.size + 1, 3, none⟩ = some (.int .i64 0) := by rw [cell_of_block r]; rfl
    have r_4 : w7.cell? ⟨w.heap.size + 1, 4, none⟩ = some (.int .i64 0) := by rw [cell_of_block r]; rfl
    have r_5 : w7.cell? ⟨w.heap.size + 1, 5, none⟩ = some (.slice none 0 0) := by rw [cell_of_block r]; rfl
    have hzr : w.heap.size + 1 < w7.heap.size := (Array.getElem?_eq_some_iff.1 r).1
    have hzt : w2.heap.size < w7.heap.size := (Array.getElem?_eq_some_iff.1 t).1
    by_cases hlt : ii < W0
    · have hd1 : decide (ii < W0) = true := decide_eq_true hlt
      have hjz := HJS.out hlt
      have hpj := hpg j
      have hnx : wrS m0 a pl (j + 1) = (stO (wrS m0 a pl j).1 (a + ii) (pl.getD j 0), stY (wrS m0 a pl j).2 (a + ii) (pl.getD j 0)) := by rw [HAV.out]; rfl
      have HNX := Lib.hid hnx
      clear hnx
      by_cases hp : j < pl.length
      · have hgd : pl.getD j 0 = pl[j] := by rw [List.getD_eq_getElem?_getD, List.getElem?_eq_getElem hp]; rfl
        have qp := hpm w7 hw7 j _ (List.getElem?_eq_getElem hp)
        rw [← hgd] at qp
        have hp1 : ii - 2 < (pl.length : Int) := by rw [HJL.out]; omega
        have hd2 : decide (ii - 2 < (pl.length : Int)) = true := decide_eq_true hp1
        clear hgd
        generalize hu : pl.getD j 0 = u at *
        clear hu hpm hpg
        go_wp2_with fail
        refine (rmstore_any hR7 (a + ii) u hpj).mono ?_
        rintro e w9 ⟨aO9, nO9, cO9, aY9, nY9, cY9, gO9, gY9, rfl, hR9, hgO9, hgY9, hb9⟩
        have hrel9 : ∀ W, W = _ → WrIn w lo ly gO gY w2.heap.size hk hc hf (wrS m0 a pl (j + 1)) W := fun W e => e ▸ wrin_next hm hR9 HNX.out hgOr hgYr hgO9 hgY9 k0 r t (by omega) hw7 hb9
        have k0 := bblock hb9 k0
        have r := bblock hb9 r
        have t := bblock hb9 t
        clear k0_0 k0_1 k0_2 k0_3 k0_4 k0_5 k0_f t_0 t_1 t_2 r_f r_0 r_1 r_2 r_3 r_4 r_5 hR7 hR9 hgO9 hgY9
        have k0_0 : w9.cell? ⟨w.heap.size, 0, none⟩ = some (.int .i64 0) := by rw [cell_of_block k0]; rfl
        have k0_1 : w9.cell? ⟨w.heap.size, 1, none⟩ = some (.int .i64 lo) := by rw [cell_of_block k0]; rfl
        have k0_2 : w9.cell? ⟨w.heap.size, 2, none⟩ = some (.slice aOr nOr cOr) := by rw [cell_of_block k0]; rfl
        have k0_3 : w9.cell? ⟨w.heap.size, 3, none⟩ = some (.int .i64 16777216) := by rw [cell_of_block k0]; rfl
        have k0_4 : w9.cell? ⟨w.heap.size, 4, none⟩ = some (.int .i64 ly) := by rw [cell_of_block k0]; rfl
        have k0_5 : w9.cell? ⟨w.heap.size, 5, none⟩ = some (.slice aYr nYr cYr) := by rw [cell_of_block k0]; rfl
        have k0_f : ∀ i, w9.frozen? ⟨w.heap.size, i, none⟩ = false := frozen_of_block k0
        have t_0 : w9.cell? ⟨w2.heap.size, 0, none⟩ = some (.int .i64 hk) := by rw [cell_of_block t]; rfl
        have t_1 : w9.cell? ⟨w2.heap.size, 1, none⟩ = some (.int .i64 hc) := by rw [cell_of_block t]; rfl
        have t_2 : w9.cell? ⟨w2.heap.size, 2, none⟩ = some (.int .i64 hf) := by rw [cell_of_block t]; rfl
        have r_f : ∀ i, w9.frozen? ⟨w.heap.size + 1, i, none⟩ = false := frozen_of_block r
        have r_0 : w9.cell? ⟨w.heap.size + 1, 0, none⟩ = some (.int .i64 0) := by rw [cell_of_block r]; rfl
        have r_1 : w9.cell? ⟨w.heap.size + 1, 1, none⟩ = some (.int .i64 0) := by rw [cell_of_block r]; rfl
        have r_2 : w9.cell? ⟨w.heap.size + 1, 2, none⟩ = some (.slice none 0 0) := by rw [cell_of_block r]; rfl
        have r_3 : w9.cell? ⟨w.heap.size + 1, 3, none⟩ = some (.int .i64 0) := by rw [cell_of_block r]; rfl
        have r_4 : w9.cell? ⟨w.heap.size + 1, 4, none⟩ = some (.int .i64 0) := by rw [cell_of_block r]; rfl
        have r_5 : w9.cell? ⟨w.heap.size + 1, 5, none⟩ = some (.slice none 0 0) := by rw [cell_of_block r]; rfl
        go_wp2
        go_roundw
        case rel => exact ⟨j + 1, ii + 1, by omega, HJ1, by go_num, hrel9 _ rfl⟩
        case measure => simp [intOf]; omega
      · have hz : pl.getD j 0 = 0 := by rw [List.getD_eq_getElem?_getD, List.getElem?_eq_none (by omega)]; rfl
        have hp1 : ¬ ii - 2 < (pl.length : Int) := by rw [HJL.out]; omega
        have hd2 : decide (ii - 2 < (pl.length : Int)) = false := decide_eq_false hp1
        rw [hz] at HNX hpj
        generalize hu : (0 : Int) = u at HNX hpj
        subst hu
        clear hz hpm hpg
        go_wp2_with fail
        refine (rmstore_any hR7 (a + ii) 0 hpj).mono ?_
        rintro e w9 ⟨aO9, nO9, cO9, aY9, nY9, cY9, gO9, gY9, rfl, hR9, hgO9, hgY9, hb9⟩
        have hrel9 : ∀ W, W = _ → WrIn w lo ly gO gY w2.heap.size hk hc hf (wrS m0 a pl (j + 1)) W := fun W e => e ▸ wrin_next hm hR9 HNX.out hgOr hgYr hgO9 hgY9 k0 r t (by omega) hw7 hb9
        have k0 := bblock hb9 k0
        have r := bblock hb9 r
        have t := bblock hb9 t
        clear k0_0 k0_1 k0_2 k0_3 k0_4 k0_5 k0_f t_0 t_1 t_2 r_f r_0 r_1 r_2 r_3 r_4 r_5 hR7 hR9 hgO9 hgY9
        have k0_0 : w9.cell? ⟨w.heap.size, 0, none⟩ = some (.int .i64 0) := by rw [cell_of_block k0]; rfl
        have k0_1 : w9.cell? ⟨w.heap.size, 1, none⟩ = some (.int .i64 lo) := by rw [cell_of_block k0]; rfl
        have k0_2 : w9.cell? ⟨w.heap.size, 2, none⟩ = some (.slice aOr nOr cOr) := by rw [cell_of_block k0]; rfl
        have k0_3 : w9.cell? ⟨w.heap.size, 3, none⟩ = some (.int .i64 16777216) := by rw [cell_of_block k0]; rfl
        have k0_4 : w9.cell? ⟨w.heap.size, 4, none⟩ = some (.int .i64 ly) := by rw [cell_of_block k0]; rfl
        have k0_5 : w9.cell? ⟨w.heap.size, 5, none⟩ = some (.slice aYr nYr cYr) := by rw [cell_of_block k0]; rfl
        have k0_f : ∀ i, w9.frozen? ⟨w.heap.size, i, none⟩ = false := frozen_of_block k0
        have t_0 : w9.cell? ⟨w2.heap.size, 0, none⟩ = some (.int .i64 hk) := by rw [cell_of_block t]; rfl
        have t_1 : w9.cell? ⟨w2.heap.size, 1, none⟩ = some (.int .i64 hc) := by rw [cell_of_block t]; rfl
        have t_2 : w9.cell? ⟨w2.heap.size, 2, none⟩ = some (.int .i64 hf) := by rw [cell_of_block t]; rfl
        have r_f : ∀ i, w9.frozen? ⟨w.heap.size + 1, i, none⟩ = false := frozen_of_block r
        have r_0 : w9.cell? ⟨w.heap.size + 1, 0, none⟩ = some (.int .i64 0) := by rw [cell_of_block r]; rfl
        have r_1 : w9.cell? ⟨w.heap.size + 1, 1, none⟩ = some (.int .i64 0) := by rw [cell_of_block r]; rfl
        have r_2 : w9.cell? ⟨w.heap.size + 1, 2, none⟩ = some (.slice none 0 0) := by rw [cell_of_block r]; rfl
        have r_3 : w9.cell? ⟨w.heap.size + 1, 3, none⟩ = some (.int .i64 0) := by rw [cell_of_block r]; rfl
        have r_4 : w9.cell? ⟨w.heap.size + 1, 4, none⟩ = some (.int .i64 0) := by rw [cell_of_block r]; rfl
        have r_5 : w9.cell? ⟨w.heap.size + 1, 5, none⟩ = some (.slice none 0 0) := by rw [cell_of_block r]; rfl
        go_wp2
        go_roundw
        case rel => exact ⟨j + 1, ii + 1, by omega, HJ1, by go_num, hrel9 _ rfl⟩
        case measure => simp [intOf]; omega
    · have hd1 : decide (ii < W0) = false := decide_eq_false hlt
      have hjz := HJN.out (by omega)
      subst hjz
      clear hpm hpg HJS HJN HJL HAV HJ1 HSZ
      go_wp2
      refine bodyPost_ret (v := .agg #[.int .i64 0, .int .i64 lo, .slice aOr nOr cOr, .int .i64 16777216, .int .i64 ly, .slice aYr nYr cYr]) (by simp [results, Try.results82, go_sem, k0_0, k0_1, k0_2, k0_3, k0_4, k0_5, k0_f, t_0, t_1, t_2, r_f, r_0, r_1, r_2, r_3, r_4, r_5, hzr]) rfl ?_
      refine rnext_fin (w := w) (wk := w7) (mk := fun v => v) hm hR7 ?_ hgOr hgYr ?_
      · (repeat (first | (with_reducible refine Mods.alloc ?_ _) | (with_reducible refine two_set ?_ _ _ _ (.inl rfl)) | (with_reducible refine two_set ?_ _ _ _ (.inr rfl)) | (with_reducible exact Mods.refl _ _)))
      · (repeat (first | (with_reducible refine balloc ?_ _) | (with_reducible refine below_set ?_ _ _ _ (Nat.le_refl _)) | (with_reducible refine below_set ?_ _ _ _ (Nat.le_add_right _ _)) | (with_reducible assumption)))
end Go.Proofs.Ytcmhgjkijegpnaa
