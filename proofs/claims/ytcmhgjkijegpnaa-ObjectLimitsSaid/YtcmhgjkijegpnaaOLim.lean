/-
  refmeshlaw07.ObjectLimits.
-/
import Derived.Test.YtcmhgjkijegpnaaAwk2
namespace Go.Proofs.Ytcmhgjkijegpnaa
open Go.RowKit
set_option linter.unusedSimpArgs false
set_option linter.unusedVariables false

set_option maxRecDepth 100000 in
set_option maxHeartbeats 1000000 in
theorem olimits_big (limit k c f m s : Int) (y : Bool) (h : 1000 < limit) (w : World) : Calls Try.prog 3 #[.int .i64 limit, .agg #[.int .i64 k, .int .i64 c, .int .i64 f], .agg #[.int .i64 m, .int .i64 s], .bool y] w fun e w' => e = .returned (.bool true) ∧ Below w.heap.size w w' := by
  have ha := awake7
  go_enter Try.func3, Try.ntmps3
  go_wp2_with fail
  refine (ha _).mono ?_
  rintro e w1 ⟨rfl, hb1⟩
  go_wp2
  go_ret
  exact ⟨rfl, by (repeat (first | exact Below.refl _ _ | assumption | refine Below.drew ?_ | refine below_drewN ?_ _ | refine balloc ?_ _ | refine Below.setCell ?_ (by first | (simp; done) | (simp; omega) | omega) _ | refine bchain (by assumption) ?_))⟩
set_option maxRecDepth 100000 in
set_option maxHeartbeats 2000000 in
theorem olimits_O (limit k c f m s : Int) (h : limit ≤ 1000) (w : World) : Calls Try.prog 3 #[.int .i64 limit, .agg #[.int .i64 k, .int .i64 c, .int .i64 f], .agg #[.int .i64 m, .int .i64 s], .bool false] w fun e w' => e = .returned (.bool true) ∧ Below w.heap.size w w' := by
  have ha := awake7
  have n1 := onew_any limit
  have n2 := rmnew_any limit
  generalize nmL limit = L at *
  go_enter Try.func3, Try.ntmps3
  go_wp2_with fail
  refine (ha _).mono ?_
  rintro e w1 ⟨rfl, hb1⟩
  have hw1 : Below w.heap.size w w1 := by (repeat (first | exact Below.refl _ _ | assumption | refine Below.drew ?_ | refine below_drewN ?_ _ | refine balloc ?_ _ | refine Below.setCell ?_ (by first | (simp; done) | (simp; omega) | omega) _ | refine bchain (by assumption) ?_))
  have kb : w1.heap[w.heap.size]? = some (.cells #[.int .i64 k, .int .i64 c, .int .i64 f] 23 (0, 0)) := bblock hb1 (by repeat (first | exact alloc_at _ (by simp) | refine alloc_lt _ ?_))
  have ib : w1.heap[w.heap.size + 1]? = some (.cells #[.int .i64 m, .int .i64 s] 25 (0, 0)) := bblock hb1 (by repeat (first | exact alloc_at _ (by simp) | refine alloc_lt _ ?_))
  have hz1 : w.heap.size + 2 ≤ w1.heap.size := by have := (Array.getElem?_eq_some_iff.1 ib).1; omega
  clear hb1 ha
  go_wp2_with fail
  refine (n1 _).mono ?_
  rintro e w2 ⟨b1, b2, hq1, hq2, rfl, hm2, hb2⟩
  go_wp2_with fail
  refine (n2 _).mono ?_
  rintro e w3 ⟨aO, cO, aY, cY, rfl, hR3, hb3⟩
  have kb := bblock hb3 (bblock hb2 kb)
  have ib := bblock hb3 (bblock hb2 ib)
  have hm3 := hm2.below hb3
  have hw3 := bchain hb3 (bchain hb2 hw1)
  have hl1 := hm3.old.lt
  have hl2 := hm3.yng.lt
  have hRa : ∀ W, RMem W aO 0 cO aY 0 cY L (16777216 + L) [] [] none none := fun W => ⟨rfl, rfl, hR3.old.keep (fun G o e => by cases e), hR3.yng.keep (fun G o e => by cases e), hR3.okO, hR3.okY, hR3.lim⟩
  have hz3 : w.heap.size + 2 ≤ w3.heap.size := by have := (Array.getElem?_eq_some_iff.1 ib).1; omega
  clear hb2 hb3 hm2 n1 n2 hw1 hR3
  have kb_0 : w3.cell? ⟨w.heap.size, 0, none⟩ = some (.int .i64 k) := by rw [cell_of_block kb]; rfl
  have kb_1 : w3.cell? ⟨w.heap.size, 1, none⟩ = some (.int .i64 c) := by rw [cell_of_block kb]; rfl
  have kb_2 : w3.cell? ⟨w.heap.size, 2, none⟩ = some (.int .i64 f) := by rw [cell_of_block kb]; rfl
  have ib_0 : w3.cell? ⟨w.heap.size + 1, 0, none⟩ = some (.int .i64 m) := by rw [cell_of_block ib]; rfl
  have ib_1 : w3.cell? ⟨w.heap.size + 1, 1, none⟩ = some (.int .i64 s) := by rw [cell_of_block ib]; rfl
  go_wp2_with fail
  refine (base_any (hm3.below (by (repeat (first | exact Below.refl _ _ | assumption | refine Below.drew ?_ | refine below_drewN ?_ _ | refine balloc ?_ _ | refine Below.setCell ?_ (by first | (simp; done) | (simp; omega) | omega) _ | refine bchain (by assumption) ?_)))).old).mono ?_
  rintro e w4 ⟨rfl, hb4⟩
  have hB4 : Below w3.heap.size w3 w4 := by (repeat (first | exact Below.refl _ _ | assumption | refine Below.drew ?_ | refine below_drewN ?_ _ | refine balloc ?_ _ | refine Below.setCell ?_ (by first | (simp; done) | (simp; omega) | omega) _ | refine bchain (by assumption) ?_))
  have m9 : w4.heap[w3.heap.size]? = some (.cells #[.pointer (some ⟨b1, 0, none⟩), .pointer (some ⟨b2, 0, none⟩)] 29 (0, 0)) := bblock hb4 (by repeat (first | exact alloc_at _ (by simp) | refine alloc_lt _ ?_))
  have r10 : w4.heap[w3.heap.size + 1]? = some (.cells #[.int .i64 0, .int .i64 L, .slice aO 0 cO, .int .i64 16777216, .int .i64 (16777216 + L), .slice aY 0 cY] 35 (0, 0)) := bblock hb4 (by repeat (first | exact alloc_at _ (by simp) | refine alloc_lt _ ?_))
  have kb := bblock hB4 kb
  have ib := bblock hB4 ib
  have hm4 := hm3.below hB4
  have hw4 := bchain hB4 hw3
  clear hB4 hb4 hm3 hw3 kb_0 kb_1 kb_2 ib_0 ib_1
  have kb_0 : w4.cell? ⟨w.heap.size, 0, none⟩ = some (.int .i64 k) := by rw [cell_of_block kb]; rfl
  have kb_1 : w4.cell? ⟨w.heap.size, 1, none⟩ = some (.int .i64 c) := by rw [cell_of_block kb]; rfl
  have kb_2 : w4.cell? ⟨w.heap.size, 2, none⟩ = some (.int .i64 f) := by rw [cell_of_block kb]; rfl
  have ib_0 : w4.cell? ⟨w.heap.size + 1, 0, none⟩ = some (.int .i64 m) := by rw [cell_of_block ib]; rfl
  have ib_1 : w4.cell? ⟨w.heap.size + 1, 1, none⟩ = some (.int .i64 s) := by rw [cell_of_block ib]; rfl
  have m9_0 : w4.cell? ⟨w3.heap.size, 0, none⟩ = some (.pointer (some ⟨b1, 0, none⟩)) := by rw [cell_of_block m9]; rfl
  have m9_1 : w4.cell? ⟨w3.heap.size, 1, none⟩ = some (.pointer (some ⟨b2, 0, none⟩)) := by rw [cell_of_block m9]; rfl
  have r10_0 : w4.cell? ⟨w3.heap.size + 1, 0, none⟩ = some (.int .i64 0) := by rw [cell_of_block r10]; rfl
  have r10_1 : w4.cell? ⟨w3.heap.size + 1, 1, none⟩ = some (.int .i64 L) := by rw [cell_of_block r10]; rfl
  have r10_2 : w4.cell? ⟨w3.heap.size + 1, 2, none⟩ = some (.slice aO 0 cO) := by rw [cell_of_block r10]; rfl
  have r10_3 : w4.cell? ⟨w3.heap.size + 1, 3, none⟩ = some (.int .i64 16777216) := by rw [cell_of_block r10]; rfl
  have r10_4 : w4.cell? ⟨w3.heap.size + 1, 4, none⟩ = some (.int .i64 (16777216 + L)) := by rw [cell_of_block r10]; rfl
  have r10_5 : w4.cell? ⟨w3.heap.size + 1, 5, none⟩ = some (.slice aY 0 cY) := by rw [cell_of_block r10]; rfl
  go_wp2_with fail
  refine (base_any hm4.yng).mono ?_
  rintro e w5 ⟨rfl, hb5⟩
  have m9 := bblock hb5 m9
  have r10 := bblock hb5 r10
  have kb := bblock hb5 kb
  have ib := bblock hb5 ib
  have hm5 := hm4.below hb5
  have hw5 := bchain hb5 hw4
  have hA := alloc_any hm5.old hm5.okO k c f m s
  have hA2 := fun W => rmalloc_O (hRa W) k c f m s
  clear hb5 hm4 hw4 kb_0 kb_1 kb_2 ib_0 ib_1 m9_0 m9_1 r10_0 r10_1 r10_2 r10_3 r10_4 r10_5
  have kb_0 : w5.cell? ⟨w.heap.size, 0, none⟩ = some (.int .i64 k) := by rw [cell_of_block kb]; rfl
  have kb_1 : w5.cell? ⟨w.heap.size, 1, none⟩ = some (.int .i64 c) := by rw [cell_of_block kb]; rfl
  have kb_2 : w5.cell? ⟨w.heap.size, 2, none⟩ = some (.int .i64 f) := by rw [cell_of_block kb]; rfl
  have ib_0 : w5.cell? ⟨w.heap.size + 1, 0, none⟩ = some (.int .i64 m) := by rw [cell_of_block ib]; rfl
  have ib_1 : w5.cell? ⟨w.heap.size + 1, 1, none⟩ = some (.int .i64 s) := by rw [cell_of_block ib]; rfl
  have m9_0 : w5.cell? ⟨w3.heap.size, 0, none⟩ = some (.pointer (some ⟨b1, 0, none⟩)) := by rw [cell_of_block m9]; rfl
  have m9_1 : w5.cell? ⟨w3.heap.size, 1, none⟩ = some (.pointer (some ⟨b2, 0, none⟩)) := by rw [cell_of_block m9]; rfl
  have r10_0 : w5.cell? ⟨w3.heap.size + 1, 0, none⟩ = some (.int .i64 0) := by rw [cell_of_block r10]; rfl
  have r10_1 : w5.cell? ⟨w3.heap.size + 1, 1, none⟩ = some (.int .i64 L) := by rw [cell_of_block r10]; rfl
  have r10_2 : w5.cell? ⟨w3.heap.size + 1, 2, none⟩ = some (.slice aO 0 cO) := by rw [cell_of_block r10]; rfl
  have r10_3 : w5.cell? ⟨w3.heap.size + 1, 3, none⟩ = some (.int .i64 16777216) := by rw [cell_of_block r10]; rfl
  have r10_4 : w5.cell? ⟨w3.heap.size + 1, 4, none⟩ = some (.int .i64 (16777216 + L)) := by rw [cell_of_block r10]; rfl
  have r10_5 : w5.cell? ⟨w3.heap.size + 1, 5, none⟩ = some (.slice aY 0 cY) := by rw [cell_of_block r10]; rfl
  generalize alA 0 L [] k c f m s = ad at *
  generalize alE 0 L [] k c f m s = er at *
  generalize alW 0 L [] k c f m s = ws2 at *
  go_wp2_with fail
  refine hA.mono ?_
  rintro e w6 ⟨rfl, g6, hs6, hM6, hg6⟩
  have q1 : ¬ SpS b1 none w.heap.size := not_sps (by omega) (fun G h => by cases h)
  have q2 : ¬ SpS b1 none (w.heap.size + 1) := not_sps (by omega) (fun G h => by cases h)
  have q3 : ¬ SpS b1 none (w3.heap.size + 1) := not_sps (by omega) (fun G h => by cases h)
  have r10 := mblock hM6 r10 q3
  have kb := mblock hM6 kb q1
  have ib := mblock hM6 ib q2
  have hw6 : Below w.heap.size w w6 := hw5.trans (hM6.below hw5.size (sps_ge (by omega) none_ge))
  clear hA hM6 hs6 hg6 q1 q2 q3 hm5 kb_0 kb_1 kb_2 ib_0 ib_1 m9_0 m9_1 r10_0 r10_1 r10_2 r10_3 r10_4 r10_5
  have kb_0 : w6.cell? ⟨w.heap.size, 0, none⟩ = some (.int .i64 k) := by rw [cell_of_block kb]; rfl
  have kb_1 : w6.cell? ⟨w.heap.size, 1, none⟩ = some (.int .i64 c) := by rw [cell_of_block kb]; rfl
  have kb_2 : w6.cell? ⟨w.heap.size, 2, none⟩ = some (.int .i64 f) := by rw [cell_of_block kb]; rfl
  have ib_0 : w6.cell? ⟨w.heap.size + 1, 0, none⟩ = some (.int .i64 m) := by rw [cell_of_block ib]; rfl
  have ib_1 : w6.cell? ⟨w.heap.size + 1, 1, none⟩ = some (.int .i64 s) := by rw [cell_of_block ib]; rfl
  have r10_0 : w6.cell? ⟨w3.heap.size + 1, 0, none⟩ = some (.int .i64 0) := by rw [cell_of_block r10]; rfl
  have r10_1 : w6.cell? ⟨w3.heap.size + 1, 1, none⟩ = some (.int .i64 L) := by rw [cell_of_block r10]; rfl
  have r10_2 : w6.cell? ⟨w3.heap.size + 1, 2, none⟩ = some (.slice aO 0 cO) := by rw [cell_of_block r10]; rfl
  have r10_3 : w6.cell? ⟨w3.heap.size + 1, 3, none⟩ = some (.int .i64 16777216) := by rw [cell_of_block r10]; rfl
  have r10_4 : w6.cell? ⟨w3.heap.size + 1, 4, none⟩ = some (.int .i64 (16777216 + L)) := by rw [cell_of_block r10]; rfl
  have r10_5 : w6.cell? ⟨w3.heap.size + 1, 5, none⟩ = some (.slice aY 0 cY) := by rw [cell_of_block r10]; rfl
  go_wp2_with fail
  refine (hA2 _).mono ?_
  rintro e w7 ⟨aO7, nO7, cO7, aY7, nY7, cY7, gO7, gY7, rfl, hR7, hgO7, hgY7, hb7⟩
  have hw7 := bchain hb7 hw6
  clear hR7 hgO7 hgY7 hb7 hA2
  go_wp2
  go_ret
  exact ⟨rfl, by (repeat (first | exact Below.refl _ _ | assumption | refine Below.drew ?_ | refine below_drewN ?_ _ | refine balloc ?_ _ | refine Below.setCell ?_ (by first | (simp; done) | (simp; omega) | omega) _ | refine bchain (by assumption) ?_))⟩
set_option maxRecDepth 100000 in
set_option maxHeartbeats 2000000 in
theorem olimits_Y (limit k c f m s : Int) (h : limit ≤ 1000) (w : World) : Calls Try.prog 3 #[.int .i64 limit, .agg #[.int .i64 k, .int .i64 c, .int .i64 f], .agg #[.int .i64 m, .int .i64 s], .bool true] w fun e w' => e = .returned (.bool true) ∧ Below w.heap.size w w' := by
  have ha := awake7
  have n1 := onew_any limit
  have n2 := rmnew_any limit
  generalize nmL limit = L at *
  go_enter Try.func3, Try.ntmps3
  go_wp2_with fail
  refine (ha _).mono ?_
  rintro e w1 ⟨rfl, hb1⟩
  have hw1 : Below w.heap.size w w1 := by (repeat (first | exact Below.refl _ _ | assumption | refine Below.drew ?_ | refine below_drewN ?_ _ | refine balloc ?_ _ | refine Below.setCell ?_ (by first | (simp; done) | (simp; omega) | omega) _ | refine bchain (by assumption) ?_))
  have kb : w1.heap[w.heap.size]? = some (.cells #[.int .i64 k, .int .i64 c, .int .i64 f] 23 (0, 0)) := bblock hb1 (by repeat (first | exact alloc_at _ (by simp) | refine alloc_lt _ ?_))
  have ib : w1.heap[w.heap.size + 1]? = some (.cells #[.int .i64 m, .int .i64 s] 25 (0, 0)) := bblock hb1 (by repeat (first | exact alloc_at _ (by simp) | refine alloc_lt _ ?_))
  have hz1 : w.heap.size + 2 ≤ w1.heap.size := by have := (Array.getElem?_eq_some_iff.1 ib).1; omega
  clear hb1 ha
  go_wp2_with fail
  refine (n1 _).mono ?_
  rintro e w2 ⟨b1, b2, hq1, hq2, rfl, hm2, hb2⟩
  go_wp2_with fail
  refine (n2 _).mono ?_
  rintro e w3 ⟨aO, cO, aY, cY, rfl, hR3, hb3⟩
  have kb := bblock hb3 (bblock hb2 kb)
  have ib := bblock hb3 (bblock hb2 ib)
  have hm3 := hm2.below hb3
  have hw3 := bchain hb3 (bchain hb2 hw1)
  have hl1 := hm3.old.lt
  have hl2 := hm3.yng.lt
  have hRa : ∀ W, RMem W aO 0 cO aY 0 cY L (16777216 + L) [] [] none none := fun W => ⟨rfl, rfl, hR3.old.keep (fun G o e => by cases e), hR3.yng.keep (fun G o e => by cases e), hR3.okO, hR3.okY, hR3.lim⟩
  have hz3 : w.heap.size + 2 ≤ w3.heap.size := by have := (Array.getElem?_eq_some_iff.1 ib).1; omega
  clear hb2 hb3 hm2 n1 n2 hw1 hR3
  have kb_0 : w3.cell? ⟨w.heap.size, 0, none⟩ = some (.int .i64 k) := by rw [cell_of_block kb]; rfl
  have kb_1 : w3.cell? ⟨w.heap.size, 1, none⟩ = some (.int .i64 c) := by rw [cell_of_block kb]; rfl
  have kb_2 : w3.cell? ⟨w.heap.size, 2, none⟩ = some (.int .i64 f) := by rw [cell_of_block kb]; rfl
  have ib_0 : w3.cell? ⟨w.heap.size + 1, 0, none⟩ = some (.int .i64 m) := by rw [cell_of_block ib]; rfl
  have ib_1 : w3.cell? ⟨w.heap.size + 1, 1, none⟩ = some (.int .i64 s) := by rw [cell_of_block ib]; rfl
  go_wp2_with fail
  refine (base_any (hm3.below (by (repeat (first | exact Below.refl _ _ | assumption | refine Below.drew ?_ | refine below_drewN ?_ _ | refine balloc ?_ _ | refine Below.setCell ?_ (by first | (simp; done) | (simp; omega) | omega) _ | refine bchain (by assumption) ?_)))).old).mono ?_
  rintro e w4 ⟨rfl, hb4⟩
  have hB4 : Below w3.heap.size w3 w4 := by (repeat (first | exact Below.refl _ _ | assumption | refine Below.drew ?_ | refine below_drewN ?_ _ | refine balloc ?_ _ | refine Below.setCell ?_ (by first | (simp; done) | (simp; omega) | omega) _ | refine bchain (by assumption) ?_))
  have m9 : w4.heap[w3.heap.size]? = some (.cells #[.pointer (some ⟨b1, 0, none⟩), .pointer (some ⟨b2, 0, none⟩)] 29 (0, 0)) := bblock hb4 (by repeat (first | exact alloc_at _ (by simp) | refine alloc_lt _ ?_))
  have r10 : w4.heap[w3.heap.size + 1]? = some (.cells #[.int .i64 0, .int .i64 L, .slice aO 0 cO, .int .i64 16777216, .int .i64 (16777216 + L), .slice aY 0 cY] 35 (0, 0)) := bblock hb4 (by repeat (first | exact alloc_at _ (by simp) | refine alloc_lt _ ?_))
  have kb := bblock hB4 kb
  have ib := bblock hB4 ib
  have hm4 := hm3.below hB4
  have hw4 := bchain hB4 hw3
  clear hB4 hb4 hm3 hw3 kb_0 kb_1 kb_2 ib_0 ib_1
  have kb_0 : w4.cell? ⟨w.heap.size, 0, none⟩ = some (.int .i64 k) := by rw [cell_of_block kb]; rfl
  have kb_1 : w4.cell? ⟨w.heap.size, 1, none⟩ = some (.int .i64 c) := by rw [cell_of_block kb]; rfl
  have kb_2 : w4.cell? ⟨w.heap.size, 2, none⟩ = some (.int .i64 f) := by rw [cell_of_block kb]; rfl
  have ib_0 : w4.cell? ⟨w.heap.size + 1, 0, none⟩ = some (.int .i64 m) := by rw [cell_of_block ib]; rfl
  have ib_1 : w4.cell? ⟨w.heap.size + 1, 1, none⟩ = some (.int .i64 s) := by rw [cell_of_block ib]; rfl
  have m9_0 : w4.cell? ⟨w3.heap.size, 0, none⟩ = some (.pointer (some ⟨b1, 0, none⟩)) := by rw [cell_of_block m9]; rfl
  have m9_1 : w4.cell? ⟨w3.heap.size, 1, none⟩ = some (.pointer (some ⟨b2, 0, none⟩)) := by rw [cell_of_block m9]; rfl
  have r10_0 : w4.cell? ⟨w3.heap.size + 1, 0, none⟩ = some (.int .i64 0) := by rw [cell_of_block r10]; rfl
  have r10_1 : w4.cell? ⟨w3.heap.size + 1, 1, none⟩ = some (.int .i64 L) := by rw [cell_of_block r10]; rfl
  have r10_2 : w4.cell? ⟨w3.heap.size + 1, 2, none⟩ = some (.slice aO 0 cO) := by rw [cell_of_block r10]; rfl
  have r10_3 : w4.cell? ⟨w3.heap.size + 1, 3, none⟩ = some (.int .i64 16777216) := by rw [cell_of_block r10]; rfl
  have r10_4 : w4.cell? ⟨w3.heap.size + 1, 4, none⟩ = some (.int .i64 (16777216 + L)) := by rw [cell_of_block r10]; rfl
  have r10_5 : w4.cell? ⟨w3.heap.size + 1, 5, none⟩ = some (.slice aY 0 cY) := by rw [cell_of_block r10]; rfl
  go_wp2_with fail
  refine (base_any hm4.yng).mono ?_
  rintro e w5 ⟨rfl, hb5⟩
  have m9 := bblock hb5 m9
  have r10 := bblock hb5 r10
  have kb := bblock hb5 kb
  have ib := bblock hb5 ib
  have hm5 := hm4.below hb5
  have hw5 := bchain hb5 hw4
  have hA := alloc_any hm5.yng hm5.okY k c f m s
  have hA2 := fun W => rmalloc_Y (hRa W) k c f m s
  clear hb5 hm4 hw4 kb_0 kb_1 kb_2 ib_0 ib_1 m9_0 m9_1 r10_0 r10_1 r10_2 r10_3 r10_4 r10_5
  have kb_0 : w5.cell? ⟨w.heap.size, 0, none⟩ = some (.int .i64 k) := by rw [cell_of_block kb]; rfl
  have kb_1 : w5.cell? ⟨w.heap.size, 1, none⟩ = some (.int .i64 c) := by rw [cell_of_block kb]; rfl
  have kb_2 : w5.cell? ⟨w.heap.size, 2, none⟩ = some (.int .i64 f) := by rw [cell_of_block kb]; rfl
  have ib_0 : w5.cell? ⟨w.heap.size + 1, 0, none⟩ = some (.int .i64 m) := by rw [cell_of_block ib]; rfl
  have ib_1 : w5.cell? ⟨w.heap.size + 1, 1, none⟩ = some (.int .i64 s) := by rw [cell_of_block ib]; rfl
  have m9_0 : w5.cell? ⟨w3.heap.size, 0, none⟩ = some (.pointer (some ⟨b1, 0, none⟩)) := by rw [cell_of_block m9]; rfl
  have m9_1 : w5.cell? ⟨w3.heap.size, 1, none⟩ = some (.pointer (some ⟨b2, 0, none⟩)) := by rw [cell_of_block m9]; rfl
  have r10_0 : w5.cell? ⟨w3.heap.size + 1, 0, none⟩ = some (.int .i64 0) := by rw [cell_of_block r10]; rfl
  have r10_1 : w5.cell? ⟨w3.heap.size + 1, 1, none⟩ = some (.int .i64 L) := by rw [cell_of_block r10]; rfl
  have r10_2 : w5.cell? ⟨w3.heap.size + 1, 2, none⟩ = some (.slice aO 0 cO) := by rw [cell_of_block r10]; rfl
  have r10_3 : w5.cell? ⟨w3.heap.size + 1, 3, none⟩ = some (.int .i64 16777216) := by rw [cell_of_block r10]; rfl
  have r10_4 : w5.cell? ⟨w3.heap.size + 1, 4, none⟩ = some (.int .i64 (16777216 + L)) := by rw [cell_of_block r10]; rfl
  have r10_5 : w5.cell? ⟨w3.heap.size + 1, 5, none⟩ = some (.slice aY 0 cY) := by rw [cell_of_block r10]; rfl
  generalize alA 16777216 (16777216 + L) [] k c f m s = ad at *
  generalize alE 16777216 (16777216 + L) [] k c f m s = er at *
  generalize alW 16777216 (16777216 + L) [] k c f m s = ws2 at *
  go_wp2_with fail
  refine hA.mono ?_
  rintro e w6 ⟨rfl, g6, hs6, hM6, hg6⟩
  have q1 : ¬ SpS b2 none w.heap.size := not_sps (by omega) (fun G h => by cases h)
  have q2 : ¬ SpS b2 none (w.heap.size + 1) := not_sps (by omega) (fun G h => by cases h)
  have q3 : ¬ SpS b2 none (w3.heap.size + 1) := not_sps (by omega) (fun G h => by cases h)
  have r10 := mblock hM6 r10 q3
  have kb := mblock hM6 kb q1
  have ib := mblock hM6 ib q2
  have hw6 : Below w.heap.size w w6 := hw5.trans (hM6.below hw5.size (sps_ge (by omega) none_ge))
  clear hA hM6 hs6 hg6 q1 q2 q3 hm5 kb_0 kb_1 kb_2 ib_0 ib_1 m9_0 m9_1 r10_0 r10_1 r10_2 r10_3 r10_4 r10_5
  have kb_0 : w6.cell? ⟨w.heap.size, 0, none⟩ = some (.int .i64 k) := by rw [cell_of_block kb]; rfl
  have kb_1 : w6.cell? ⟨w.heap.size, 1, none⟩ = some (.int .i64 c) := by rw [cell_of_block kb]; rfl
  have kb_2 : w6.cell? ⟨w.heap.size, 2, none⟩ = some (.int .i64 f) := by rw [cell_of_block kb]; rfl
  have ib_0 : w6.cell? ⟨w.heap.size + 1, 0, none⟩ = some (.int .i64 m) := by rw [cell_of_block ib]; rfl
  have ib_1 : w6.cell? ⟨w.heap.size + 1, 1, none⟩ = some (.int .i64 s) := by rw [cell_of_block ib]; rfl
  have r10_0 : w6.cell? ⟨w3.heap.size + 1, 0, none⟩ = some (.int .i64 0) := by rw [cell_of_block r10]; rfl
  have r10_1 : w6.cell? ⟨w3.heap.size + 1, 1, none⟩ = some (.int .i64 L) := by rw [cell_of_block r10]; rfl
  have r10_2 : w6.cell? ⟨w3.heap.size + 1, 2, none⟩ = some (.slice aO 0 cO) := by rw [cell_of_block r10]; rfl
  have r10_3 : w6.cell? ⟨w3.heap.size + 1, 3, none⟩ = some (.int .i64 16777216) := by rw [cell_of_block r10]; rfl
  have r10_4 : w6.cell? ⟨w3.heap.size + 1, 4, none⟩ = some (.int .i64 (16777216 + L)) := by rw [cell_of_block r10]; rfl
  have r10_5 : w6.cell? ⟨w3.heap.size + 1, 5, none⟩ = some (.slice aY 0 cY) := by rw [cell_of_block r10]; rfl
  go_wp2_with fail
  refine (hA2 _).mono ?_
  rintro e w7 ⟨aO7, nO7, cO7, aY7, nY7, cY7, gO7, gY7, rfl, hR7, hgO7, hgY7, hb7⟩
  have hw7 := bchain hb7 hw6
  clear hR7 hgO7 hgY7 hb7 hA2
  go_wp2
  go_ret
  exact ⟨rfl, by (repeat (first | exact Below.refl _ _ | assumption | refine Below.drew ?_ | refine below_drewN ?_ _ | refine balloc ?_ _ | refine Below.setCell ?_ (by first | (simp; done) | (simp; omega) | omega) _ | refine bchain (by assumption) ?_))⟩
theorem olimits_any (limit k c f m s : Int) (y : Bool) (w : World) : Calls Try.prog 3 #[.int .i64 limit, .agg #[.int .i64 k, .int .i64 c, .int .i64 f], .agg #[.int .i64 m, .int .i64 s], .bool y] w fun e w' => e = .returned (.bool true) ∧ Below w.heap.size w w' := by
  by_cases h : limit ≤ 1000
  · cases y
    · exact olimits_O limit k c f m s h w
    · exact olimits_Y limit k c f m s h w
  · exact olimits_big limit k c f m s y (by omega) w
end Go.Proofs.Ytcmhgjkijegpnaa
