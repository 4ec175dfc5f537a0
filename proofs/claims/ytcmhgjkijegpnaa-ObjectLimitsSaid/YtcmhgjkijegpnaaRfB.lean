/-
  refmeshref07.Header, Load, ID, field, Field.
-/
import Derived.Test.YtcmhgjkijegpnaaRfA
namespace Go.Proofs.Ytcmhgjkijegpnaa
open Go.RowKit
set_option linter.unusedSimpArgs false
set_option linter.unusedVariables false

set_option maxRecDepth 100000 in
set_option maxHeartbeats 2000000 in
theorem rhdr_out {w : World} {aO : Option Addr} {nO cO : Nat} {aY : Option Addr} {nY cY : Nat} {lo ly : Int} {A : Option Addr} {n cap : Nat} {bs lm : Int} {ws : List Int} {g : Option Nat} {a : Int} (hP : ∀ W, Below w.heap.size w W → Calls Try.prog 65 #[.agg #[.int .i64 0, .int .i64 lo, .slice aO nO cO, .int .i64 16777216, .int .i64 ly, .slice aY nY cY], .int .i64 a] W fun e w' => e = .returned (.agg #[.int .i64 bs, .int .i64 lm, .slice A n cap]) ∧ Below W.heap.size W w') (hs : ∀ W, Below w.heap.size w W → MdAt W (.agg #[.int .i64 bs, .int .i64 lm, .slice A n cap]) bs lm ws g) (hk : SpOk bs lm ws) (hn : ws.length = n) (h : inB bs ws.length a = false) :
    Calls Try.prog 31 #[.agg #[.int .i64 0, .int .i64 lo, .slice aO nO cO, .int .i64 16777216, .int .i64 ly, .slice aY nY cY], .int .i64 a] w fun e w' => e = .returned (.tuple #[.agg #[.int .i64 0, .int .i64 0, .int .i64 0], .int .i64 2]) ∧ Below w.heap.size w w' := by
  have b0 := hk.b0
  have b1 := hk.top
  have b2 := hk.lm1
  have hL := fun W (h : Below w.heap.size w W) (c : Int) => rload_any (hs W h) hk hn c
  have hC := fun W (h : Below w.heap.size w W) (c : Int) => rcontains_any (hs W h) hk c
  have e1 : ioE bs ws a = 2 := by unfold ioE; rw [h]; rfl
  have hL1 := fun W h => hL W h a
  rw [e1] at hL1
  generalize ldW bs ws a = x at *
  clear h e1 hL hC
  rw [hn] at b1
  clear hs hk hn
  have hw0 : Below w.heap.size w w := Below.refl _ _
  go_enter Try.func31, Try.ntmps31
  go_wp2_with fail
  refine (hP _ (by (repeat (first | exact Below.refl _ _ | assumption | refine Below.drew ?_ | refine below_drewN ?_ _ | refine balloc ?_ _ | refine Below.setCell ?_ (by first | (simp; done) | (simp; omega) | omega) _ | refine bchain (by assumption) ?_)))).mono ?_
  rintro e w1 ⟨rfl, hb1⟩
  have hB1 : Below w.heap.size w w1 := by (repeat (first | exact Below.refl _ _ | assumption | refine Below.drew ?_ | refine below_drewN ?_ _ | refine balloc ?_ _ | refine Below.setCell ?_ (by first | (simp; done) | (simp; omega) | omega) _ | refine bchain (by assumption) ?_))
  have k0 : w1.heap[w.heap.size]? = some (.cells #[.int .i64 0, .int .i64 lo, .slice aO nO cO, .int .i64 16777216, .int .i64 ly, .slice aY nY cY] 35 (0, 0)) := bblock hb1 (by repeat (first | exact alloc_at _ (by simp) | refine alloc_lt _ ?_))
  have r : w1.heap[w.heap.size + 1]? = some (.cells #[.int .i64 0, .int .i64 0, .int .i64 0] 23 (0, 0)) := bblock hb1 (by repeat (first | exact alloc_at _ (by simp) | refine alloc_lt _ ?_))
  have hw1 := bchain hB1 hw0
  have hz_k0 : w.heap.size < w1.heap.size := (Array.getElem?_eq_some_iff.1 k0).1
  have hz_r : w.heap.size + 1 < w1.heap.size := (Array.getElem?_eq_some_iff.1 r).1
  clear hB1
  have k0_0 : w1.cell? ⟨w.heap.size, 0, none⟩ = some (.int .i64 0) := by rw [cell_of_block k0]; rfl
  have k0_1 : w1.cell? ⟨w.heap.size, 1, none⟩ = some (.int .i64 lo) := by rw [cell_of_block k0]; rfl
  have k0_2 : w1.cell? ⟨w.heap.size, 2, none⟩ = some (.slice aO nO cO) := by rw [cell_of_block k0]; rfl
  have k0_3 : w1.cell? ⟨w.heap.size, 3, none⟩ = some (.int .i64 16777216) := by rw [cell_of_block k0]; rfl
  have k0_4 : w1.cell? ⟨w.heap.size, 4, none⟩ = some (.int .i64 ly) := by rw [cell_of_block k0]; rfl
  have k0_5 : w1.cell? ⟨w.heap.size, 5, none⟩ = some (.slice aY nY cY) := by rw [cell_of_block k0]; rfl
  have r_0 : w1.cell? ⟨w.heap.size + 1, 0, none⟩ = some (.int .i64 0) := by rw [cell_of_block r]; rfl
  have r_1 : w1.cell? ⟨w.heap.size + 1, 1, none⟩ = some (.int .i64 0) := by rw [cell_of_block r]; rfl
  have r_2 : w1.cell? ⟨w.heap.size + 1, 2, none⟩ = some (.int .i64 0) := by rw [cell_of_block r]; rfl
  have r_f : ∀ i, w1.frozen? ⟨w.heap.size + 1, i, none⟩ = false := frozen_of_block r
  go_wp2_with fail
  refine (hL1 _ (by (repeat (first | exact Below.refl _ _ | assumption | refine Below.drew ?_ | refine below_drewN ?_ _ | refine balloc ?_ _ | refine Below.setCell ?_ (by first | (simp; done) | (simp; omega) | omega) _ | refine bchain (by assumption) ?_)))).mono ?_
  rintro e w2 ⟨rfl, hb2⟩
  have hB2 : Below w1.heap.size w1 w2 := by (repeat (first | exact Below.refl _ _ | assumption | refine Below.drew ?_ | refine below_drewN ?_ _ | refine balloc ?_ _ | refine Below.setCell ?_ (by first | (simp; done) | (simp; omega) | omega) _ | refine bchain (by assumption) ?_))
  have k0 := bblock hB2 k0
  have r := bblock hB2 r
  have s : w2.heap[w1.heap.size]? = some (.cells #[.int .i64 bs, .int .i64 lm, .slice A n cap] 33 (0, 0)) := bblock hb2 (by repeat (first | exact alloc_at _ (by simp) | refine alloc_lt _ ?_))
  have hw2 := bchain hB2 hw1
  clear hz_k0 hz_r
  have hz_k0 : w.heap.size < w2.heap.size := (Array.getElem?_eq_some_iff.1 k0).1
  have hz_r : w.heap.size + 1 < w2.heap.size := (Array.getElem?_eq_some_iff.1 r).1
  have hz_s : w1.heap.size < w2.heap.size := (Array.getElem?_eq_some_iff.1 s).1
  clear hB2
  clear k0_0 k0_1 k0_2 k0_3 k0_4 k0_5 r_0 r_1 r_2 r_f
  have k0_0 : w2.cell? ⟨w.heap.size, 0, none⟩ = some (.int .i64 0) := by rw [cell_of_block k0]; rfl
  have k0_1 : w2.cell? ⟨w.heap.size, 1, none⟩ = some (.int .i64 lo) := by rw [cell_of_block k0]; rfl
  have k0_2 : w2.cell? ⟨w.heap.size, 2, none⟩ = some (.slice aO nO cO) := by rw [cell_of_block k0]; rfl
  have k0_3 : w2.cell? ⟨w.heap.size, 3, none⟩ = some (.int .i64 16777216) := by rw [cell_of_block k0]; rfl
  have k0_4 : w2.cell? ⟨w.heap.size, 4, none⟩ = some (.int .i64 ly) := by rw [cell_of_block k0]; rfl
  have k0_5 : w2.cell? ⟨w.heap.size, 5, none⟩ = some (.slice aY nY cY) := by rw [cell_of_block k0]; rfl
  have r_0 : w2.cell? ⟨w.heap.size + 1, 0, none⟩ = some (.int .i64 0) := by rw [cell_of_block r]; rfl
  have r_1 : w2.cell? ⟨w.heap.size + 1, 1, none⟩ = some (.int .i64 0) := by rw [cell_of_block r]; rfl
  have r_2 : w2.cell? ⟨w.heap.size + 1, 2, none⟩ = some (.int .i64 0) := by rw [cell_of_block r]; rfl
  have r_f : ∀ i, w2.frozen? ⟨w.heap.size + 1, i, none⟩ = false := frozen_of_block r
  have s_0 : w2.cell? ⟨w1.heap.size, 0, none⟩ = some (.int .i64 bs) := by rw [cell_of_block s]; rfl
  have s_1 : w2.cell? ⟨w1.heap.size, 1, none⟩ = some (.int .i64 lm) := by rw [cell_of_block s]; rfl
  have s_2 : w2.cell? ⟨w1.heap.size, 2, none⟩ = some (.slice A n cap) := by rw [cell_of_block s]; rfl
  go_wp2
  exact bodyPost_ret (v := .tuple #[.agg #[.int .i64 0, .int .i64 0, .int .i64 0], .int .i64 2]) (by simp [results, Try.results31, go_sem, k0_0, k0_1, k0_2, k0_3, k0_4, k0_5, r_0, r_1, r_2, r_f, s_0, s_1, s_2, hz_k0, hz_r, hz_s]) rfl ⟨rfl, by (repeat (first | exact Below.refl _ _ | assumption | refine Below.drew ?_ | refine below_drewN ?_ _ | refine balloc ?_ _ | refine Below.setCell ?_ (by first | (simp; done) | (simp; omega) | omega) _ | refine bchain (by assumption) ?_))⟩
set_option maxRecDepth 100000 in
set_option maxHeartbeats 2000000 in
theorem rhdr_B {w : World} {aO : Option Addr} {nO cO : Nat} {aY : Option Addr} {nY cY : Nat} {lo ly : Int} {A : Option Addr} {n cap : Nat} {bs lm : Int} {ws : List Int} {g : Option Nat} {a : Int} (hP : ∀ W, Below w.heap.size w W → Calls Try.prog 65 #[.agg #[.int .i64 0, .int .i64 lo, .slice aO nO cO, .int .i64 16777216, .int .i64 ly, .slice aY nY cY], .int .i64 a] W fun e w' => e = .returned (.agg #[.int .i64 bs, .int .i64 lm, .slice A n cap]) ∧ Below W.heap.size W w') (hs : ∀ W, Below w.heap.size w W → MdAt W (.agg #[.int .i64 bs, .int .i64 lm, .slice A n cap]) bs lm ws g) (hk : SpOk bs lm ws) (hn : ws.length = n) (h : inB bs ws.length a = true) (hd : decB (ldW bs ws a) = false) :
    Calls Try.prog 31 #[.agg #[.int .i64 0, .int .i64 lo, .slice aO nO cO, .int .i64 16777216, .int .i64 ly, .slice aY nY cY], .int .i64 a] w fun e w' => e = .returned (.tuple #[.agg #[.int .i64 0, .int .i64 0, .int .i64 0], .int .i64 11]) ∧ Below w.heap.size w w' := by
  have b0 := hk.b0
  have b1 := hk.top
  have b2 := hk.lm1
  have hL := fun W (h : Below w.heap.size w W) (c : Int) => rload_any (hs W h) hk hn c
  have hC := fun W (h : Below w.heap.size w W) (c : Int) => rcontains_any (hs W h) hk c
  have a01 := inB_iff.1 h
  rw [hn] at a01
  obtain ⟨a0, a1⟩ := a01
  have e1 : ioE bs ws a = 0 := by unfold ioE; rw [h]; rfl
  have hL1 := fun W h => hL W h a
  rw [e1] at hL1
  have hL2 := fun W h => hL W h (a + 1)
  have hx := ldU hk a
  have hy := ldU hk (a + 1)
  generalize ldW bs ws a = x at *
  generalize ldW bs ws (a + 1) = y at *
  generalize ioE bs ws (a + 1) = e2 at *
  have hD := fun W => rdecode_no x hx hd W
  clear h e1 hL hC hx hy hd
  rw [hn] at b1
  clear hs hk hn
  have hw0 : Below w.heap.size w w := Below.refl _ _
  go_enter Try.func31, Try.ntmps31
  go_wp2_with fail
  refine (hP _ (by (repeat (first | exact Below.refl _ _ | assumption | refine Below.drew ?_ | refine below_drewN ?_ _ | refine balloc ?_ _ | refine Below.setCell ?_ (by first | (simp; done) | (simp; omega) | omega) _ | refine bchain (by assumption) ?_)))).mono ?_
  rintro e w1 ⟨rfl, hb1⟩
  have hB1 : Below w.heap.size w w1 := by (repeat (first | exact Below.refl _ _ | assumption | refine Below.drew ?_ | refine below_drewN ?_ _ | refine balloc ?_ _ | refine Below.setCell ?_ (by first | (simp; done) | (simp; omega) | omega) _ | refine bchain (by assumption) ?_))
  have k0 : w1.heap[w.heap.size]? = some (.cells #[.int .i64 0, .int .i64 lo, .slice aO nO cO, .int .i64 16777216, .int .i64 ly, .slice aY nY cY] 35 (0, 0)) := bblock hb1 (by repeat (first | exact alloc_at _ (by simp) | refine alloc_lt _ ?_))
  have r : w1.heap[w.heap.size + 1]? = some (.cells #[.int .i64 0, .int .i64 0, .int .i64 0] 23 (0, 0)) := bblock hb1 (by repeat (first | exact alloc_at _ (by simp) | refine alloc_lt _ ?_))
  have hw1 := bchain hB1 hw0
  have hz_k0 : w.heap.size < w1.heap.size := (Array.getElem?_eq_some_iff.1 k0).1
  have hz_r : w.heap.size + 1 < w1.heap.size := (Array.getElem?_eq_some_iff.1 r).1
  clear hB1
  have k0_0 : w1.cell? ⟨w.heap.size, 0, none⟩ = some (.int .i64 0) := by rw [cell_of_block k0]; rfl
  have k0_1 : w1.cell? ⟨w.heap.size, 1, none⟩ = some (.int .i64 lo) := by rw [cell_of_block k0]; rfl
  have k0_2 : w1.cell? ⟨w.heap.size, 2, none⟩ = some (.slice aO nO cO) := by rw [cell_of_block k0]; rfl
  have k0_3 : w1.cell? ⟨w.heap.size, 3, none⟩ = some (.int .i64 16777216) := by rw [cell_of_block k0]; rfl
  have k0_4 : w1.cell? ⟨w.heap.size, 4, none⟩ = some (.int .i64 ly) := by rw [cell_of_block k0]; rfl
  have k0_5 : w1.cell? ⟨w.heap.size, 5, none⟩ = some (.slice aY nY cY) := by rw [cell_of_block k0]; rfl
  have r_0 : w1.cell? ⟨w.heap.size + 1, 0, none⟩ = some (.int .i64 0) := by rw [cell_of_block r]; rfl
  have r_1 : w1.cell? ⟨w.heap.size + 1, 1, none⟩ = some (.int .i64 0) := by rw [cell_of_block r]; rfl
  have r_2 : w1.cell? ⟨w.heap.size + 1, 2, none⟩ = some (.int .i64 0) := by rw [cell_of_block r]; rfl
  have r_f : ∀ i, w1.frozen? ⟨w.heap.size + 1, i, none⟩ = false := frozen_of_block r
  go_wp2_with fail
  refine (hL1 _ (by (repeat (first | exact Below.refl _ _ | assumption | refine Below.drew ?_ | refine below_drewN ?_ _ | refine balloc ?_ _ | refine Below.setCell ?_ (by first | (simp; done) | (simp; omega) | omega) _ | refine bchain (by assumption) ?_)))).mono ?_
  rintro e w2 ⟨rfl, hb2⟩
  have hB2 : Below w1.heap.size w1 w2 := by (repeat (first | exact Below.refl _ _ | assumption | refine Below.drew ?_ | refine below_drewN ?_ _ | refine balloc ?_ _ | refine Below.setCell ?_ (by first | (simp; done) | (simp; omega) | omega) _ | refine bchain (by assumption) ?_))
  have k0 := bblock hB2 k0
  have r := bblock hB2 r
  have s : w2.heap[w1.heap.size]? = some (.cells #[.int .i64 bs, .int .i64 lm, .slice A n cap] 33 (0, 0)) := bblock hb2 (by repeat (first | exact alloc_at _ (by simp) | refine alloc_lt _ ?_))
  have hw2 := bchain hB2 hw1
  clear hz_k0 hz_r
  have hz_k0 : w.heap.size < w2.heap.size := (Array.getElem?_eq_some_iff.1 k0).1
  have hz_r : w.heap.size + 1 < w2.heap.size := (Array.getElem?_eq_some_iff.1 r).1
  have hz_s : w1.heap.size < w2.heap.size := (Array.getElem?_eq_some_iff.1 s).1
  clear hB2
  clear k0_0 k0_1 k0_2 k0_3 k0_4 k0_5 r_0 r_1 r_2 r_f
  have k0_0 : w2.cell? ⟨w.heap.size, 0, none⟩ = some (.int .i64 0) := by rw [cell_of_block k0]; rfl
  have k0_1 : w2.cell? ⟨w.heap.size, 1, none⟩ = some (.int .i64 lo) := by rw [cell_of_block k0]; rfl
  have k0_2 : w2.cell? ⟨w.heap.size, 2, none⟩ = some (.slice aO nO cO) := by rw [cell_of_block k0]; rfl
  have k0_3 : w2.cell? ⟨w.heap.size, 3, none⟩ = some (.int .i64 16777216) := by rw [cell_of_block k0]; rfl
  have k0_4 : w2.cell? ⟨w.heap.size, 4, none⟩ = some (.int .i64 ly) := by rw [cell_of_block k0]; rfl
  have k0_5 : w2.cell? ⟨w.heap.size, 5, none⟩ = some (.slice aY nY cY) := by rw [cell_of_block k0]; rfl
  have r_0 : w2.cell? ⟨w.heap.size + 1, 0, none⟩ = some (.int .i64 0) := by rw [cell_of_block r]; rfl
  have r_1 : w2.cell? ⟨w.heap.size + 1, 1, none⟩ = some (.int .i64 0) := by rw [cell_of_block r]; rfl
  have r_2 : w2.cell? ⟨w.heap.size + 1, 2, none⟩ = some (.int .i64 0) := by rw [cell_of_block r]; rfl
  have r_f : ∀ i, w2.frozen? ⟨w.heap.size + 1, i, none⟩ = false := frozen_of_block r
  have s_0 : w2.cell? ⟨w1.heap.size, 0, none⟩ = some (.int .i64 bs) := by rw [cell_of_block s]; rfl
  have s_1 : w2.cell? ⟨w1.heap.size, 1, none⟩ = some (.int .i64 lm) := by rw [cell_of_block s]; rfl
  have s_2 : w2.cell? ⟨w1.heap.size, 2, none⟩ = some (.slice A n cap) := by rw [cell_of_block s]; rfl
  go_wp2_with fail
  refine (hD _).mono ?_
  rintro e w3 ⟨rfl, hb3⟩
  have hB3 : Below w2.heap.size w2 w3 := by (repeat (first | exact Below.refl _ _ | assumption | refine Below.drew ?_ | refine below_drewN ?_ _ | refine balloc ?_ _ | refine Below.setCell ?_ (by first | (simp; done) | (simp; omega) | omega) _ | refine bchain (by assumption) ?_))
  have k0 := bblock hB3 k0
  have r := bblock hB3 r
  have s := bblock hB3 s
  have hw3 := bchain hB3 hw2
  clear hz_k0 hz_r hz_s
  have hz_k0 : w.heap.size < w3.heap.size := (Array.getElem?_eq_some_iff.1 k0).1
  have hz_r : w.heap.size + 1 < w3.heap.size := (Array.getElem?_eq_some_iff.1 r).1
  have hz_s : w1.heap.size < w3.heap.size := (Array.getElem?_eq_some_iff.1 s).1
  clear hB3
  clear k0_0 k0_1 k0_2 k0_3 k0_4 k0_5 r_0 r_1 r_2 r_f s_0 s_1 s_2
  have k0_0 : w3.cell? ⟨w.heap.size, 0, none⟩ = some (.int .i64 0) := by rw [cell_of_block k0]; rfl
  have k0_1 : w3.cell? ⟨w.heap.size, 1, none⟩ = some (.int .i64 lo) := by rw [cell_of_block k0]; rfl
  have k0_2 : w3.cell? ⟨w.heap.size, 2, none⟩ = some (.slice aO nO cO) := by rw [cell_of_block k0]; rfl
  have k0_3 : w3.cell? ⟨w.heap.size, 3, none⟩ = some (.int .i64 16777216) := by rw [cell_of_block k0]; rfl
  have k0_4 : w3.cell? ⟨w.heap.size, 4, none⟩ = some (.int .i64 ly) := by rw [cell_of_block k0]; rfl
  have k0_5 : w3.cell? ⟨w.heap.size, 5, none⟩ = some (.slice aY nY cY) := by rw [cell_of_block k0]; rfl
  have r_0 : w3.cell? ⟨w.heap.size + 1, 0, none⟩ = some (.int .i64 0) := by rw [cell_of_block r]; rfl
  have r_1 : w3.cell? ⟨w.heap.size + 1, 1, none⟩ = some (.int .i64 0) := by rw [cell_of_block r]; rfl
  have r_2 : w3.cell? ⟨w.heap.size + 1, 2, none⟩ = some (.int .i64 0) := by rw [cell_of_block r]; rfl
  have r_f : ∀ i, w3.frozen? ⟨w.heap.size + 1, i, none⟩ = false := frozen_of_block r
  have s_0 : w3.cell? ⟨w1.heap.size, 0, none⟩ = some (.int .i64 bs) := by rw [cell_of_block s]; rfl
  have s_1 : w3.cell? ⟨w1.heap.size, 1, none⟩ = some (.int .i64 lm) := by rw [cell_of_block s]; rfl
  have s_2 : w3.cell? ⟨w1.heap.size, 2, none⟩ = some (.slice A n cap) := by rw [cell_of_block s]; rfl
  go_wp2_with fail
  refine (hL2 _ (by (repeat (first | exact Below.refl _ _ | assumption | refine Below.drew ?_ | refine below_drewN ?_ _ | refine balloc ?_ _ | refine Below.setCell ?_ (by first | (simp; done) | (simp; omega) | omega) _ | refine bchain (by assumption) ?_)))).mono ?_
  rintro e w4 ⟨rfl, hb4⟩
  have hB4 : Below w3.heap.size w3 w4 := by (repeat (first | exact Below.refl _ _ | assumption | refine Below.drew ?_ | refine below_drewN ?_ _ | refine balloc ?_ _ | refine Below.setCell ?_ (by first | (simp; done) | (simp; omega) | omega) _ | refine bchain (by assumption) ?_))
  have k0 := bblock hB4 k0
  have r := bblock hB4 r
  have s := bblock hB4 s
  have t : w4.heap[w3.heap.size]? = some (.cells #[.int .i64 0, .int .i64 0, .int .i64 0] 23 (0, 0)) := bblock hb4 (by repeat (first | exact alloc_at _ (by simp) | refine alloc_lt _ ?_))
  have hw4 := bchain hB4 hw3
  clear hz_k0 hz_r hz_s
  have hz_k0 : w.heap.size < w4.heap.size := (Array.getElem?_eq_some_iff.1 k0).1
  have hz_r : w.heap.size + 1 < w4.heap.size := (Array.getElem?_eq_some_iff.1 r).1
  have hz_s : w1.heap.size < w4.heap.size := (Array.getElem?_eq_some_iff.1 s).1
  have hz_t : w3.heap.size < w4.heap.size := (Array.getElem?_eq_some_iff.1 t).1
  clear hB4
  clear k0_0 k0_1 k0_2 k0_3 k0_4 k0_5 r_0 r_1 r_2 r_f s_0 s_1 s_2
  have k0_0 : w4.cell? ⟨w.heap.size, 0, none⟩ = some (.int .i64 0) := by rw [cell_of_block k0]; rfl
  have k0_1 : w4.cell? ⟨w.heap.size, 1, none⟩ = some (.int .i64 lo) := by rw [cell_of_block k0]; rfl
  have k0_2 : w4.cell? ⟨w.heap.size, 2, none⟩ = some (.slice aO nO cO) := by rw [cell_of_block k0]; rfl
  have k0_3 : w4.cell? ⟨w.heap.size, 3, none⟩ = some (.int .i64 16777216) := by rw [cell_of_block k0]; rfl
  have k0_4 : w4.cell? ⟨w.heap.size, 4, none⟩ = some (.int .i64 ly) := by rw [cell_of_block k0]; rfl
  have k0_5 : w4.cell? ⟨w.heap.size, 5, none⟩ = some (.slice aY nY cY) := by rw [cell_of_block k0]; rfl
  have r_0 : w4.cell? ⟨w.heap.size + 1, 0, none⟩ = some (.int .i64 0) := by rw [cell_of_block r]; rfl
  have r_1 : w4.cell? ⟨w.heap.size + 1, 1, none⟩ = some (.int .i64 0) := by rw [cell_of_block r]; rfl
  have r_2 : w4.cell? ⟨w.heap.size + 1, 2, none⟩ = some (.int .i64 0) := by rw [cell_of_block r]; rfl
  have r_f : ∀ i, w4.frozen? ⟨w.heap.size + 1, i, none⟩ = false := frozen_of_block r
  have s_0 : w4.cell? ⟨w1.heap.size, 0, none⟩ = some (.int .i64 bs) := by rw [cell_of_block s]; rfl
  have s_1 : w4.cell? ⟨w1.heap.size, 1, none⟩ = some (.int .i64 lm) := by rw [cell_of_block s]; rfl
  have s_2 : w4.cell? ⟨w1.heap.size, 2, none⟩ = some (.slice A n cap) := by rw [cell_of_block s]; rfl
  have t_0 : w4.cell? ⟨w3.heap.size, 0, none⟩ = some (.int .i64 0) := by rw [cell_of_block t]; rfl
  have t_1 : w4.cell? ⟨w3.heap.size, 1, none⟩ = some (.int .i64 0) := by rw [cell_of_block t]; rfl
  have t_2 : w4.cell? ⟨w3.heap.size, 2, none⟩ = some (.int .i64 0) := by rw [cell_of_block t]; rfl
  go_wp2_with fail
  have o_k0_0 : ∀ x, (over w4 x).cell? ⟨w.heap.size, 0, none⟩ = some (.int .i64 0) := over_cell (by assumption)
  have o_k0_1 : ∀ x, (over w4 x).cell? ⟨w.heap.size, 1, none⟩ = some (.int .i64 lo) := over_cell (by assumption)
  have o_k0_2 : ∀ x, (over w4 x).cell? ⟨w.heap.size, 2, none⟩ = some (.slice aO nO cO) := over_cell (by assumption)
  have o_k0_3 : ∀ x, (over w4 x).cell? ⟨w.heap.size, 3, none⟩ = some (.int .i64 16777216) := over_cell (by assumption)
  have o_k0_4 : ∀ x, (over w4 x).cell? ⟨w.heap.size, 4, none⟩ = some (.int .i64 ly) := over_cell (by assumption)
  have o_k0_5 : ∀ x, (over w4 x).cell? ⟨w.heap.size, 5, none⟩ = some (.slice aY nY cY) := over_cell (by assumption)
  have o_r_0 : ∀ x, (over w4 x).cell? ⟨w.heap.size + 1, 0, none⟩ = some (.int .i64 0) := over_cell (by assumption)
  have o_r_1 : ∀ x, (over w4 x).cell? ⟨w.heap.size + 1, 1, none⟩ = some (.int .i64 0) := over_cell (by assumption)
  have o_r_2 : ∀ x, (over w4 x).cell? ⟨w.heap.size + 1, 2, none⟩ = some (.int .i64 0) := over_cell (by assumption)
  have o_s_0 : ∀ x, (over w4 x).cell? ⟨w1.heap.size, 0, none⟩ = some (.int .i64 bs) := over_cell (by assumption)
  have o_s_1 : ∀ x, (over w4 x).cell? ⟨w1.heap.size, 1, none⟩ = some (.int .i64 lm) := over_cell (by assumption)
  have o_s_2 : ∀ x, (over w4 x).cell? ⟨w1.heap.size, 2, none⟩ = some (.slice A n cap) := over_cell (by assumption)
  have o_t_0 : ∀ x, (over w4 x).cell? ⟨w3.heap.size, 0, none⟩ = some (.int .i64 0) := over_cell (by assumption)
  have o_t_1 : ∀ x, (over w4 x).cell? ⟨w3.heap.size, 1, none⟩ = some (.int .i64 0) := over_cell (by assumption)
  have o_t_2 : ∀ x, (over w4 x).cell? ⟨w3.heap.size, 2, none⟩ = some (.int .i64 0) := over_cell (by assumption)
  (refine wp_region_over (by kernel_rfl) (by kernel_rfl) ?_); (repeat (go_big_quiet_step ((first | fail)))); (refine wpQuiet_nil ?_)
  intro w5 hb5
  clear o_k0_0 o_k0_1 o_k0_2 o_k0_3 o_k0_4 o_k0_5 o_r_0 o_r_1 o_r_2 o_s_0 o_s_1 o_s_2 o_t_0 o_t_1 o_t_2
  have hB5 : Below w4.heap.size w4 w5 := by (repeat (first | exact Below.refl _ _ | assumption | refine Below.drew ?_ | refine below_drewN ?_ _ | refine balloc ?_ _ | refine Below.setCell ?_ (by first | (simp; done) | (simp; omega) | omega) _ | refine bchain (by assumption) ?_))
  have k0 := bblock hB5 k0
  have r := bblock hB5 r
  have s := bblock hB5 s
  have t := bblock hB5 t
  have hw5 := bchain hB5 hw4
  clear hz_k0 hz_r hz_s hz_t
  have hz_k0 : w.heap.size < w5.heap.size := (Array.getElem?_eq_some_iff.1 k0).1
  have hz_r : w.heap.size + 1 < w5.heap.size := (Array.getElem?_eq_some_iff.1 r).1
  have hz_s : w1.heap.size < w5.heap.size := (Array.getElem?_eq_some_iff.1 s).1
  have hz_t : w3.heap.size < w5.heap.size := (Array.getElem?_eq_some_iff.1 t).1
  clear hB5
  clear k0_0 k0_1 k0_2 k0_3 k0_4 k0_5 r_0 r_1 r_2 r_f s_0 s_1 s_2 t_0 t_1 t_2
  have k0_0 : w5.cell? ⟨w.heap.size, 0, none⟩ = some (.int .i64 0) := by rw [cell_of_block k0]; rfl
  have k0_1 : w5.cell? ⟨w.heap.size, 1, none⟩ = some (.int .i64 lo) := by rw [cell_of_block k0]; rfl
  have k0_2 : w5.cell? ⟨w.heap.size, 2, none⟩ = some (.slice aO nO cO) := by rw [cell_of_block k0]; rfl
  have k0_3 : w5.cell? ⟨w.heap.size, 3, none⟩ = some (.int .i64 16777216) := by rw [cell_of_block k0]; rfl
  have k0_4 : w5.cell? ⟨w.heap.size, 4, none⟩ = some (.int .i64 ly) := by rw [cell_of_block k0]; rfl
  have k0_5 : w5.cell? ⟨w.heap.size, 5, none⟩ = some (.slice aY nY cY) := by rw [cell_of_block k0]; rfl
  have r_0 : w5.cell? ⟨w.heap.size + 1, 0, none⟩ = some (.int .i64 0) := by rw [cell_of_block r]; rfl
  have r_1 : w5.cell? ⟨w.heap.size + 1, 1, none⟩ = some (.int .i64 0) := by rw [cell_of_block r]; rfl
  have r_2 : w5.cell? ⟨w.heap.size + 1, 2, none⟩ = some (.int .i64 0) := by rw [cell_of_block r]; rfl
  have r_f : ∀ i, w5.frozen? ⟨w.heap.size + 1, i, none⟩ = false := frozen_of_block r
  have s_0 : w5.cell? ⟨w1.heap.size, 0, none⟩ = some (.int .i64 bs) := by rw [cell_of_block s]; rfl
  have s_1 : w5.cell? ⟨w1.heap.size, 1, none⟩ = some (.int .i64 lm) := by rw [cell_of_block s]; rfl
  have s_2 : w5.cell? ⟨w1.heap.size, 2, none⟩ = some (.slice A n cap) := by rw [cell_of_block s]; rfl
  have t_0 : w5.cell? ⟨w3.heap.size, 0, none⟩ = some (.int .i64 0) := by rw [cell_of_block t]; rfl
  have t_1 : w5.cell? ⟨w3.heap.size, 1, none⟩ = some (.int .i64 0) := by rw [cell_of_block t]; rfl
  have t_2 : w5.cell? ⟨w3.heap.size, 2, none⟩ = some (.int .i64 0) := by rw [cell_of_block t]; rfl
  go_wp2
  exact bodyPost_ret (v := .tuple #[.agg #[.int .i64 0, .int .i64 0, .int .i64 0], .int .i64 11]) (by simp [results, Try.results31, go_sem, k0_0, k0_1, k0_2, k0_3, k0_4, k0_5, r_0, r_1, r_2, r_f, s_0, s_1, s_2, t_0, t_1, t_2, hz_k0, hz_r, hz_s, hz_t]) rfl ⟨rfl, by (repeat (first | exact Below.refl _ _ | assumption | refine Below.drew ?_ | refine below_drewN ?_ _ | refine balloc ?_ _ | refine Below.setCell ?_ (by first | (simp; done) | (simp; omega) | omega) _ | refine bchain (by assumption) ?_))⟩
set_option maxRecDepth 100000 in
set_option maxHeartbeats 2000000 in
theorem rhdr_A {w : World} {aO : Option Addr} {nO cO : Nat} {aY : Option Addr} {nY cY : Nat} {lo ly : Int} {A : Option Addr} {n cap : Nat} {bs lm : Int} {ws : List Int} {g : Option Nat} {a : Int} (hP : ∀ W, Below w.heap.size w W → Calls Try.prog 65 #[.agg #[.int .i64 0, .int .i64 lo, .slice aO nO cO, .int .i64 16777216, .int .i64 ly, .slice aY nY cY], .int .i64 a] W fun e w' => e = .returned (.agg #[.int .i64 bs, .int .i64 lm, .slice A n cap]) ∧ Below W.heap.size W w') (hs : ∀ W, Below w.heap.size w W → MdAt W (.agg #[.int .i64 bs, .int .i64 lm, .slice A n cap]) bs lm ws g) (hk : SpOk bs lm ws) (hn : ws.length = n) (h : inB bs ws.length a = true) (hd : decB (ldW bs ws a) = true) (h2 : inB bs ws.length (a + 1) = false) :
    Calls Try.prog 31 #[.agg #[.int .i64 0, .int .i64 lo, .slice aO nO cO, .int .i64 16777216, .int .i64 ly, .slice aY nY cY], .int .i64 a] w fun e w' => e = .returned (.tuple #[.agg #[.int .i64 0, .int .i64 0, .int .i64 0], .int .i64 11]) ∧ Below w.heap.size w w' := by
  have b0 := hk.b0
  have b1 := hk.top
  have b2 := hk.lm1
  have hL := fun W (h : Below w.heap.size w W) (c : Int) => rload_any (hs W h) hk hn c
  have hC := fun W (h : Below w.heap.size w W) (c : Int) => rcontains_any (hs W h) hk c
  have a01 := inB_iff.1 h
  rw [hn] at a01
  obtain ⟨a0, a1⟩ := a01
  have e1 : ioE bs ws a = 0 := by unfold ioE; rw [h]; rfl
  have hL1 := fun W h => hL W h a
  rw [e1] at hL1
  have hL2 := fun W h => hL W h (a + 1)
  have hx := ldU hk a
  have hy := ldU hk (a + 1)
  have e2 : ioE bs ws (a + 1) = 2 := by unfold ioE; rw [h2]; rfl
  rw [e2] at hL2
  generalize ldW bs ws a = x at *
  generalize ldW bs ws (a + 1) = y at *
  have hD := fun W => rdecode_yes x hx hd W
  generalize decK x = kk at *
  generalize decC x = cc at *
  generalize decF x = ff at *
  clear h h2 e1 e2 hL hC hx hy hd
  rw [hn] at b1
  clear hs hk hn
  have hw0 : Below w.heap.size w w := Below.refl _ _
  go_enter Try.func31, Try.ntmps31
  go_wp2_with fail
  refine (hP _ (by (repeat (first | exact Below.refl _ _ | assumption | refine Below.drew ?_ | refine below_drewN ?_ _ | refine balloc ?_ _ | refine Below.setCell ?_ (by first | (simp; done) | (simp; omega) | omega) _ | refine bchain (by assumption) ?_)))).mono ?_
  rintro e w1 ⟨rfl, hb1⟩
  have hB1 : Below w.heap.size w w1 := by (repeat (first | exact Below.refl _ _ | assumption | refine Below.drew ?_ | refine below_drewN ?_ _ | refine balloc ?_ _ | refine Below.setCell ?_ (by first | (simp; done) | (simp; omega) | omega) _ | refine bchain (by assumption) ?_))
  have k0 : w1.heap[w.heap.size]? = some (.cells #[.int .i64 0, .int .i64 lo, .slice aO nO cO, .int .i64 16777216, .int .i64 ly, .slice aY nY cY] 35 (0, 0)) := bblock hb1 (by repeat (first | exact alloc_at _ (by simp) | refine alloc_lt _ ?_))
  have r : w1.heap[w.heap.size + 1]? = some (.cells #[.int .i64 0, .int .i64 0, .int .i64 0] 23 (0, 0)) := bblock hb1 (by repeat (first | exact alloc_at _ (by simp) | refine alloc_lt _ ?_))
  have hw1 := bchain hB1 hw0
  have hz_k0 : w.heap.size < w1.heap.size := (Array.getElem?_eq_some_iff.1 k0).1
  have hz_r : w.heap.size + 1 < w1.heap.size := (Array.getElem?_eq_some_iff.1 r).1
  clear hB1
  have k0_0 : w1.cell? ⟨w.heap.size, 0, none⟩ = some (.int .i64 0) := by rw [cell_of_block k0]; rfl
  have k0_1 : w1.cell? ⟨w.heap.size, 1, none⟩ = some (.int .i64 lo) := by rw [cell_of_block k0]; rfl
  have k0_2 : w1.cell? ⟨w.heap.size, 2, none⟩ = some (.slice aO nO cO) := by rw [cell_of_block k0]; rfl
  have k0_3 : w1.cell? ⟨w.heap.size, 3, none⟩ = some (.int .i64 16777216) := by rw [cell_of_block k0]; rfl
  have k0_4 : w1.cell? ⟨w.heap.size, 4, none⟩ = some (.int .i64 ly) := by rw [cell_of_block k0]; rfl
  have k0_5 : w1.cell? ⟨w.heap.size, 5, none⟩ = some (.slice aY nY cY) := by rw [cell_of_block k0]; rfl
  have r_0 : w1.cell? ⟨w.heap.size + 1, 0, none⟩ = some (.int .i64 0) := by rw [cell_of_block r]; rfl
  have r_1 : w1.cell? ⟨w.heap.size + 1, 1, none⟩ = some (.int .i64 0) := by rw [cell_of_block r]; rfl
  have r_2 : w1.cell? ⟨w.heap.size + 1, 2, none⟩ = some (.int .i64 0) := by rw [cell_of_block r]; rfl
  have r_f : ∀ i, w1.frozen? ⟨w.heap.size + 1, i, none⟩ = false := frozen_of_block r
  go_wp2_with fail
  refine (hL1 _ (by (repeat (first | exact Below.refl _ _ | assumption | refine Below.drew ?_ | refine below_drewN ?_ _ | refine balloc ?_ _ | refine Below.setCell ?_ (by first | (simp; done) | (simp; omega) | omega) _ | refine bchain (by assumption) ?_)))).mono ?_
  rintro e w2 ⟨rfl, hb2⟩
  have hB2 : Below w1.heap.size w1 w2 := by (repeat (first | exact Below.refl _ _ | assumption | refine Below.drew ?_ | refine below_drewN ?_ _ | refine balloc ?_ _ | refine Below.setCell ?_ (by first | (simp; done) | (simp; omega) | omega) _ | refine bchain (by assumption) ?_))
  have k0 := bblock hB2 k0
  have r := bblock hB2 r
  have s : w2.heap[w1.heap.size]? = some (.cells #[.int .i64 bs, .int .i64 lm, .slice A n cap] 33 (0, 0)) := bblock hb2 (by repeat (first | exact alloc_at _ (by simp) | refine alloc_lt _ ?_))
  have hw2 := bchain hB2 hw1
  clear hz_k0 hz_r
  have hz_k0 : w.heap.size < w2.heap.size := (Array.getElem?_eq_some_iff.1 k0).1
  have hz_r : w.heap.size + 1 < w2.heap.size := (Array.getElem?_eq_some_iff.1 r).1
  have hz_s : w1.heap.size < w2.heap.size := (Array.getElem?_eq_some_iff.1 s).1
  clear hB2
  clear k0_0 k0_1 k0_2 k0_3 k0_4 k0_5 r_0 r_1 r_2 r_f
  have k0_0 : w2.cell? ⟨w.heap.size, 0, none⟩ = some (.int .i64 0) := by rw [cell_of_block k0]; rfl
  have k0_1 : w2.cell? ⟨w.heap.size, 1, none⟩ = some (.int .i64 lo) := by rw [cell_of_block k0]; rfl
  have k0_2 : w2.cell? ⟨w.heap.size, 2, none⟩ = some (.slice aO nO cO) := by rw [cell_of_block k0]; rfl
  have k0_3 : w2.cell? ⟨w.heap.size, 3, none⟩ = some (.int .i64 16777216) := by rw [cell_of_block k0]; rfl
  have k0_4 : w2.cell? ⟨w.heap.size, 4, none⟩ = some (.int .i64 ly) := by rw [cell_of_block k0]; rfl
  have k0_5 : w2.cell? ⟨w.heap.size, 5, none⟩ = some (.slice aY nY cY) := by rw [cell_of_block k0]; rfl
  have r_0 : w2.cell? ⟨w.heap.size + 1, 0, none⟩ = some (.int .i64 0) := by rw [cell_of_block r]; rfl
  have r_1 : w2.cell? ⟨w.heap.size + 1, 1, none⟩ = some (.int .i64 0) := by rw [cell_of_block r]; rfl
  have r_2 : w2.cell? ⟨w.heap.size + 1, 2, none⟩ = some (.int .i64 0) := by rw [cell_of_block r]; rfl
  have r_f : ∀ i, w2.frozen? ⟨w.heap.size + 1, i, none⟩ = false := frozen_of_block r
  have s_0 : w2.cell? ⟨w1.heap.size, 0, none⟩ = some (.int .i64 bs) := by rw [cell_of_block s]; rfl
  have s_1 : w2.cell? ⟨w1.heap.size, 1, none⟩ = some (.int .i64 lm) := by rw [cell_of_block s]; rfl
  have s_2 : w2.cell? ⟨w1.heap.size, 2, none⟩ = some (.slice A n cap) := by rw [cell_of_block s]; rfl
  go_wp2_with fail
  refine (hD _).mono ?_
  rintro e w3 ⟨rfl, hb3⟩
  have hB3 : Below w2.heap.size w2 w3 := by (repeat (first | exact Below.refl _ _ | assumption | refine Below.drew ?_ | refine below_drewN ?_ _ | refine balloc ?_ _ | refine Below.setCell ?_ (by first | (simp; done) | (simp; omega) | omega) _ | refine bchain (by assumption) ?_))
  have k0 := bblock hB3 k0
  have r := bblock hB3 r
  have s := bblock hB3 s
  have hw3 := bchain hB3 hw2
  clear hz_k0 hz_r hz_s
  have hz_k0 : w.heap.size < w3.heap.size := (Array.getElem?_eq_some_iff.1 k0).1
  have hz_r : w.heap.size + 1 < w3.heap.size := (Array.getElem?_eq_some_iff.1 r).1
  have hz_s : w1.heap.size < w3.heap.size := (Array.getElem?_eq_some_iff.1 s).1
  clear hB3
  clear k0_0 k0_1 k0_2 k0_3 k0_4 k0_5 r_0 r_1 r_2 r_f s_0 s_1 s_2
  have k0_0 : w3.cell? ⟨w.heap.size, 0, none⟩ = some (.int .i64 0) := by rw [cell_of_block k0]; rfl
  have k0_1 : w3.cell? ⟨w.heap.size, 1, none⟩ = some (.int .i64 lo) := by rw [cell_of_block k0]; rfl
  have k0_2 : w3.cell? ⟨w.heap.size, 2, none⟩ = some (.slice aO nO cO) := by rw [cell_of_block k0]; rfl
  have k0_3 : w3.cell? ⟨w.heap.size, 3, none⟩ = some (.int .i64 16777216) := by rw [cell_of_block k0]; rfl
  have k0_4 : w3.cell? ⟨w.heap.size, 4, none⟩ = some (.int .i64 ly) := by rw [cell_of_block k0]; rfl
  have k0_5 : w3.cell? ⟨w.heap.size, 5, none⟩ = some (.slice aY nY cY) := by rw [cell_of_block k0]; rfl
  have r_0 : w3.cell? ⟨w.heap.size + 1, 0, none⟩ = some (.int .i64 0) := by rw [cell_of_block r]; rfl
  have r_1 : w3.cell? ⟨w.heap.size + 1, 1, none⟩ = some (.int .i64 0) := by rw [cell_of_block r]; rfl
  have r_2 : w3.cell? ⟨w.heap.size + 1, 2, none⟩ = some (.int .i64 0) := by rw [cell_of_block r]; rfl
  have r_f : ∀ i, w3.frozen? ⟨w.heap.size + 1, i, none⟩ = false := frozen_of_block r
  have s_0 : w3.cell? ⟨w1.heap.size, 0, none⟩ = some (.int .i64 bs) := by rw [cell_of_block s]; rfl
  have s_1 : w3.cell? ⟨w1.heap.size, 1, none⟩ = some (.int .i64 lm) := by rw [cell_of_block s]; rfl
  have s_2 : w3.cell? ⟨w1.heap.size, 2, none⟩ = some (.slice A n cap) := by rw [cell_of_block s]; rfl
  go_wp2_with fail
  refine (hL2 _ (by (repeat (first | exact Below.refl _ _ | assumption | refine Below.drew ?_ | refine below_drewN ?_ _ | refine balloc ?_ _ | refine Below.setCell ?_ (by first | (simp; done) | (simp; omega) | omega) _ | refine bchain (by assumption) ?_)))).mono ?_
  rintro e w4 ⟨rfl, hb4⟩
  have hB4 : Below w3.heap.size w3 w4 := by (repeat (first | exact Below.refl _ _ | assumption | refine Below.drew ?_ | refine below_drewN ?_ _ | refine balloc ?_ _ | refine Below.setCell ?_ (by first | (simp; done) | (simp; omega) | omega) _ | refine bchain (by assumption) ?_))
  have k0 := bblock hB4 k0
  have r := bblock hB4 r
  have s := bblock hB4 s
  have t : w4.heap[w3.heap.size]? = some (.cells #[.int .i64 kk, .int .i64 cc, .int .i64 ff] 23 (0, 0)) := bblock hb4 (by repeat (first | exact alloc_at _ (by simp) | refine alloc_lt _ ?_))
  have hw4 := bchain hB4 hw3
  clear hz_k0 hz_r hz_s
  have hz_k0 : w.heap.size < w4.heap.size := (Array.getElem?_eq_some_iff.1 k0).1
  have hz_r : w.heap.size + 1 < w4.heap.size := (Array.getElem?_eq_some_iff.1 r).1
  have hz_s : w1.heap.size < w4.heap.size := (Array.getElem?_eq_some_iff.1 s).1
  have hz_t : w3.heap.size < w4.heap.size := (Array.getElem?_eq_some_iff.1 t).1
  clear hB4
  clear k0_0 k0_1 k0_2 k0_3 k0_4 k0_5 r_0 r_1 r_2 r_f s_0 s_1 s_2
  have k0_0 : w4.cell? ⟨w.heap.size, 0, none⟩ = some (.int .i64 0) := by rw [cell_of_block k0]; rfl
  have k0_1 : w4.cell? ⟨w.heap.size, 1, none⟩ = some (.int .i64 lo) := by rw [cell_of_block k0]; rfl
  have k0_2 : w4.cell? ⟨w.heap.size, 2, none⟩ = some (.slice aO nO cO) := by rw [cell_of_block k0]; rfl
  have k0_3 : w4.cell? ⟨w.heap.size, 3, none⟩ = some (.int .i64 16777216) := by rw [cell_of_block k0]; rfl
  have k0_4 : w4.cell? ⟨w.heap.size, 4, none⟩ = some (.int .i64 ly) := by rw [cell_of_block k0]; rfl
  have k0_5 : w4.cell? ⟨w.heap.size, 5, none⟩ = some (.slice aY nY cY) := by rw [cell_of_block k0]; rfl
  have r_0 : w4.cell? ⟨w.heap.size + 1, 0, none⟩ = some (.int .i64 0) := by rw [cell_of_block r]; rfl
  have r_1 : w4.cell? ⟨w.heap.size + 1, 1, none⟩ = some (.int .i64 0) := by rw [cell_of_block r]; rfl
  have r_2 : w4.cell? ⟨w.heap.size + 1, 2, none⟩ = some (.int .i64 0) := by rw [cell_of_block r]; rfl
  have r_f : ∀ i, w4.frozen? ⟨w.heap.size + 1, i, none⟩ = false := frozen_of_block r
  have s_0 : w4.cell? ⟨w1.heap.size, 0, none⟩ = some (.int .i64 bs) := by rw [cell_of_block s]; rfl
  have s_1 : w4.cell? ⟨w1.heap.size, 1, none⟩ = some (.int .i64 lm) := by rw [cell_of_block s]; rfl
  have s_2 : w4.cell? ⟨w1.heap.size, 2, none⟩ = some (.slice A n cap) := by rw [cell_of_block s]; rfl
  have t_0 : w4.cell? ⟨w3.heap.size, 0, none⟩ = some (.int .i64 kk) := by rw [cell_of_block t]; rfl
  have t_1 : w4.cell? ⟨w3.heap.size, 1, none⟩ = some (.int .i64 cc) := by rw [cell_of_block t]; rfl
  have t_2 : w4.cell? ⟨w3.heap.size, 2, none⟩ = some (.int .i64 ff) := by rw [cell_of_block t]; rfl
  go_wp2_with fail
  have o_k0_0 : ∀ x, (over w4 x).cell? ⟨w.heap.size, 0, none⟩ = some (.int .i64 0) := over_cell (by assumption)
  have o_k0_1 : ∀ x, (over w4 x).cell? ⟨w.heap.size, 1, none⟩ = some (.int .i64 lo) := over_cell (by assumption)
  have o_k0_2 : ∀ x, (over w4 x).cell? ⟨w.heap.size, 2, none⟩ = some (.slice aO nO cO) := over_cell (by assumption)
  have o_k0_3 : ∀ x, (over w4 x).cell? ⟨w.heap.size, 3, none⟩ = some (.int .i64 16777216) := over_cell (by assumption)
  have o_k0_4 : ∀ x, (over w4 x).cell? ⟨w.heap.size, 4, none⟩ = some (.int .i64 ly) := over_cell (by assumption)
  have o_k0_5 : ∀ x, (over w4 x).cell? ⟨w.heap.size, 5, none⟩ = some (.slice aY nY cY) := over_cell (by assumption)
  have o_r_0 : ∀ x, (over w4 x).cell? ⟨w.heap.size + 1, 0, none⟩ = some (.int .i64 0) := over_cell (by assumption)
  have o_r_1 : ∀ x, (over w4 x).cell? ⟨w.heap.size + 1, 1, none⟩ = some (.int .i64 0) := over_cell (by assumption)
  have o_r_2 : ∀ x, (over w4 x).cell? ⟨w.heap.size + 1, 2, none⟩ = some (.int .i64 0) := over_cell (by assumption)
  have o_s_0 : ∀ x, (over w4 x).cell? ⟨w1.heap.size, 0, none⟩ = some (.int .i64 bs) := over_cell (by assumption)
  have o_s_1 : ∀ x, (over w4 x).cell? ⟨w1.heap.size, 1, none⟩ = some (.int .i64 lm) := over_cell (by assumption)
  have o_s_2 : ∀ x, (over w4 x).cell? ⟨w1.heap.size, 2, none⟩ = some (.slice A n cap) := over_cell (by assumption)
  have o_t_0 : ∀ x, (over w4 x).cell? ⟨w3.heap.size, 0, none⟩ = some (.int .i64 kk) := over_cell (by assumption)
  have o_t_1 : ∀ x, (over w4 x).cell? ⟨w3.heap.size, 1, none⟩ = some (.int .i64 cc) := over_cell (by assumption)
  have o_t_2 : ∀ x, (over w4 x).cell? ⟨w3.heap.size, 2, none⟩ = some (.int .i64 ff) := over_cell (by assumption)
  (refine wp_region_over (by kernel_rfl) (by kernel_rfl) ?_); (repeat (go_big_quiet_step ((first | fail)))); (refine wpQuiet_nil ?_)
  intro w5 hb5
  clear o_k0_0 o_k0_1 o_k0_2 o_k0_3 o_k0_4 o_k0_5 o_r_0 o_r_1 o_r_2 o_s_0 o_s_1 o_s_2 o_t_0 o_t_1 o_t_2
  have hB5 : Below w4.heap.size w4 w5 := by (repeat (first | exact Below.refl _ _ | assumption | refine Below.drew ?_ | refine below_drewN ?_ _ | refine balloc ?_ _ | refine Below.setCell ?_ (by first | (simp; done) | (simp; omega) | omega) _ | refine bchain (by assumption) ?_))
  have k0 := bblock hB5 k0
  have r := bblock hB5 r
  have s := bblock hB5 s
  have t := bblock hB5 t
  have hw5 := bchain hB5 hw4
  clear hz_k0 hz_r hz_s hz_t
  have hz_k0 : w.heap.size < w5.heap.size := (Array.getElem?_eq_some_iff.1 k0).1
  have hz_r : w.heap.size + 1 < w5.heap.size := (Array.getElem?_eq_some_iff.1 r).1
  have hz_s : w1.heap.size < w5.heap.size := (Array.getElem?_eq_some_iff.1 s).1
  have hz_t : w3.heap.size < w5.heap.size := (Array.getElem?_eq_some_iff.1 t).1
  clear hB5
  clear k0_0 k0_1 k0_2 k0_3 k0_4 k0_5 r_0 r_1 r_2 r_f s_0 s_1 s_2 t_0 t_1 t_2
  have k0_0 : w5.cell? ⟨w.heap.size, 0, none⟩ = some (.int .i64 0) := by rw [cell_of_block k0]; rfl
  have k0_1 : w5.cell? ⟨w.heap.size, 1, none⟩ = some (.int .i64 lo) := by rw [cell_of_block k0]; rfl
  have k0_2 : w5.cell? ⟨w.heap.size, 2, none⟩ = some (.slice aO nO cO) := by rw [cell_of_block k0]; rfl
  have k0_3 : w5.cell? ⟨w.heap.size, 3, none⟩ = some (.int .i64 16777216) := by rw [cell_of_block k0]; rfl
  have k0_4 : w5.cell? ⟨w.heap.size, 4, none⟩ = some (.int .i64 ly) := by rw [cell_of_block k0]; rfl
  have k0_5 : w5.cell? ⟨w.heap.size, 5, none⟩ = some (.slice aY nY cY) := by rw [cell_of_block k0]; rfl
  have r_0 : w5.cell? ⟨w.heap.size + 1, 0, none⟩ = some (.int .i64 0) := by rw [cell_of_block r]; rfl
  have r_1 : w5.cell? ⟨w.heap.size + 1, 1, none⟩ = some (.int .i64 0) := by rw [cell_of_block r]; rfl
  have r_2 : w5.cell? ⟨w.heap.size + 1, 2, none⟩ = some (.int .i64 0) := by rw [cell_of_block r]; rfl
  have r_f : ∀ i, w5.frozen? ⟨w.heap.size + 1, i, none⟩ = false := frozen_of_block r
  have s_0 : w5.cell? ⟨w1.heap.size, 0, none⟩ = some (.int .i64 bs) := by rw [cell_of_block s]; rfl
  have s_1 : w5.cell? ⟨w1.heap.size, 1, none⟩ = some (.int .i64 lm) := by rw [cell_of_block s]; rfl
  have s_2 : w5.cell? ⟨w1.heap.size, 2, none⟩ = some (.slice A n cap) := by rw [cell_of_block s]; rfl
  have t_0 : w5.cell? ⟨w3.heap.size, 0, none⟩ = some (.int .i64 kk) := by rw [cell_of_block t]; rfl
  have t_1 : w5.cell? ⟨w3.heap.size, 1, none⟩ = some (.int .i64 cc) := by rw [cell_of_block t]; rfl
  have t_2 : w5.cell? ⟨w3.heap.size, 2, none⟩ = some (.int .i64 ff) := by rw [cell_of_block t]; rfl
  go_wp2
  exact bodyPost_ret (v := .tuple #[.agg #[.int .i64 0, .int .i64 0, .int .i64 0], .int .i64 11]) (by simp [results, Try.results31, go_sem, k0_0, k0_1, k0_2, k0_3, k0_4, k0_5, r_0, r_1, r_2, r_f, s_0, s_1, s_2, t_0, t_1, t_2, hz_k0, hz_r, hz_s, hz_t]) rfl ⟨rfl, by (repeat (first | exact Below.refl _ _ | assumption | refine Below.drew ?_ | refine below_drewN ?_ _ | refine balloc ?_ _ | refine Below.setCell ?_ (by first | (simp; done) | (simp; omega) | omega) _ | refine bchain (by assumption) ?_))⟩
set_option maxRecDepth 100000 in
set_option maxHeartbeats 2000000 in
theorem rhdr_C {w : World} {aO : Option Addr} {nO cO : Nat} {aY : Option Addr} {nY cY : Nat} {lo ly : Int} {A : Option Addr} {n cap : Nat} {bs lm : Int} {ws : List Int} {g : Option Nat} {a : Int} (hP : ∀ W, Below w.heap.size w W → Calls Try.prog 65 #[.agg #[.int .i64 0, .int .i64 lo, .slice aO nO cO, .int .i64 16777216, .int .i64 ly, .slice aY nY cY], .int .i64 a] W fun e w' => e = .returned (.agg #[.int .i64 bs, .int .i64 lm, .slice A n cap]) ∧ Below W.heap.size W w') (hs : ∀ W, Below w.heap.size w W → MdAt W (.agg #[.int .i64 bs, .int .i64 lm, .slice A n cap]) bs lm ws g) (hk : SpOk bs lm ws) (hn : ws.length = n) (h : inB bs ws.length a = true) (h2 : inB bs ws.length (a + 1) = true) (hd : decB (ldW bs ws a) = true) (hi : didB (ldW bs ws (a + 1)) = false) :
    Calls Try.prog 31 #[.agg #[.int .i64 0, .int .i64 lo, .slice aO nO cO, .int .i64 16777216, .int .i64 ly, .slice aY nY cY], .int .i64 a] w fun e w' => e = .returned (.tuple #[.agg #[.int .i64 0, .int .i64 0, .int .i64 0], .int .i64 11]) ∧ Below w.heap.size w w' := by
  have b0 := hk.b0
  have b1 := hk.top
  have b2 := hk.lm1
  have hL := fun W (h : Below w.heap.size w W) (c : Int) => rload_any (hs W h) hk hn c
  have hC := fun W (h : Below w.heap.size w W) (c : Int) => rcontains_any (hs W h) hk c
  have a01 := inB_iff.1 h
  rw [hn] at a01
  obtain ⟨a0, a1⟩ := a01
  have e1 : ioE bs ws a = 0 := by unfold ioE; rw [h]; rfl
  have hL1 := fun W h => hL W h a
  rw [e1] at hL1
  have hL2 := fun W h => hL W h (a + 1)
  have hx := ldU hk a
  have hy := ldU hk (a + 1)
  have e2 : ioE bs ws (a + 1) = 0 := by unfold ioE; rw [h2]; rfl
  rw [e2] at hL2
  generalize ldW bs ws a = x at *
  generalize ldW bs ws (a + 1) = y at *
  have hD := fun W => rdecode_yes x hx hd W
  have hI := fun W => rdecodeID_no y hy hi W
  generalize decK x = kk at *
  generalize decC x = cc at *
  generalize decF x = ff at *
  clear h h2 e1 e2 hL hC hx hy hd hi
  rw [hn] at b1
  clear hs hk hn
  have hw0 : Below w.heap.size w w := Below.refl _ _
  go_enter Try.func31, Try.ntmps31
  go_wp2_with fail
  refine (hP _ (by (repeat (first | exact Below.refl _ _ | assumption | refine Below.drew ?_ | refine below_drewN ?_ _ | refine balloc ?_ _ | refine Below.setCell ?_ (by first | (simp; done) | (simp; omega) | omega) _ | refine bchain (by assumption) ?_)))).mono ?_
  rintro e w1 ⟨rfl, hb1⟩
  have hB1 : Below w.heap.size w w1 := by (repeat (first | exact Below.refl _ _ | assumption | refine Below.drew ?_ | refine below_drewN ?_ _ | refine balloc ?_ _ | refine Below.setCell ?_ (by first | (simp; done) | (simp; omega) | omega) _ | refine bchain (by assumption) ?_))
  have k0 : w1.heap[w.heap.size]? = some (.cells #[.int .i64 0, .int .i64 lo, .slice aO nO cO, .int .i64 16777216, .int .i64 ly, .slice aY nY cY] 35 (0, 0)) := bblock hb1 (by repeat (first | exact alloc_at _ (by simp) | refine alloc_lt _ ?_))
  have r : w1.heap[w.heap.size + 1]? = some (.cells #[.int .i64 0, .int .i64 0, .int .i64 0] 23 (0, 0)) := bblock hb1 (by repeat (first | exact alloc_at _ (by simp) | refine alloc_lt _ ?_))
  have hw1 := bchain hB1 hw0
  have hz_k0 : w.heap.size < w1.heap.size := (Array.getElem?_eq_some_iff.1 k0).1
  have hz_r : w.heap.size + 1 < w1.heap.size := (Array.getElem?_eq_some_iff.1 r).1
  clear hB1
  have k0_0 : w1.cell? ⟨w.heap.size, 0, none⟩ = some (.int .i64 0) := by rw [cell_of_block k0]; rfl
  have k0_1 : w1.cell? ⟨w.heap.size, 1, none⟩ = some (.int .i64 lo) := by rw [cell_of_block k0]; rfl
  have k0_2 : w1.cell? ⟨w.heap.size, 2, none⟩ = some (.slice aO nO cO) := by rw [cell_of_block k0]; rfl
  have k0_3 : w1.cell? ⟨w.heap.size, 3, none⟩ = some (.int .i64 16777216) := by rw [cell_of_block k0]; rfl
  have k0_4 : w1.cell? ⟨w.heap.size, 4, none⟩ = some (.int .i64 ly) := by rw [cell_of_block k0]; rfl
  have k0_5 : w1.cell? ⟨w.heap.size, 5, none⟩ = some (.slice aY nY cY) := by rw [cell_of_block k0]; rfl
  have r_0 : w1.cell? ⟨w.heap.size + 1, 0, none⟩ = some (.int .i64 0) := by rw [cell_of_block r]; rfl
  have r_1 : w1.cell? ⟨w.heap.size + 1, 1, none⟩ = some (.int .i64 0) := by rw [cell_of_block r]; rfl
  have r_2 : w1.cell? ⟨w.heap.size + 1, 2, none⟩ = some (.int .i64 0) := by rw [cell_of_block r]; rfl
  have r_f : ∀ i, w1.frozen? ⟨w.heap.size + 1, i, none⟩ = false := frozen_of_block r
  go_wp2_with fail
  refine (hL1 _ (by (repeat (first | exact Below.refl _ _ | assumption | refine Below.drew ?_ | refine below_drewN ?_ _ | refine balloc ?_ _ | refine Below.setCell ?_ (by first | (simp; done) | (simp; omega) | omega) _ | refine bchain (by assumption) ?_)))).mono ?_
  rintro e w2 ⟨rfl, hb2⟩
  have hB2 : Below w1.heap.size w1 w2 := by (repeat (first | exact Below.refl _ _ | assumption | refine Below.drew ?_ | refine below_drewN ?_ _ | refine balloc ?_ _ | refine Below.setCell ?_ (by first | (simp; done) | (simp; omega) | omega) _ | refine bchain (by assumption) ?_))
  have k0 := bblock hB2 k0
  have r := bblock hB2 r
  have s : w2.heap[w1.heap.size]? = some (.cells #[.int .i64 bs, .int .i64 lm, .slice A n cap] 33 (0, 0)) := bblock hb2 (by repeat (first | exact alloc_at _ (by simp) | refine alloc_lt _ ?_))
  have hw2 := bchain hB2 hw1
  clear hz_k0 hz_r
  have hz_k0 : w.heap.size < w2.heap.size := (Array.getElem?_eq_some_iff.1 k0).1
  have hz_r : w.heap.size + 1 < w2.heap.size := (Array.getElem?_eq_some_iff.1 r).1
  have hz_s : w1.heap.size < w2.heap.size := (Array.getElem?_eq_some_iff.1 s).1
  clear hB2
  clear k0_0 k0_1 k0_2 k0_3 k0_4 k0_5 r_0 r_1 r_2 r_f
  have k0_0 : w2.cell? ⟨w.heap.size, 0, none⟩ = some (.int .i64 0) := by rw [cell_of_block k0]; rfl
  have k0_1 : w2.cell? ⟨w.heap.size, 1, none⟩ = some (.int .i64 lo) := by rw [cell_of_block k0]; rfl
  have k0_2 : w2.cell? ⟨w.heap.size, 2, none⟩ = some (.slice aO nO cO) := by rw [cell_of_block k0]; rfl
  have k0_3 : w2.cell? ⟨w.heap.size, 3, none⟩ = some (.int .i64 16777216) := by rw [cell_of_block k0]; rfl
  have k0_4 : w2.cell? ⟨w.heap.size, 4, none⟩ = some (.int .i64 ly) := by rw [cell_of_block k0]; rfl
  have k0_5 : w2.cell? ⟨w.heap.size, 5, none⟩ = some (.slice aY nY cY) := by rw [cell_of_block k0]; rfl
  have r_0 : w2.cell? ⟨w.heap.size + 1, 0, none⟩ = some (.int .i64 0) := by rw [cell_of_block r]; rfl
  have r_1 : w2.cell? ⟨w.heap.size + 1, 1, none⟩ = some (.int .i64 0) := by rw [cell_of_block r]; rfl
  have r_2 : w2.cell? ⟨w.heap.size + 1, 2, none⟩ = some (.int .i64 0) := by rw [cell_of_block r]; rfl
  have r_f : ∀ i, w2.frozen? ⟨w.heap.size + 1, i, none⟩ = false := frozen_of_block r
  have s_0 : w2.cell? ⟨w1.heap.size, 0, none⟩ = some (.int .i64 bs) := by rw [cell_of_block s]; rfl
  have s_1 : w2.cell? ⟨w1.heap.size, 1, none⟩ = some (.int .i64 lm) := by rw [cell_of_block s]; rfl
  have s_2 : w2.cell? ⟨w1.heap.size, 2, none⟩ = some (.slice A n cap) := by rw [cell_of_block s]; rfl
  go_wp2_with fail
  refine (hD _).mono ?_
  rintro e w3 ⟨rfl, hb3⟩
  have hB3 : Below w2.heap.size w2 w3 := by (repeat (first | exact Below.refl _ _ | assumption | refine Below.drew ?_ | refine below_drewN ?_ _ | refine balloc ?_ _ | refine Below.setCell ?_ (by first | (simp; done) | (simp; omega) | omega) _ | refine bchain (by assumption) ?_))
  have k0 := bblock hB3 k0
  have r := bblock hB3 r
  have s := bblock hB3 s
  have hw3 := bchain hB3 hw2
  clear hz_k0 hz_r hz_s
  have hz_k0 : w.heap.size < w3.heap.size := (Array.getElem?_eq_some_iff.1 k0).1
  have hz_r : w.heap.size + 1 < w3.heap.size := (Array.getElem?_eq_some_iff.1 r).1
  have hz_s : w1.heap.size < w3.heap.size := (Array.getElem?_eq_some_iff.1 s).1
  clear hB3
  clear k0_0 k0_1 k0_2 k0_3 k0_4 k0_5 r_0 r_1 r_2 r_f s_0 s_1 s_2
  have k0_0 : w3.cell? ⟨w.heap.size, 0, none⟩ = some (.int .i64 0) := by rw [cell_of_block k0]; rfl
  have k0_1 : w3.cell? ⟨w.heap.size, 1, none⟩ = some (.int .i64 lo) := by rw [cell_of_block k0]; rfl
  have k0_2 : w3.cell? ⟨w.heap.size, 2, none⟩ = some (.slice aO nO cO) := by rw [cell_of_block k0]; rfl
  have k0_3 : w3.cell? ⟨w.heap.size, 3, none⟩ = some (.int .i64 16777216) := by rw [cell_of_block k0]; rfl
  have k0_4 : w3.cell? ⟨w.heap.size, 4, none⟩ = some (.int .i64 ly) := by rw [cell_of_block k0]; rfl
  have k0_5 : w3.cell? ⟨w.heap.size, 5, none⟩ = some (.slice aY nY cY) := by rw [cell_of_block k0]; rfl
  have r_0 : w3.cell? ⟨w.heap.size + 1, 0, none⟩ = some (.int .i64 0) := by rw [cell_of_block r]; rfl
  have r_1 : w3.cell? ⟨w.heap.size + 1, 1, none⟩ = some (.int .i64 0) := by rw [cell_of_block r]; rfl
  have r_2 : w3.cell? ⟨w.heap.size + 1, 2, none⟩ = some (.int .i64 0) := by rw [cell_of_block r]; rfl
  have r_f : ∀ i, w3.frozen? ⟨w.heap.size + 1, i, none⟩ = false := frozen_of_block r
  have s_0 : w3.cell? ⟨w1.heap.size, 0, none⟩ = some (.int .i64 bs) := by rw [cell_of_block s]; rfl
  have s_1 : w3.cell? ⟨w1.heap.size, 1, none⟩ = some (.int .i64 lm) := by rw [cell_of_block s]; rfl
  have s_2 : w3.cell? ⟨w1.heap.size, 2, none⟩ = some (.slice A n cap) := by rw [cell_of_block s]; rfl
  go_wp2_with fail
  refine (hL2 _ (by (repeat (first | exact Below.refl _ _ | assumption | refine Below.drew ?_ | refine below_drewN ?_ _ | refine balloc ?_ _ | refine Below.setCell ?_ (by first | (simp; done) | (simp; omega) | omega) _ | refine bchain (by assumption) ?_)))).mono ?_
  rintro e w4 ⟨rfl, hb4⟩
  have hB4 : Below w3.heap.size w3 w4 := by (repeat (first | exact Below.refl _ _ | assumption | refine Below.drew ?_ | refine below_drewN ?_ _ | refine balloc ?_ _ | refine Below.setCell ?_ (by first | (simp; done) | (simp; omega) | omega) _ | refine bchain (by assumption) ?_))
  have k0 := bblock hB4 k0
  have r := bblock hB4 r
  have s := bblock hB4 s
  have t : w4.heap[w3.heap.size]? = some (.cells #[.int .i64 kk, .int .i64 cc, .int .i64 ff] 23 (0, 0)) := bblock hb4 (by repeat (first | exact alloc_at _ (by simp) | refine alloc_lt _ ?_))
  have hw4 := bchain hB4 hw3
  clear hz_k0 hz_r hz_s
  have hz_k0 : w.heap.size < w4.heap.size := (Array.getElem?_eq_some_iff.1 k0).1
  have hz_r : w.heap.size + 1 < w4.heap.size := (Array.getElem?_eq_some_iff.1 r).1
  have hz_s : w1.heap.size < w4.heap.size := (Array.getElem?_eq_some_iff.1 s).1
  have hz_t : w3.heap.size < w4.heap.size := (Array.getElem?_eq_some_iff.1 t).1
  clear hB4
  clear k0_0 k0_1 k0_2 k0_3 k0_4 k0_5 r_0 r_1 r_2 r_f s_0 s_1 s_2
  have k0_0 : w4.cell? ⟨w.heap.size, 0, none⟩ = some (.int .i64 0) := by rw [cell_of_block k0]; rfl
  have k0_1 : w4.cell? ⟨w.heap.size, 1, none⟩ = some (.int .i64 lo) := by rw [cell_of_block k0]; rfl
  have k0_2 : w4.cell? ⟨w.heap.size, 2, none⟩ = some (.slice aO nO cO) := by rw [cell_of_block k0]; rfl
  have k0_3 : w4.cell? ⟨w.heap.size, 3, none⟩ = some (.int .i64 16777216) := by rw [cell_of_block k0]; rfl
  have k0_4 : w4.cell? ⟨w.heap.size, 4, none⟩ = some (.int .i64 ly) := by rw [cell_of_block k0]; rfl
  have k0_5 : w4.cell? ⟨w.heap.size, 5, none⟩ = some (.slice aY nY cY) := by rw [cell_of_block k0]; rfl
  have r_0 : w4.cell? ⟨w.heap.size + 1, 0, none⟩ = some (.int .i64 0) := by rw [cell_of_block r]; rfl
  have r_1 : w4.cell? ⟨w.heap.size + 1, 1, none⟩ = some (.int .i64 0) := by rw [cell_of_block r]; rfl
  have r_2 : w4.cell? ⟨w.heap.size + 1, 2, none⟩ = some (.int .i64 0) := by rw [cell_of_block r]; rfl
  have r_f : ∀ i, w4.frozen? ⟨w.heap.size + 1, i, none⟩ = false := frozen_of_block r
  have s_0 : w4.cell? ⟨w1.heap.size, 0, none⟩ = some (.int .i64 bs) := by rw [cell_of_block s]; rfl
  have s_1 : w4.cell? ⟨w1.heap.size, 1, none⟩ = some (.int .i64 lm) := by rw [cell_of_block s]; rfl
  have s_2 : w4.cell? ⟨w1.heap.size, 2, none⟩ = some (.slice A n cap) := by rw [cell_of_block s]; rfl
  have t_0 : w4.cell? ⟨w3.heap.size, 0, none⟩ = some (.int .i64 kk) := by rw [cell_of_block t]; rfl
  have t_1 : w4.cell? ⟨w3.heap.size, 1, none⟩ = some (.int .i64 cc) := by rw [cell_of_block t]; rfl
  have t_2 : w4.cell? ⟨w3.heap.size, 2, none⟩ = some (.int .i64 ff) := by rw [cell_of_block t]; rfl
  go_wp2_with fail
  have o_k0_0 : ∀ x, (over w4 x).cell? ⟨w.heap.size, 0, none⟩ = some (.int .i64 0) := over_cell (by assumption)
  have o_k0_1 : ∀ x, (over w4 x).cell? ⟨w.heap.size, 1, none⟩ = some (.int .i64 lo) := over_cell (by assumption)
  have o_k0_2 : ∀ x, (over w4 x).cell? ⟨w.heap.size, 2, none⟩ = some (.slice aO nO cO) := over_cell (by assumption)
  have o_k0_3 : ∀ x, (over w4 x).cell? ⟨w.heap.size, 3, none⟩ = some (.int .i64 16777216) := over_cell (by assumption)
  have o_k0_4 : ∀ x, (over w4 x).cell? ⟨w.heap.size, 4, none⟩ = some (.int .i64 ly) := over_cell (by assumption)
  have o_k0_5 : ∀ x, (over w4 x).cell? ⟨w.heap.size, 5, none⟩ = some (.slice aY nY cY) := over_cell (by assumption)
  have o_r_0 : ∀ x, (over w4 x).cell? ⟨w.heap.size + 1, 0, none⟩ = some (.int .i64 0) := over_cell (by assumption)
  have o_r_1 : ∀ x, (over w4 x).cell? ⟨w.heap.size + 1, 1, none⟩ = some (.int .i64 0) := over_cell (by assumption)
  have o_r_2 : ∀ x, (over w4 x).cell? ⟨w.heap.size + 1, 2, none⟩ = some (.int .i64 0) := over_cell (by assumption)
  have o_s_0 : ∀ x, (over w4 x).cell? ⟨w1.heap.size, 0, none⟩ = some (.int .i64 bs) := over_cell (by assumption)
  have o_s_1 : ∀ x, (over w4 x).cell? ⟨w1.heap.size, 1, none⟩ = some (.int .i64 lm) := over_cell (by assumption)
  have o_s_2 : ∀ x, (over w4 x).cell? ⟨w1.heap.size, 2, none⟩ = some (.slice A n cap) := over_cell (by assumption)
  have o_t_0 : ∀ x, (over w4 x).cell? ⟨w3.heap.size, 0, none⟩ = some (.int .i64 kk) := over_cell (by assumption)
  have o_t_1 : ∀ x, (over w4 x).cell? ⟨w3.heap.size, 1, none⟩ = some (.int .i64 cc) := over_cell (by assumption)
  have o_t_2 : ∀ x, (over w4 x).cell? ⟨w3.heap.size, 2, none⟩ = some (.int .i64 ff) := over_cell (by assumption)
  (refine wp_region_over (by kernel_rfl) (by kernel_rfl) ?_); (repeat (go_big_quiet_step ((first | (go_at_call 67; exact calls_over (hI _)))))); (refine wpQuiet_nil ?_)
  intro w5 hb5
  clear o_k0_0 o_k0_1 o_k0_2 o_k0_3 o_k0_4 o_k0_5 o_r_0 o_r_1 o_r_2 o_s_0 o_s_1 o_s_2 o_t_0 o_t_1 o_t_2
  have hB5 : Below w4.heap.size w4 w5 := by (repeat (first | exact Below.refl _ _ | assumption | refine Below.drew ?_ | refine below_drewN ?_ _ | refine balloc ?_ _ | refine Below.setCell ?_ (by first | (simp; done) | (simp; omega) | omega) _ | refine bchain (by assumption) ?_))
  have k0 := bblock hB5 k0
  have r := bblock hB5 r
  have s := bblock hB5 s
  have t := bblock hB5 t
  have hw5 := bchain hB5 hw4
  clear hz_k0 hz_r hz_s hz_t
  have hz_k0 : w.heap.size < w5.heap.size := (Array.getElem?_eq_some_iff.1 k0).1
  have hz_r : w.heap.size + 1 < w5.heap.size := (Array.getElem?_eq_some_iff.1 r).1
  have hz_s : w1.heap.size < w5.heap.size := (Array.getElem?_eq_some_iff.1 s).1
  have hz_t : w3.heap.size < w5.heap.size := (Array.getElem?_eq_some_iff.1 t).1
  clear hB5
  clear k0_0 k0_1 k0_2 k0_3 k0_4 k0_5 r_0 r_1 r_2 r_f s_0 s_1 s_2 t_0 t_1 t_2
  have k0_0 : w5.cell? ⟨w.heap.size, 0, none⟩ = some (.int .i64 0) := by rw [cell_of_block k0]; rfl
  have k0_1 : w5.cell? ⟨w.heap.size, 1, none⟩ = some (.int .i64 lo) := by rw [cell_of_block k0]; rfl
  have k0_2 : w5.cell? ⟨w.heap.size, 2, none⟩ = some (.slice aO nO cO) := by rw [cell_of_block k0]; rfl
  have k0_3 : w5.cell? ⟨w.heap.size, 3, none⟩ = some (.int .i64 16777216) := by rw [cell_of_block k0]; rfl
  have k0_4 : w5.cell? ⟨w.heap.size, 4, none⟩ = some (.int .i64 ly) := by rw [cell_of_block k0]; rfl
  have k0_5 : w5.cell? ⟨w.heap.size, 5, none⟩ = some (.slice aY nY cY) := by rw [cell_of_block k0]; rfl
  have r_0 : w5.cell? ⟨w.heap.size + 1, 0, none⟩ = some (.int .i64 0) := by rw [cell_of_block r]; rfl
  have r_1 : w5.cell? ⟨w.heap.size + 1, 1, none⟩ = some (.int .i64 0) := by rw [cell_of_block r]; rfl
  have r_2 : w5.cell? ⟨w.heap.size + 1, 2, none⟩ = some (.int .i64 0) := by rw [cell_of_block r]; rfl
  have r_f : ∀ i, w5.frozen? ⟨w.heap.size + 1, i, none⟩ = false := frozen_of_block r
  have s_0 : w5.cell? ⟨w1.heap.size, 0, none⟩ = some (.int .i64 bs) := by rw [cell_of_block s]; rfl
  have s_1 : w5.cell? ⟨w1.heap.size, 1, none⟩ = some (.int .i64 lm) := by rw [cell_of_block s]; rfl
  have s_2 : w5.cell? ⟨w1.heap.size, 2, none⟩ = some (.slice A n cap) := by rw [cell_of_block s]; rfl
  have t_0 : w5.cell? ⟨w3.heap.size, 0, none⟩ = some (.int .i64 kk) := by rw [cell_of_block t]; rfl
  have t_1 : w5.cell? ⟨w3.heap.size, 1, none⟩ = some (.int .i64 cc) := by rw [cell_of_block t]; rfl
  have t_2 : w5.cell? ⟨w3.heap.size, 2, none⟩ = some (.int .i64 ff) := by rw [cell_of_block t]; rfl
  go_wp2
  exact bodyPost_ret (v := .tuple #[.agg #[.int .i64 0, .int .i64 0, .int .i64 0], .int .i64 11]) (by simp [results, Try.results31, go_sem, k0_0, k0_1, k0_2, k0_3, k0_4, k0_5, r_0, r_1, r_2, r_f, s_0, s_1, s_2, t_0, t_1, t_2, hz_k0, hz_r, hz_s, hz_t]) rfl ⟨rfl, by (repeat (first | exact Below.refl _ _ | assumption | refine Below.drew ?_ | refine below_drewN ?_ _ | refine balloc ?_ _ | refine Below.setCell ?_ (by first | (simp; done) | (simp; omega) | omega) _ | refine bchain (by assumption) ?_))⟩
set_option maxRecDepth 100000 in
set_option maxHeartbeats 2000000 in
theorem rhdr_D {w : World} {aO : Option Addr} {nO cO : Nat} {aY : Option Addr} {nY cY : Nat} {lo ly : Int} {A : Option Addr} {n cap : Nat} {bs lm : Int} {ws : List Int} {g : Option Nat} {a : Int} (hP : ∀ W, Below w.heap.size w W → Calls Try.prog 65 #[.agg #[.int .i64 0, .int .i64 lo, .slice aO nO cO, .int .i64 16777216, .int .i64 ly, .slice aY nY cY], .int .i64 a] W fun e w' => e = .returned (.agg #[.int .i64 bs, .int .i64 lm, .slice A n cap]) ∧ Below W.heap.size W w') (hs : ∀ W, Below w.heap.size w W → MdAt W (.agg #[.int .i64 bs, .int .i64 lm, .slice A n cap]) bs lm ws g) (hk : SpOk bs lm ws) (hn : ws.length = n) (h : inB bs ws.length a = true) (h2 : inB bs ws.length (a + 1) = true) (hd : decB (ldW bs ws a) = true) (hi : didB (ldW bs ws (a + 1)) = true) (hc : inB bs ws.length (a + wordsI (decF (ldW bs ws a)) - 1) = false) :
    Calls Try.prog 31 #[.agg #[.int .i64 0, .int .i64 lo, .slice aO nO cO, .int .i64 16777216, .int .i64 ly, .slice aY nY cY], .int .i64 a] w fun e w' => e = .returned (.tuple #[.agg #[.int .i64 0, .int .i64 0, .int .i64 0], .int .i64 11]) ∧ Below w.heap.size w w' := by
  have b0 := hk.b0
  have b1 := hk.top
  have b2 := hk.lm1
  have hL := fun W (h : Below w.heap.size w W) (c : Int) => rload_any (hs W h) hk hn c
  have hC := fun W (h : Below w.heap.size w W) (c : Int) => rcontains_any (hs W h) hk c
  have a01 := inB_iff.1 h
  rw [hn] at a01
  obtain ⟨a0, a1⟩ := a01
  have e1 : ioE bs ws a = 0 := by unfold ioE; rw [h]; rfl
  have hL1 := fun W h => hL W h a
  rw [e1] at hL1
  have hL2 := fun W h => hL W h (a + 1)
  have hx := ldU hk a
  have hy := ldU hk (a + 1)
  have e2 : ioE bs ws (a + 1) = 0 := by unfold ioE; rw [h2]; rfl
  rw [e2] at hL2
  generalize ldW bs ws a = x at *
  generalize ldW bs ws (a + 1) = y at *
  have hD := fun W => rdecode_yes x hx hd W
  have hI := fun W => rdecodeID_yes y hy hi W
  have hW := fun W => rwords_yes (decK x) (decC x) (decF x) (decB_iff.1 hd).1 W
  have hC1 := fun W h => hC W h (a + wordsI (decF x) - 1)
  rw [hc] at hC1
  have d5 := idB_iff.1 (show idB (didM y) (didS y) = true from hi)
  obtain ⟨y0, y1, y2⟩ := wordsI_bd (decB_iff.1 hd).1
  generalize didM y = ym at *
  generalize didS y = ys at *
  generalize decK x = kk at *
  generalize decC x = cc at *
  generalize decF x = ff at *
  generalize wordsI ff = sz at *
  have wr1 : IntKind.i64.wrap (a + sz) = a + sz := IntWalk.i64_in _ (by omega)
  have wr2 : IntKind.i64.wrap (a + sz - 1) = a + sz - 1 := IntWalk.i64_in _ (by omega)
  clear h h2 e1 e2 hL hC hx hy hd hi hc
  rw [hn] at b1
  clear hs hk hn
  have hw0 : Below w.heap.size w w := Below.refl _ _
  go_enter Try.func31, Try.ntmps31
  go_wp2_with fail
  refine (hP _ (by (repeat (first | exact Below.refl _ _ | assumption | refine Below.drew ?_ | refine below_drewN ?_ _ | refine balloc ?_ _ | refine Below.setCell ?_ (by first | (simp; done) | (simp; omega) | omega) _ | refine bchain (by assumption) ?_)))).mono ?_
  rintro e w1 ⟨rfl, hb1⟩
  have hB1 : Below w.heap.size w w1 := by (repeat (first | exact Below.refl _ _ | assumption | refine Below.drew ?_ | refine below_drewN ?_ _ | refine balloc ?_ _ | refine Below.setCell ?_ (by first | (simp; done) | (simp; omega) | omega) _ | refine bchain (by assumption) ?_))
  have k0 : w1.heap[w.heap.size]? = some (.cells #[.int .i64 0, .int .i64 lo, .slice aO nO cO, .int .i64 16777216, .int .i64 ly, .slice aY nY cY] 35 (0, 0)) := bblock hb1 (by repeat (first | exact alloc_at _ (by simp) | refine alloc_lt _ ?_))
  have r : w1.heap[w.heap.size + 1]? = some (.cells #[.int .i64 0, .int .i64 0, .int .i64 0] 23 (0, 0)) := bblock hb1 (by repeat (first | exact alloc_at _ (by simp) | refine alloc_lt _ ?_))
  have hw1 := bchain hB1 hw0
  have hz_k0 : w.heap.size < w1.heap.size := (Array.getElem?_eq_some_iff.1 k0).1
  have hz_r : w.heap.size + 1 < w1.heap.size := (Array.getElem?_eq_some_iff.1 r).1
  clear hB1
  have k0_0 : w1.cell? ⟨w.heap.size, 0, none⟩ = some (.int .i64 0) := by rw [cell_of_block k0]; rfl
  have k0_1 : w1.cell? ⟨w.heap.size, 1, none⟩ = some (.int .i64 lo) := by rw [cell_of_block k0]; rfl
  have k0_2 : w1.cell? ⟨w.heap.size, 2, none⟩ = some (.slice aO nO cO) := by rw [cell_of_block k0]; rfl
  have k0_3 : w1.cell? ⟨w.heap.size, 3, none⟩ = some (.int .i64 16777216) := by rw [cell_of_block k0]; rfl
  have k0_4 : w1.cell? ⟨w.heap.size, 4, none⟩ = some (.int .i64 ly) := by rw [cell_of_block k0]; rfl
  have k0_5 : w1.cell? ⟨w.heap.size, 5, none⟩ = some (.slice aY nY cY) := by rw [cell_of_block k0]; rfl
  have r_0 : w1.cell? ⟨w.heap.size + 1, 0, none⟩ = some (.int .i64 0) := by rw [cell_of_block r]; rfl
  have r_1 : w1.cell? ⟨w.heap.size + 1, 1, none⟩ = some (.int .i64 0) := by rw [cell_of_block r]; rfl
  have r_2 : w1.cell? ⟨w.heap.size + 1, 2, none⟩ = some (.int .i64 0) := by rw [cell_of_block r]; rfl
  have r_f : ∀ i, w1.frozen? ⟨w.heap.size + 1, i, none⟩ = false := frozen_of_block r
  go_wp2_with fail
  refine (hL1 _ (by (repeat (first | exact Below.refl _ _ | assumption | refine Below.drew ?_ | refine below_drewN ?_ _ | refine balloc ?_ _ | refine Below.setCell ?_ (by first | (simp; done) | (simp; omega) | omega) _ | refine bchain (by assumption) ?_)))).mono ?_
  rintro e w2 ⟨rfl, hb2⟩
  have hB2 : Below w1.heap.size w1 w2 := by (repeat (first | exact Below.refl _ _ | assumption | refine Below.drew ?_ | refine below_drewN ?_ _ | refine balloc ?_ _ | refine Below.setCell ?_ (by first | (simp; done) | (simp; omega) | omega) _ | refine bchain (by assumption) ?_))
  have k0 := bblock hB2 k0
  have r := bblock hB2 r
  have s : w2.heap[w1.heap.size]? = some (.cells #[.int .i64 bs, .int .i64 lm, .slice A n cap] 33 (0, 0)) := bblock hb2 (by repeat (first | exact alloc_at _ (by simp) | refine alloc_lt _ ?_))
  have hw2 := bchain hB2 hw1
  clear hz_k0 hz_r
  have hz_k0 : w.heap.size < w2.heap.size := (Array.getElem?_eq_some_iff.1 k0).1
  have hz_r : w.heap.size + 1 < w2.heap.size := (Array.getElem?_eq_some_iff.1 r).1
  have hz_s : w1.heap.size < w2.heap.size := (Array.getElem?_eq_some_iff.1 s).1
  clear hB2
  clear k0_0 k0_1 k0_2 k0_3 k0_4 k0_5 r_0 r_1 r_2 r_f
  have k0_0 : w2.cell? ⟨w.heap.size, 0, none⟩ = some (.int .i64 0) := by rw [cell_of_block k0]; rfl
  have k0_1 : w2.cell? ⟨w.heap.size, 1, none⟩ = some (.int .i64 lo) := by rw [cell_of_block k0]; rfl
  have k0_2 : w2.cell? ⟨w.heap.size, 2, none⟩ = some (.slice aO nO cO) := by rw [cell_of_block k0]; rfl
  have k0_3 : w2.cell? ⟨w.heap.size, 3, none⟩ = some (.int .i64 16777216) := by rw [cell_of_block k0]; rfl
  have k0_4 : w2.cell? ⟨w.heap.size, 4, none⟩ = some (.int .i64 ly) := by rw [cell_of_block k0]; rfl
  have k0_5 : w2.cell? ⟨w.heap.size, 5, none⟩ = some (.slice aY nY cY) := by rw [cell_of_block k0]; rfl
  have r_0 : w2.cell? ⟨w.heap.size + 1, 0, none⟩ = some (.int .i64 0) := by rw [cell_of_block r]; rfl
  have r_1 : w2.cell? ⟨w.heap.size + 1, 1, none⟩ = some (.int .i64 0) := by rw [cell_of_block r]; rfl
  have r_2 : w2.cell? ⟨w.heap.size + 1, 2, none⟩ = some (.int .i64 0) := by rw [cell_of_block r]; rfl
  have r_f : ∀ i, w2.frozen? ⟨w.heap.size + 1, i, none⟩ = false := frozen_of_block r
  have s_0 : w2.cell? ⟨w1.heap.size, 0, none⟩ = some (.int .i64 bs) := by rw [cell_of_block s]; rfl
  have s_1 : w2.cell? ⟨w1.heap.size, 1, none⟩ = some (.int .i64 lm) := by rw [cell_of_block s]; rfl
  have s_2 : w2.cell? ⟨w1.heap.size, 2, none⟩ = some (.slice A n cap) := by rw [cell_of_block s]; rfl
  go_wp2_with fail
  refine (hD _).mono ?_
  rintro e w3 ⟨rfl, hb3⟩
  have hB3 : Below w2.heap.size w2 w3 := by (repeat (first | exact Below.refl _ _ | assumption | refine Below.drew ?_ | refine below_drewN ?_ _ | refine balloc ?_ _ | refine Below.setCell ?_ (by first | (simp; done) | (simp; omega) | omega) _ | refine bchain (by assumption) ?_))
  have k0 := bblock hB3 k0
  have r := bblock hB3 r
  have s := bblock hB3 s
  have hw3 := bchain hB3 hw2
  clear hz_k0 hz_r hz_s
  have hz_k0 : w.heap.size < w3.heap.size := (Array.getElem?_eq_some_iff.1 k0).1
  have hz_r : w.heap.size + 1 < w3.heap.size := (Array.getElem?_eq_some_iff.1 r).1
  have hz_s : w1.heap.size < w3.heap.size := (Array.getElem?_eq_some_iff.1 s).1
  clear hB3
  clear k0_0 k0_1 k0_2 k0_3 k0_4 k0_5 r_0 r_1 r_2 r_f s_0 s_1 s_2
  have k0_0 : w3.cell? ⟨w.heap.size, 0, none⟩ = some (.int .i64 0) := by rw [cell_of_block k0]; rfl
  have k0_1 : w3.cell? ⟨w.heap.size, 1, none⟩ = some (.int .i64 lo) := by rw [cell_of_block k0]; rfl
  have k0_2 : w3.cell? ⟨w.heap.size, 2, none⟩ = some (.slice aO nO cO) := by rw [cell_of_block k0]; rfl
  have k0_3 : w3.cell? ⟨w.heap.size, 3, none⟩ = some (.int .i64 16777216) := by rw [cell_of_block k0]; rfl
  have k0_4 : w3.cell? ⟨w.heap.size, 4, none⟩ = some (.int .i64 ly) := by rw [cell_of_block k0]; rfl
  have k0_5 : w3.cell? ⟨w.heap.size, 5, none⟩ = some (.slice aY nY cY) := by rw [cell_of_block k0]; rfl
  have r_0 : w3.cell? ⟨w.heap.size + 1, 0, none⟩ = some (.int .i64 0) := by rw [cell_of_block r]; rfl
  have r_1 : w3.cell? ⟨w.heap.size + 1, 1, none⟩ = some (.int .i64 0) := by rw [cell_of_block r]; rfl
  have r_2 : w3.cell? ⟨w.heap.size + 1, 2, none⟩ = some (.int .i64 0) := by rw [cell_of_block r]; rfl
  have r_f : ∀ i, w3.frozen? ⟨w.heap.size + 1, i, none⟩ = false := frozen_of_block r
  have s_0 : w3.cell? ⟨w1.heap.size, 0, none⟩ = some (.int .i64 bs) := by rw [cell_of_block s]; rfl
  have s_1 : w3.cell? ⟨w1.heap.size, 1, none⟩ = some (.int .i64 lm) := by rw [cell_of_block s]; rfl
  have s_2 : w3.cell? ⟨w1.heap.size, 2, none⟩ = some (.slice A n cap) := by rw [cell_of_block s]; rfl
  go_wp2_with fail
  refine (hL2 _ (by (repeat (first | exact Below.refl _ _ | assumption | refine Below.drew ?_ | refine below_drewN ?_ _ | refine balloc ?_ _ | refine Below.setCell ?_ (by first | (simp; done) | (simp; omega) | omega) _ | refine bchain (by assumption) ?_)))).mono ?_
  rintro e w4 ⟨rfl, hb4⟩
  have hB4 : Below w3.heap.size w3 w4 := by (repeat (first | exact Below.refl _ _ | assumption | refine Below.drew ?_ | refine below_drewN ?_ _ | refine balloc ?_ _ | refine Below.setCell ?_ (by first | (simp; done) | (simp; omega) | omega) _ | refine bchain (by assumption) ?_))
  have k0 := bblock hB4 k0
  have r := bblock hB4 r
  have s := bblock hB4 s
  have t : w4.heap[w3.heap.size]? = some (.cells #[.int .i64 kk, .int .i64 cc, .int .i64 ff] 23 (0, 0)) := bblock hb4 (by repeat (first | exact alloc_at _ (by simp) | refine alloc_lt _ ?_))
  have hw4 := bchain hB4 hw3
  clear hz_k0 hz_r hz_s
  have hz_k0 : w.heap.size < w4.heap.size := (Array.getElem?_eq_some_iff.1 k0).1
  have hz_r : w.heap.size + 1 < w4.heap.size := (Array.getElem?_eq_some_iff.1 r).1
  have hz_s : w1.heap.size < w4.heap.size := (Array.getElem?_eq_some_iff.1 s).1
  have hz_t : w3.heap.size < w4.heap.size := (Array.getElem?_eq_some_iff.1 t).1
  clear hB4
  clear k0_0 k0_1 k0_2 k0_3 k0_4 k0_5 r_0 r_1 r_2 r_f s_0 s_1 s_2
  have k0_0 : w4.cell? ⟨w.heap.size, 0, none⟩ = some (.int .i64 0) := by rw [cell_of_block k0]; rfl
  have k0_1 : w4.cell? ⟨w.heap.size, 1, none⟩ = some (.int .i64 lo) := by rw [cell_of_block k0]; rfl
  have k0_2 : w4.cell? ⟨w.heap.size, 2, none⟩ = some (.slice aO nO cO) := by rw [cell_of_block k0]; rfl
  have k0_3 : w4.cell? ⟨w.heap.size, 3, none⟩ = some (.int .i64 16777216) := by rw [cell_of_block k0]; rfl
  have k0_4 : w4.cell? ⟨w.heap.size, 4, none⟩ = some (.int .i64 ly) := by rw [cell_of_block k0]; rfl
  have k0_5 : w4.cell? ⟨w.heap.size, 5, none⟩ = some (.slice aY nY cY) := by rw [cell_of_block k0]; rfl
  have r_0 : w4.cell? ⟨w.heap.size + 1, 0, none⟩ = some (.int .i64 0) := by rw [cell_of_block r]; rfl
  have r_1 : w4.cell? ⟨w.heap.size + 1, 1, none⟩ = some (.int .i64 0) := by rw [cell_of_block r]; rfl
  have r_2 : w4.cell? ⟨w.heap.size + 1, 2, none⟩ = some (.int .i64 0) := by rw [cell_of_block r]; rfl
  have r_f : ∀ i, w4.frozen? ⟨w.heap.size + 1, i, none⟩ = false := frozen_of_block r
  have s_0 : w4.cell? ⟨w1.heap.size, 0, none⟩ = some (.int .i64 bs) := by rw [cell_of_block s]; rfl
  have s_1 : w4.cell? ⟨w1.heap.size, 1, none⟩ = some (.int .i64 lm) := by rw [cell_of_block s]; rfl
  have s_2 : w4.cell? ⟨w1.heap.size, 2, none⟩ = some (.slice A n cap) := by rw [cell_of_block s]; rfl
  have t_0 : w4.cell? ⟨w3.heap.size, 0, none⟩ = some (.int .i64 kk) := by rw [cell_of_block t]; rfl
  have t_1 : w4.cell? ⟨w3.heap.size, 1, none⟩ = some (.int .i64 cc) := by rw [cell_of_block t]; rfl
  have t_2 : w4.cell? ⟨w3.heap.size, 2, none⟩ = some (.int .i64 ff) := by rw [cell_of_block t]; rfl
  have hov : ∀ x, Below w.heap.size w (over w4 x) := fun x => bchain (over_below _ x) hw4
  go_wp2_with fail
  have o_k0_0 : ∀ x, (over w4 x).cell? ⟨w.heap.size, 0, none⟩ = some (.int .i64 0) := over_cell (by assumption)
  have o_k0_1 : ∀ x, (over w4 x).cell? ⟨w.heap.size, 1, none⟩ = some (.int .i64 lo) := over_cell (by assumption)
  have o_k0_2 : ∀ x, (over w4 x).cell? ⟨w.heap.size, 2, none⟩ = some (.slice aO nO cO) := over_cell (by assumption)
  have o_k0_3 : ∀ x, (over w4 x).cell? ⟨w.heap.size, 3, none⟩ = some (.int .i64 16777216) := over_cell (by assumption)
  have o_k0_4 : ∀ x, (over w4 x).cell? ⟨w.heap.size, 4, none⟩ = some (.int .i64 ly) := over_cell (by assumption)
  have o_k0_5 : ∀ x, (over w4 x).cell? ⟨w.heap.size, 5, none⟩ = some (.slice aY nY cY) := over_cell (by assumption)
  have o_r_0 : ∀ x, (over w4 x).cell? ⟨w.heap.size + 1, 0, none⟩ = some (.int .i64 0) := over_cell (by assumption)
  have o_r_1 : ∀ x, (over w4 x).cell? ⟨w.heap.size + 1, 1, none⟩ = some (.int .i64 0) := over_cell (by assumption)
  have o_r_2 : ∀ x, (over w4 x).cell? ⟨w.heap.size + 1, 2, none⟩ = some (.int .i64 0) := over_cell (by assumption)
  have o_s_0 : ∀ x, (over w4 x).cell? ⟨w1.heap.size, 0, none⟩ = some (.int .i64 bs) := over_cell (by assumption)
  have o_s_1 : ∀ x, (over w4 x).cell? ⟨w1.heap.size, 1, none⟩ = some (.int .i64 lm) := over_cell (by assumption)
  have o_s_2 : ∀ x, (over w4 x).cell? ⟨w1.heap.size, 2, none⟩ = some (.slice A n cap) := over_cell (by assumption)
  have o_t_0 : ∀ x, (over w4 x).cell? ⟨w3.heap.size, 0, none⟩ = some (.int .i64 kk) := over_cell (by assumption)
  have o_t_1 : ∀ x, (over w4 x).cell? ⟨w3.heap.size, 1, none⟩ = some (.int .i64 cc) := over_cell (by assumption)
  have o_t_2 : ∀ x, (over w4 x).cell? ⟨w3.heap.size, 2, none⟩ = some (.int .i64 ff) := over_cell (by assumption)
  (refine wp_region_over (by kernel_rfl) (by kernel_rfl) ?_); (repeat (go_big_quiet_step ((first | (go_at_call 67; exact calls_over (hI _)) | (go_at_call 69; exact calls_over (hW _)) | (go_at_call 68; exact calls_over (hC1 _ (hov _))))))); (refine wpQuiet_nil ?_)
  intro w5 hb5
  clear o_k0_0 o_k0_1 o_k0_2 o_k0_3 o_k0_4 o_k0_5 o_r_0 o_r_1 o_r_2 o_s_0 o_s_1 o_s_2 o_t_0 o_t_1 o_t_2
  have hB5 : Below w4.heap.size w4 w5 := by (repeat (first | exact Below.refl _ _ | assumption | refine Below.drew ?_ | refine below_drewN ?_ _ | refine balloc ?_ _ | refine Below.setCell ?_ (by first | (simp; done) | (simp; omega) | omega) _ | refine bchain (by assumption) ?_))
  have k0 := bblock hB5 k0
  have r := bblock hB5 r
  have s := bblock hB5 s
  have t := bblock hB5 t
  have hw5 := bchain hB5 hw4
  clear hz_k0 hz_r hz_s hz_t
  have hz_k0 : w.heap.size < w5.heap.size := (Array.getElem?_eq_some_iff.1 k0).1
  have hz_r : w.heap.size + 1 < w5.heap.size := (Array.getElem?_eq_some_iff.1 r).1
  have hz_s : w1.heap.size < w5.heap.size := (Array.getElem?_eq_some_iff.1 s).1
  have hz_t : w3.heap.size < w5.heap.size := (Array.getElem?_eq_some_iff.1 t).1
  clear hB5
  clear k0_0 k0_1 k0_2 k0_3 k0_4 k0_5 r_0 r_1 r_2 r_f s_0 s_1 s_2 t_0 t_1 t_2
  have k0_0 : w5.cell? ⟨w.heap.size, 0, none⟩ = some (.int .i64 0) := by rw [cell_of_block k0]; rfl
  have k0_1 : w5.cell? ⟨w.heap.size, 1, none⟩ = some (.int .i64 lo) := by rw [cell_of_block k0]; rfl
  have k0_2 : w5.cell? ⟨w.heap.size, 2, none⟩ = some (.slice aO nO cO) := by rw [cell_of_block k0]; rfl
  have k0_3 : w5.cell? ⟨w.heap.size, 3, none⟩ = some (.int .i64 16777216) := by rw [cell_of_block k0]; rfl
  have k0_4 : w5.cell? ⟨w.heap.size, 4, none⟩ = some (.int .i64 ly) := by rw [cell_of_block k0]; rfl
  have k0_5 : w5.cell? ⟨w.heap.size, 5, none⟩ = some (.slice aY nY cY) := by rw [cell_of_block k0]; rfl
  have r_0 : w5.cell? ⟨w.heap.size + 1, 0, none⟩ = some (.int .i64 0) := by rw [cell_of_block r]; rfl
  have r_1 : w5.cell? ⟨w.heap.size + 1, 1, none⟩ = some (.int .i64 0) := by rw [cell_of_block r]; rfl
  have r_2 : w5.cell? ⟨w.heap.size + 1, 2, none⟩ = some (.int .i64 0) := by rw [cell_of_block r]; rfl
  have r_f : ∀ i, w5.frozen? ⟨w.heap.size + 1, i, none⟩ = false := frozen_of_block r
  have s_0 : w5.cell? ⟨w1.heap.size, 0, none⟩ = some (.int .i64 bs) := by rw [cell_of_block s]; rfl
  have s_1 : w5.cell? ⟨w1.heap.size, 1, none⟩ = some (.int .i64 lm) := by rw [cell_of_block s]; rfl
  have s_2 : w5.cell? ⟨w1.heap.size, 2, none⟩ = some (.slice A n cap) := by rw [cell_of_block s]; rfl
  have t_0 : w5.cell? ⟨w3.heap.size, 0, none⟩ = some (.int .i64 kk) := by rw [cell_of_block t]; rfl
  have t_1 : w5.cell? ⟨w3.heap.size, 1, none⟩ = some (.int .i64 cc) := by rw [cell_of_block t]; rfl
  have t_2 : w5.cell? ⟨w3.heap.size, 2, none⟩ = some (.int .i64 ff) := by rw [cell_of_block t]; rfl
  go_wp2
  exact bodyPost_ret (v := .tuple #[.agg #[.int .i64 0, .int .i64 0, .int .i64 0], .int .i64 11]) (by simp [results, Try.results31, go_sem, k0_0, k0_1, k0_2, k0_3, k0_4, k0_5, r_0, r_1, r_2, r_f, s_0, s_1, s_2, t_0, t_1, t_2, hz_k0, hz_r, hz_s, hz_t]) rfl ⟨rfl, by (repeat (first | exact Below.refl _ _ | assumption | refine Below.drew ?_ | refine below_drewN ?_ _ | refine balloc ?_ _ | refine Below.setCell ?_ (by first | (simp; done) | (simp; omega) | omega) _ | refine bchain (by assumption) ?_))⟩
set_option maxRecDepth 100000 in
set_option maxHeartbeats 2000000 in
theorem rhdr_E {w : World} {aO : Option Addr} {nO cO : Nat} {aY : Option Addr} {nY cY : Nat} {lo ly : Int} {A : Option Addr} {n cap : Nat} {bs lm : Int} {ws : List Int} {g : Option Nat} {a : Int} (hP : ∀ W, Below w.heap.size w W → Calls Try.prog 65 #[.agg #[.int .i64 0, .int .i64 lo, .slice aO nO cO, .int .i64 16777216, .int .i64 ly, .slice aY nY cY], .int .i64 a] W fun e w' => e = .returned (.agg #[.int .i64 bs, .int .i64 lm, .slice A n cap]) ∧ Below W.heap.size W w') (hs : ∀ W, Below w.heap.size w W → MdAt W (.agg #[.int .i64 bs, .int .i64 lm, .slice A n cap]) bs lm ws g) (hk : SpOk bs lm ws) (hn : ws.length = n) (h : inB bs ws.length a = true) (h2 : inB bs ws.length (a + 1) = true) (hd : decB (ldW bs ws a) = true) (hi : didB (ldW bs ws (a + 1)) = true) (hc : inB bs ws.length (a + wordsI (decF (ldW bs ws a)) - 1) = true) :
    Calls Try.prog 31 #[.agg #[.int .i64 0, .int .i64 lo, .slice aO nO cO, .int .i64 16777216, .int .i64 ly, .slice aY nY cY], .int .i64 a] w fun e w' => e = .returned (.tuple #[.agg #[.int .i64 (decK (ldW bs ws a)), .int .i64 (decC (ldW bs ws a)), .int .i64 (decF (ldW bs ws a))], .int .i64 0]) ∧ Below w.heap.size w w' := by
  have b0 := hk.b0
  have b1 := hk.top
  have b2 := hk.lm1
  have hL := fun W (h : Below w.heap.size w W) (c : Int) => rload_any (hs W h) hk hn c
  have hC := fun W (h : Below w.heap.size w W) (c : Int) => rcontains_any (hs W h) hk c
  have a01 := inB_iff.1 h
  rw [hn] at a01
  obtain ⟨a0, a1⟩ := a01
  have e1 : ioE bs ws a = 0 := by unfold ioE; rw [h]; rfl
  have hL1 := fun W h => hL W h a
  rw [e1] at hL1
  have hL2 := fun W h => hL W h (a + 1)
  have hx := ldU hk a
  have hy := ldU hk (a + 1)
  have e2 : ioE bs ws (a + 1) = 0 := by unfold ioE; rw [h2]; rfl
  rw [e2] at hL2
  generalize ldW bs ws a = x at *
  generalize ldW bs ws (a + 1) = y at *
  have hD := fun W => rdecode_yes x hx hd W
  have hI := fun W => rdecodeID_yes y hy hi W
  have hW := fun W => rwords_yes (decK x) (decC x) (decF x) (decB_iff.1 hd).1 W
  have hC1 := fun W h => hC W h (a + wordsI (decF x) - 1)
  rw [hc] at hC1
  have d5 := idB_iff.1 (show idB (didM y) (didS y) = true from hi)
  obtain ⟨y0, y1, y2⟩ := wordsI_bd (decB_iff.1 hd).1
  generalize didM y = ym at *
  generalize didS y = ys at *
  generalize decK x = kk at *
  generalize decC x = cc at *
  generalize decF x = ff at *
  generalize wordsI ff = sz at *
  have wr1 : IntKind.i64.wrap (a + sz) = a + sz := IntWalk.i64_in _ (by omega)
  have wr2 : IntKind.i64.wrap (a + sz - 1) = a + sz - 1 := IntWalk.i64_in _ (by omega)
  clear h h2 e1 e2 hL hC hx hy hd hi hc
  rw [hn] at b1
  clear hs hk hn
  have hw0 : Below w.heap.size w w := Below.refl _ _
  go_enter Try.func31, Try.ntmps31
  go_wp2_with fail
  refine (hP _ (by (repeat (first | exact Below.refl _ _ | assumption | refine Below.drew ?_ | refine below_drewN ?_ _ | refine balloc ?_ _ | refine Below.setCell ?_ (by first | (simp; done) | (simp; omega) | omega) _ | refine bchain (by assumption) ?_)))).mono ?_
  rintro e w1 ⟨rfl, hb1⟩
  have hB1 : Below w.heap.size w w1 := by (repeat (first | exact Below.refl _ _ | assumption | refine Below.drew ?_ | refine below_drewN ?_ _ | refine balloc ?_ _ | refine Below.setCell ?_ (by first | (simp; done) | (simp; omega) | omega) _ | refine bchain (by assumption) ?_))
  have k0 : w1.heap[w.heap.size]? = some (.cells #[.int .i64 0, .int .i64 lo, .slice aO nO cO, .int .i64 16777216, .int .i64 ly, .slice aY nY cY] 35 (0, 0)) := bblock hb1 (by repeat (first | exact alloc_at _ (by simp) | refine alloc_lt _ ?_))
  have r : w1.heap[w.heap.size + 1]? = some (.cells #[.int .i64 0, .int .i64 0, .int .i64 0] 23 (0, 0)) := bblock hb1 (by repeat (first | exact alloc_at _ (by simp) | refine alloc_lt _ ?_))
  have hw1 := bchain hB1 hw0
  have hz_k0 : w.heap.size < w1.heap.size := (Array.getElem?_eq_some_iff.1 k0).1
  have hz_r : w.heap.size + 1 < w1.heap.size := (Array.getElem?_eq_some_iff.1 r).1
  clear hB1
  have k0_0 : w1.cell? ⟨w.heap.size, 0, none⟩ = some (.int .i64 0) := by rw [cell_of_block k0]; rfl
  have k0_1 : w1.cell? ⟨w.heap.size, 1, none⟩ = some (.int .i64 lo) := by rw [cell_of_block k0]; rfl
  have k0_2 : w1.cell? ⟨w.heap.size, 2, none⟩ = some (.slice aO nO cO) := by rw [cell_of_block k0]; rfl
  have k0_3 : w1.cell? ⟨w.heap.size, 3, none⟩ = some (.int .i64 16777216) := by rw [cell_of_block k0]; rfl
  have k0_4 : w1.cell? ⟨w.heap.size, 4, none⟩ = some (.int .i64 ly) := by rw [cell_of_block k0]; rfl
  have k0_5 : w1.cell? ⟨w.heap.size, 5, none⟩ = some (.slice aY nY cY) := by rw [cell_of_block k0]; rfl
  have r_0 : w1.cell? ⟨w.heap.size + 1, 0, none⟩ = some (.int .i64 0) := by rw [cell_of_block r]; rfl
  have r_1 : w1.cell? ⟨w.heap.size + 1, 1, none⟩ = some (.int .i64 0) := by rw [cell_of_block r]; rfl
  have r_2 : w1.cell? ⟨w.heap.size + 1, 2, none⟩ = some (.int .i64 0) := by rw [cell_of_block r]; rfl
  have r_f : ∀ i, w1.frozen? ⟨w.heap.size + 1, i, none⟩ = false := frozen_of_block r
  go_wp2_with fail
  refine (hL1 _ (by (repeat (first | exact Below.refl _ _ | assumption | refine Below.drew ?_ | refine below_drewN ?_ _ | refine balloc ?_ _ | refine Below.setCell ?_ (by first | (simp; done) | (simp; omega) | omega) _ | refine bchain (by assumption) ?_)))).mono ?_
  rintro e w2 ⟨rfl, hb2⟩
  have hB2 : Below w1.heap.size w1 w2 := by (repeat (first | exact Below.refl _ _ | assumption | refine Below.drew ?_ | refine below_drewN ?_ _ | refine balloc ?_ _ | refine Below.setCell ?_ (by first | (simp; done) | (simp; omega) | omega) _ | refine bchain (by assumption) ?_))
  have k0 := bblock hB2 k0
  have r := bblock hB2 r
  have s : w2.heap[w1.heap.size]? = some (.cells #[.int .i64 bs, .int .i64 lm, .slice A n cap] 33 (0, 0)) := bblock hb2 (by repeat (first | exact alloc_at _ (by simp) | refine alloc_lt _ ?_))
  have hw2 := bchain hB2 hw1
  clear hz_k0 hz_r
  have hz_k0 : w.heap.size < w2.heap.size := (Array.getElem?_eq_some_iff.1 k0).1
  have hz_r : w.heap.size + 1 < w2.heap.size := (Array.getElem?_eq_some_iff.1 r).1
  have hz_s : w1.heap.size < w2.heap.size := (Array.getElem?_eq_some_iff.1 s).1
  clear hB2
  clear k0_0 k0_1 k0_2 k0_3 k0_4 k0_5 r_0 r_1 r_2 r_f
  have k0_0 : w2.cell? ⟨w.heap.size, 0, none⟩ = some (.int .i64 0) := by rw [cell_of_block k0]; rfl
  have k0_1 : w2.cell? ⟨w.heap.size, 1, none⟩ = some (.int .i64 lo) := by rw [cell_of_block k0]; rfl
  have k0_2 : w2.cell? ⟨w.heap.size, 2, none⟩ = some (.slice aO nO cO) := by rw [cell_of_block k0]; rfl
  have k0_3 : w2.cell? ⟨w.heap.size, 3, none⟩ = some (.int .i64 16777216) := by rw [cell_of_block k0]; rfl
  have k0_4 : w2.cell? ⟨w.heap.size, 4, none⟩ = some (.int .i64 ly) := by rw [cell_of_block k0]; rfl
  have k0_5 : w2.cell? ⟨w.heap.size, 5, none⟩ = some (.slice aY nY cY) := by rw [cell_of_block k0]; rfl
  have r_0 : w2.cell? ⟨w.heap.size + 1, 0, none⟩ = some (.int .i64 0) := by rw [cell_of_block r]; rfl
  have r_1 : w2.cell? ⟨w.heap.size + 1, 1, none⟩ = some (.int .i64 0) := by rw [cell_of_block r]; rfl
  have r_2 : w2.cell? ⟨w.heap.size + 1, 2, none⟩ = some (.int .i64 0) := by rw [cell_of_block r]; rfl
  have r_f : ∀ i, w2.frozen? ⟨w.heap.size + 1, i, none⟩ = false := frozen_of_block r
  have s_0 : w2.cell? ⟨w1.heap.size, 0, none⟩ = some (.int .i64 bs) := by rw [cell_of_block s]; rfl
  have s_1 : w2.cell? ⟨w1.heap.size, 1, none⟩ = some (.int .i64 lm) := by rw [cell_of_block s]; rfl
  have s_2 : w2.cell? ⟨w1.heap.size, 2, none⟩ = some (.slice A n cap) := by rw [cell_of_block s]; rfl
  go_wp2_with fail
  refine (hD _).mono ?_
  rintro e w3 ⟨rfl, hb3⟩
  have hB3 : Below w2.heap.size w2 w3 := by (repeat (first | exact Below.refl _ _ | assumption | refine Below.drew ?_ | refine below_drewN ?_ _ | refine balloc ?_ _ | refine Below.setCell ?_ (by first | (simp; done) | (simp; omega) | omega) _ | refine bchain (by assumption) ?_))
  have k0 := bblock hB3 k0
  have r := bblock hB3 r
  have s := bblock hB3 s
  have hw3 := bchain hB3 hw2
  clear hz_k0 hz_r hz_s
  have hz_k0 : w.heap.size < w3.heap.size := (Array.getElem?_eq_some_iff.1 k0).1
  have hz_r : w.heap.size + 1 < w3.heap.size := (Array.getElem?_eq_some_iff.1 r).1
  have hz_s : w1.heap.size < w3.heap.size := (Array.getElem?_eq_some_iff.1 s).1
  clear hB3
  clear k0_0 k0_1 k0_2 k0_3 k0_4 k0_5 r_0 r_1 r_2 r_f s_0 s_1 s_2
  have k0_0 : w3.cell? ⟨w.heap.size, 0, none⟩ = some (.int .i64 0) := by rw [cell_of_block k0]; rfl
  have k0_1 : w3.cell? ⟨w.heap.size, 1, none⟩ = some (.int .i64 lo) := by rw [cell_of_block k0]; rfl
  have k0_2 : w3.cell? ⟨w.heap.size, 2, none⟩ = some (.slice aO nO cO) := by rw [cell_of_block k0]; rfl
  have k0_3 : w3.cell? ⟨w.heap.size, 3, none⟩ = some (.int .i64 16777216) := by rw [cell_of_block k0]; rfl
  have k0_4 : w3.cell? ⟨w.heap.size, 4, none⟩ = some (.int .i64 ly) := by rw [cell_of_block k0]; rfl
  have k0_5 : w3.cell? ⟨w.heap.size, 5, none⟩ = some (.slice aY nY cY) := by rw [cell_of_block k0]; rfl
  have r_0 : w3.cell? ⟨w.heap.size + 1, 0, none⟩ = some (.int .i64 0) := by rw [cell_of_block r]; rfl
  have r_1 : w3.cell? ⟨w.heap.size + 1, 1, none⟩ = some (.int .i64 0) := by rw [cell_of_block r]; rfl
  have r_2 : w3.cell? ⟨w.heap.size + 1, 2, none⟩ = some (.int .i64 0) := by rw [cell_of_block r]; rfl
  have r_f : ∀ i, w3.frozen? ⟨w.heap.size + 1, i, none⟩ = false := frozen_of_block r
  have s_0 : w3.cell? ⟨w1.heap.size, 0, none⟩ = some (.int .i64 bs) := by rw [cell_of_block s]; rfl
  have s_1 : w3.cell? ⟨w1.heap.size, 1, none⟩ = some (.int .i64 lm) := by rw [cell_of_block s]; rfl
  have s_2 : w3.cell? ⟨w1.heap.size, 2, none⟩ = some (.slice A n cap) := by rw [cell_of_block s]; rfl
  go_wp2_with fail
  refine (hL2 _ (by (repeat (first | exact Below.refl _ _ | assumption | refine Below.drew ?_ | refine below_drewN ?_ _ | refine balloc ?_ _ | refine Below.setCell ?_ (by first | (simp; done) | (simp; omega) | omega) _ | refine bchain (by assumption) ?_)))).mono ?_
  rintro e w4 ⟨rfl, hb4⟩
  have hB4 : Below w3.heap.size w3 w4 := by (repeat (first | exact Below.refl _ _ | assumption | refine Below.drew ?_ | refine below_drewN ?_ _ | refine balloc ?_ _ | refine Below.setCell ?_ (by first | (simp; done) | (simp; omega) | omega) _ | refine bchain (by assumption) ?_))
  have k0 := bblock hB4 k0
  have r := bblock hB4 r
  have s := bblock hB4 s
  have t : w4.heap[w3.heap.size]? = some (.cells #[.int .i64 kk, .int .i64 cc, .int .i64 ff] 23 (0, 0)) := bblock hb4 (by repeat (first | exact alloc_at _ (by simp) | refine alloc_lt _ ?_))
  have hw4 := bchain hB4 hw3
  clear hz_k0 hz_r hz_s
  have hz_k0 : w.heap.size < w4.heap.size := (Array.getElem?_eq_some_iff.1 k0).1
  have hz_r : w.heap.size + 1 < w4.heap.size := (Array.getElem?_eq_some_iff.1 r).1
  have hz_s : w1.heap.size < w4.heap.size := (Array.getElem?_eq_some_iff.1 s).1
  have hz_t : w3.heap.size < w4.heap.size := (Array.getElem?_eq_some_iff.1 t).1
  clear hB4
  clear k0_0 k0_1 k0_2 k0_3 k0_4 k0_5 r_0 r_1 r_2 r_f s_0 s_1 s_2
  have k0_0 : w4.cell? ⟨w.heap.size, 0, none⟩ = some (.int .i64 0) := by rw [cell_of_block k0]; rfl
  have k0_1 : w4.cell? ⟨w.heap.size, 1, none⟩ = some (.int .i64 lo) := by rw [cell_of_block k0]; rfl
  have k0_2 : w4.cell? ⟨w.heap.size, 2, none⟩ = some (.slice aO nO cO) := by rw [cell_of_block k0]; rfl
  have k0_3 : w4.cell? ⟨w.heap.size, 3, none⟩ = some (.int .i64 16777216) := by rw [cell_of_block k0]; rfl
  have k0_4 : w4.cell? ⟨w.heap.size, 4, none⟩ = some (.int .i64 ly) := by rw [cell_of_block k0]; rfl
  have k0_5 : w4.cell? ⟨w.heap.size, 5, none⟩ = some (.slice aY nY cY) := by rw [cell_of_block k0]; rfl
  have r_0 : w4.cell? ⟨w.heap.size + 1, 0, none⟩ = some (.int .i64 0) := by rw [cell_of_block r]; rfl
  have r_1 : w4.cell? ⟨w.heap.size + 1, 1, none⟩ = some (.int .i64 0) := by rw [cell_of_block r]; rfl
  have r_2 : w4.cell? ⟨w.heap.size + 1, 2, none⟩ = some (.int .i64 0) := by rw [cell_of_block r]; rfl
  have r_f : ∀ i, w4.frozen? ⟨w.heap.size + 1, i, none⟩ = false := frozen_of_block r
  have s_0 : w4.cell? ⟨w1.heap.size, 0, none⟩ = some (.int .i64 bs) := by rw [cell_of_block s]; rfl
  have s_1 : w4.cell? ⟨w1.heap.size, 1, none⟩ = some (.int .i64 lm) := by rw [cell_of_block s]; rfl
  have s_2 : w4.cell? ⟨w1.heap.size, 2, none⟩ = some (.slice A n cap) := by rw [cell_of_block s]; rfl
  have t_0 : w4.cell? ⟨w3.heap.size, 0, none⟩ = some (.int .i64 kk) := by rw [cell_of_block t]; rfl
  have t_1 : w4.cell? ⟨w3.heap.size, 1, none⟩ = some (.int .i64 cc) := by rw [cell_of_block t]; rfl
  have t_2 : w4.cell? ⟨w3.heap.size, 2, none⟩ = some (.int .i64 ff) := by rw [cell_of_block t]; rfl
  have hov : ∀ x, Below w.heap.size w (over w4 x) := fun x => bchain (over_below _ x) hw4
  go_wp2_with fail
  have o_k0_0 : ∀ x, (over w4 x).cell? ⟨w.heap.size, 0, none⟩ = some (.int .i64 0) := over_cell (by assumption)
  have o_k0_1 : ∀ x, (over w4 x).cell? ⟨w.heap.size, 1, none⟩ = some (.int .i64 lo) := over_cell (by assumption)
  have o_k0_2 : ∀ x, (over w4 x).cell? ⟨w.heap.size, 2, none⟩ = some (.slice aO nO cO) := over_cell (by assumption)
  have o_k0_3 : ∀ x, (over w4 x).cell? ⟨w.heap.size, 3, none⟩ = some (.int .i64 16777216) := over_cell (by assumption)
  have o_k0_4 : ∀ x, (over w4 x).cell? ⟨w.heap.size, 4, none⟩ = some (.int .i64 ly) := over_cell (by assumption)
  have o_k0_5 : ∀ x, (over w4 x).cell? ⟨w.heap.size, 5, none⟩ = some (.slice aY nY cY) := over_cell (by assumption)
  have o_r_0 : ∀ x, (over w4 x).cell? ⟨w.heap.size + 1, 0, none⟩ = some (.int .i64 0) := over_cell (by assumption)
  have o_r_1 : ∀ x, (over w4 x).cell? ⟨w.heap.size + 1, 1, none⟩ = some (.int .i64 0) := over_cell (by assumption)
  have o_r_2 : ∀ x, (over w4 x).cell? ⟨w.heap.size + 1, 2, none⟩ = some (.int .i64 0) := over_cell (by assumption)
  have o_s_0 : ∀ x, (over w4 x).cell? ⟨w1.heap.size, 0, none⟩ = some (.int .i64 bs) := over_cell (by assumption)
  have o_s_1 : ∀ x, (over w4 x).cell? ⟨w1.heap.size, 1, none⟩ = some (.int .i64 lm) := over_cell (by assumption)
  have o_s_2 : ∀ x, (over w4 x).cell? ⟨w1.heap.size, 2, none⟩ = some (.slice A n cap) := over_cell (by assumption)
  have o_t_0 : ∀ x, (over w4 x).cell? ⟨w3.heap.size, 0, none⟩ = some (.int .i64 kk) := over_cell (by assumption)
  have o_t_1 : ∀ x, (over w4 x).cell? ⟨w3.heap.size, 1, none⟩ = some (.int .i64 cc) := over_cell (by assumption)
  have o_t_2 : ∀ x, (over w4 x).cell? ⟨w3.heap.size, 2, none⟩ = some (.int .i64 ff) := over_cell (by assumption)
  (refine wp_region_over (by kernel_rfl) (by kernel_rfl) ?_); (repeat (go_big_quiet_step ((first | (go_at_call 67; exact calls_over (hI _)) | (go_at_call 69; exact calls_over (hW _)) | (go_at_call 68; exact calls_over (hC1 _ (hov _))))))); (refine wpQuiet_nil ?_)
  intro w5 hb5
  clear o_k0_0 o_k0_1 o_k0_2 o_k0_3 o_k0_4 o_k0_5 o_r_0 o_r_1 o_r_2 o_s_0 o_s_1 o_s_2 o_t_0 o_t_1 o_t_2
  have hB5 : Below w4.heap.size w4 w5 := by (repeat (first | exact Below.refl _ _ | assumption | refine Below.drew ?_ | refine below_drewN ?_ _ | refine balloc ?_ _ | refine Below.setCell ?_ (by first | (simp; done) | (simp; omega) | omega) _ | refine bchain (by assumption) ?_))
  have k0 := bblock hB5 k0
  have r := bblock hB5 r
  have s := bblock hB5 s
  have t := bblock hB5 t
  have hw5 := bchain hB5 hw4
  clear hz_k0 hz_r hz_s hz_t
  have hz_k0 : w.heap.size < w5.heap.size := (Array.getElem?_eq_some_iff.1 k0).1
  have hz_r : w.heap.size + 1 < w5.heap.size := (Array.getElem?_eq_some_iff.1 r).1
  have hz_s : w1.heap.size < w5.heap.size := (Array.getElem?_eq_some_iff.1 s).1
  have hz_t : w3.heap.size < w5.heap.size := (Array.getElem?_eq_some_iff.1 t).1
  clear hB5
  clear k0_0 k0_1 k0_2 k0_3 k0_4 k0_5 r_0 r_1 r_2 r_f s_0 s_1 s_2 t_0 t_1 t_2
  have k0_0 : w5.cell? ⟨w.heap.size, 0, none⟩ = some (.int .i64 0) := by rw [cell_of_block k0]; rfl
  have k0_1 : w5.cell? ⟨w.heap.size, 1, none⟩ = some (.int .i64 lo) := by rw [cell_of_block k0]; rfl
  have k0_2 : w5.cell? ⟨w.heap.size, 2, none⟩ = some (.slice aO nO cO) := by rw [cell_of_block k0]; rfl
  have k0_3 : w5.cell? ⟨w.heap.size, 3, none⟩ = some (.int .i64 16777216) := by rw [cell_of_block k0]; rfl
  have k0_4 : w5.cell? ⟨w.heap.size, 4, none⟩ = some (.int .i64 ly) := by rw [cell_of_block k0]; rfl
  have k0_5 : w5.cell? ⟨w.heap.size, 5, none⟩ = some (.slice aY nY cY) := by rw [cell_of_block k0]; rfl
  have r_0 : w5.cell? ⟨w.heap.size + 1, 0, none⟩ = some (.int .i64 0) := by rw [cell_of_block r]; rfl
  have r_1 : w5.cell? ⟨w.heap.size + 1, 1, none⟩ = some (.int .i64 0) := by rw [cell_of_block r]; rfl
  have r_2 : w5.cell? ⟨w.heap.size + 1, 2, none⟩ = some (.int .i64 0) := by rw [cell_of_block r]; rfl
  have r_f : ∀ i, w5.frozen? ⟨w.heap.size + 1, i, none⟩ = false := frozen_of_block r
  have s_0 : w5.cell? ⟨w1.heap.size, 0, none⟩ = some (.int .i64 bs) := by rw [cell_of_block s]; rfl
  have s_1 : w5.cell? ⟨w1.heap.size, 1, none⟩ = some (.int .i64 lm) := by rw [cell_of_block s]; rfl
  have s_2 : w5.cell? ⟨w1.heap.size, 2, none⟩ = some (.slice A n cap) := by rw [cell_of_block s]; rfl
  have t_0 : w5.cell? ⟨w3.heap.size, 0, none⟩ = some (.int .i64 kk) := by rw [cell_of_block t]; rfl
  have t_1 : w5.cell? ⟨w3.heap.size, 1, none⟩ = some (.int .i64 cc) := by rw [cell_of_block t]; rfl
  have t_2 : w5.cell? ⟨w3.heap.size, 2, none⟩ = some (.int .i64 ff) := by rw [cell_of_block t]; rfl
  go_wp2
  exact bodyPost_ret (v := .tuple #[.agg #[.int .i64 kk, .int .i64 cc, .int .i64 ff], .int .i64 0]) (by simp [results, Try.results31, go_sem, k0_0, k0_1, k0_2, k0_3, k0_4, k0_5, r_0, r_1, r_2, r_f, s_0, s_1, s_2, t_0, t_1, t_2, hz_k0, hz_r, hz_s, hz_t]) rfl ⟨rfl, by (repeat (first | exact Below.refl _ _ | assumption | refine Below.drew ?_ | refine below_drewN ?_ _ | refine balloc ?_ _ | refine Below.setCell ?_ (by first | (simp; done) | (simp; omega) | omega) _ | refine bchain (by assumption) ?_))⟩
end Go.Proofs.Ytcmhgjkijegpnaa
