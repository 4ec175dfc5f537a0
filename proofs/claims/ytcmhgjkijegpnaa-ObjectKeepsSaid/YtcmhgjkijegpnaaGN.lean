/-
  refmeshlaw07.step, kind 5.
-/
import Derived.Test.YtcmhgjkijegpnaaGS
import Derived.Test.YtcmhgjkijegpnaaGJ
import Derived.Test.YtcmhgjkijegpnaaGK
import Derived.Test.YtcmhgjkijegpnaaGL
import Derived.Test.YtcmhgjkijegpnaaGM
import Derived.Test.YtcmhgjkijegpnaaGI
namespace Go.Proofs.Ytcmhgjkijegpnaa
open Go.RowKit
set_option linter.unusedSimpArgs false
set_option linter.unusedVariables false

set_option maxRecDepth 100000 in
set_option maxHeartbeats 4000000 in
theorem stq_5 {w : World} {n0 p : Nat} {lo ly : Int} {x : S7} {bO bY : Nat} {aO : Option Addr} {nO cO : Nat} {aY : Option Addr} {nY cY : Nat} {lv : Value} {gO gY rO rY : Option Nat} (hp0 : n0 ≤ p) (kp : w.heap[p]? = some (.cells (wcs bO bY lo ly aO nO cO aY nY cY lv) 47 (0, 0))) (hI : WIn w n0 bO bY lo ly x aO nO cO aY nY cY lv gO gY rO rY) (hsep : ∀ G, MS bO bY gO gY G ∨ rO = some G ∨ rY = some G ∨ lv.ownBlock = some G → G ≠ p) (hn : n0 ≤ w.heap.size) (k c f m s a b i u : Int) (raw : Bool)  :
    Calls Try.prog 22 #[.pointer (some ⟨p, 0, none⟩), .agg #[.int .i64 5, .int .i64 k, .int .i64 c, .int .i64 f, .int .i64 m, .int .i64 s, .int .i64 a, .int .i64 b, .int .i64 i, .int .u64 u, .bool raw]] w (StQ w n0 p bO bY lo ly lv gO gY ⟨(tfM x.wo x.wy (atW raw x.l a) (atW raw x.l b)).1, (tfM x.wo x.wy (atW raw x.l a) (atW raw x.l b)).2, x.l⟩) := by
  have hp1 : p < w.heap.size := (Array.getElem?_eq_some_iff.1 kp).1
  have hpn : p ≠ w.heap.size := by omega
  have Hsep := Lib.hid hsep
  clear hsep
  have kp : w.heap[p]? = some (.cells #[.pointer (some ⟨bO, 0, none⟩), .pointer (some ⟨bY, 0, none⟩), .int .i64 0, .int .i64 lo, .slice aO nO cO, .int .i64 16777216, .int .i64 ly, .slice aY nY cY, lv] 47 (0, 0)) := kp
  have hat := fun W (H : Below w.heap.size w W) => wat_row (.pointer (some ⟨bO, 0, none⟩)) (.pointer (some ⟨bY, 0, none⟩)) (.int .i64 0) (.int .i64 lo) (.slice aO nO cO) (.int .i64 16777216) (.int .i64 ly) (.slice aY nY cY) 5 k c f m s a b i u raw a (row_keep hI.lst (fun G o e ho => bblock H ho))
  have hat2 := fun W (H : Below w.heap.size w W) => wat_row (.pointer (some ⟨bO, 0, none⟩)) (.pointer (some ⟨bY, 0, none⟩)) (.int .i64 0) (.int .i64 lo) (.slice aO nO cO) (.int .i64 16777216) (.int .i64 ly) (.slice aY nY cY) 5 k c f m s a b i u raw b (row_keep hI.lst (fun G o e ho => bblock H ho))
  have hR := fun W (H : Below w.heap.size w W) => rtofwd_any (hI.ref.below H) (atW raw x.l a) (atW raw x.l b)
  have hA := fun W (H : MemAt W bO bY lo ly x.wo x.wy gO gY) => tofwd_any H (atW raw x.l a) (atW raw x.l b)
  generalize atW raw x.l a = y at *
  generalize atW raw x.l b = z at *
  generalize tfE x.wo x.wy y z = re at *
  generalize hwo : (tfM x.wo x.wy y z).1 = wo' at *
  generalize hwy : (tfM x.wo x.wy y z).2 = wy' at *
  clear hwo hwy
  go_enter Try.func22, Try.ntmps22
  go_wp2_with fail
  obtain ⟨w1, hw1⟩ : ∃ w1, (w.alloc (.cells #[.int .i64 5, .int .i64 k, .int .i64 c, .int .i64 f, .int .i64 m, .int .i64 s, .int .i64 a, .int .i64 b, .int .i64 i, .int .u64 u, .bool raw] 58)) = w1 := ⟨_, rfl⟩
  have hb1 : Below w.heap.size w w1 := by rw [← hw1]; exact balloc (Below.refl _ _) _
  have k0 : w1.heap[w.heap.size]? = some (.cells #[.int .i64 5, .int .i64 k, .int .i64 c, .int .i64 f, .int .i64 m, .int .i64 s, .int .i64 a, .int .i64 b, .int .i64 i, .int .u64 u, .bool raw] 58 (0, 0)) := by rw [← hw1]; exact alloc_get _ _
  have kp : w1.heap[p]? = some (.cells #[.pointer (some ⟨bO, 0, none⟩), .pointer (some ⟨bY, 0, none⟩), .int .i64 0, .int .i64 lo, .slice aO nO cO, .int .i64 16777216, .int .i64 ly, .slice aY nY cY, lv] 47 (0, 0)) := bblock hb1 kp
  rw [hw1]
  clear hw1
  have o_kp_0 : ∀ x, (over w1 x).cell? ⟨p, 0, none⟩ = some (.pointer (some ⟨bO, 0, none⟩)) := over_cell (by rw [cell_of_block kp]; rfl)
  have o_kp_1 : ∀ x, (over w1 x).cell? ⟨p, 1, none⟩ = some (.pointer (some ⟨bY, 0, none⟩)) := over_cell (by rw [cell_of_block kp]; rfl)
  have o_kp_2 : ∀ x, (over w1 x).cell? ⟨p, 2, none⟩ = some (.int .i64 0) := over_cell (by rw [cell_of_block kp]; rfl)
  have o_kp_3 : ∀ x, (over w1 x).cell? ⟨p, 3, none⟩ = some (.int .i64 lo) := over_cell (by rw [cell_of_block kp]; rfl)
  have o_kp_4 : ∀ x, (over w1 x).cell? ⟨p, 4, none⟩ = some (.slice aO nO cO) := over_cell (by rw [cell_of_block kp]; rfl)
  have o_kp_5 : ∀ x, (over w1 x).cell? ⟨p, 5, none⟩ = some (.int .i64 16777216) := over_cell (by rw [cell_of_block kp]; rfl)
  have o_kp_6 : ∀ x, (over w1 x).cell? ⟨p, 6, none⟩ = some (.int .i64 ly) := over_cell (by rw [cell_of_block kp]; rfl)
  have o_kp_7 : ∀ x, (over w1 x).cell? ⟨p, 7, none⟩ = some (.slice aY nY cY) := over_cell (by rw [cell_of_block kp]; rfl)
  have o_kp_8 : ∀ x, (over w1 x).cell? ⟨p, 8, none⟩ = some (lv) := over_cell (by rw [cell_of_block kp]; rfl)
  have o_k0_0 : ∀ x, (over w1 x).cell? ⟨w.heap.size, 0, none⟩ = some (.int .i64 5) := over_cell (by rw [cell_of_block k0]; rfl)
  have o_k0_1 : ∀ x, (over w1 x).cell? ⟨w.heap.size, 1, none⟩ = some (.int .i64 k) := over_cell (by rw [cell_of_block k0]; rfl)
  have o_k0_2 : ∀ x, (over w1 x).cell? ⟨w.heap.size, 2, none⟩ = some (.int .i64 c) := over_cell (by rw [cell_of_block k0]; rfl)
  have o_k0_3 : ∀ x, (over w1 x).cell? ⟨w.heap.size, 3, none⟩ = some (.int .i64 f) := over_cell (by rw [cell_of_block k0]; rfl)
  have o_k0_4 : ∀ x, (over w1 x).cell? ⟨w.heap.size, 4, none⟩ = some (.int .i64 m) := over_cell (by rw [cell_of_block k0]; rfl)
  have o_k0_5 : ∀ x, (over w1 x).cell? ⟨w.heap.size, 5, none⟩ = some (.int .i64 s) := over_cell (by rw [cell_of_block k0]; rfl)
  have o_k0_6 : ∀ x, (over w1 x).cell? ⟨w.heap.size, 6, none⟩ = some (.int .i64 a) := over_cell (by rw [cell_of_block k0]; rfl)
  have o_k0_7 : ∀ x, (over w1 x).cell? ⟨w.heap.size, 7, none⟩ = some (.int .i64 b) := over_cell (by rw [cell_of_block k0]; rfl)
  have o_k0_8 : ∀ x, (over w1 x).cell? ⟨w.heap.size, 8, none⟩ = some (.int .i64 i) := over_cell (by rw [cell_of_block k0]; rfl)
  have o_k0_9 : ∀ x, (over w1 x).cell? ⟨w.heap.size, 9, none⟩ = some (.int .u64 u) := over_cell (by rw [cell_of_block k0]; rfl)
  have o_k0_10 : ∀ x, (over w1 x).cell? ⟨w.heap.size, 10, none⟩ = some (.bool raw) := over_cell (by rw [cell_of_block k0]; rfl)
  (refine wp_region_over (by kernel_rfl) (by kernel_rfl) ?_); (repeat (go_big_quiet_step ((first | (go_at_call 21; exact calls_over (hat _ (bchain (over_below w1 _) hb1))))))); (refine wpQuiet_nil ?_)
  intro w2 hb2
  have k0 := bblock hb2 k0
  have kp := bblock hb2 kp
  have hB2 : Below w.heap.size w w2 := bchain hb2 hb1
  clear hb1 hb2 hat o_kp_0 o_kp_1 o_kp_2 o_kp_3 o_kp_4 o_kp_5 o_kp_6 o_kp_7 o_kp_8 o_k0_0 o_k0_1 o_k0_2 o_k0_3 o_k0_4 o_k0_5 o_k0_6 o_k0_7 o_k0_8 o_k0_9 o_k0_10
  have kp_0 : w2.cell? ⟨p, 0, none⟩ = some (.pointer (some ⟨bO, 0, none⟩)) := by rw [cell_of_block kp]; rfl
  have kp_1 : w2.cell? ⟨p, 1, none⟩ = some (.pointer (some ⟨bY, 0, none⟩)) := by rw [cell_of_block kp]; rfl
  have kp_2 : w2.cell? ⟨p, 2, none⟩ = some (.int .i64 0) := by rw [cell_of_block kp]; rfl
  have kp_3 : w2.cell? ⟨p, 3, none⟩ = some (.int .i64 lo) := by rw [cell_of_block kp]; rfl
  have kp_4 : w2.cell? ⟨p, 4, none⟩ = some (.slice aO nO cO) := by rw [cell_of_block kp]; rfl
  have kp_5 : w2.cell? ⟨p, 5, none⟩ = some (.int .i64 16777216) := by rw [cell_of_block kp]; rfl
  have kp_6 : w2.cell? ⟨p, 6, none⟩ = some (.int .i64 ly) := by rw [cell_of_block kp]; rfl
  have kp_7 : w2.cell? ⟨p, 7, none⟩ = some (.slice aY nY cY) := by rw [cell_of_block kp]; rfl
  have kp_8 : w2.cell? ⟨p, 8, none⟩ = some (lv) := by rw [cell_of_block kp]; rfl
  have k0_0 : w2.cell? ⟨w.heap.size, 0, none⟩ = some (.int .i64 5) := by rw [cell_of_block k0]; rfl
  have k0_1 : w2.cell? ⟨w.heap.size, 1, none⟩ = some (.int .i64 k) := by rw [cell_of_block k0]; rfl
  have k0_2 : w2.cell? ⟨w.heap.size, 2, none⟩ = some (.int .i64 c) := by rw [cell_of_block k0]; rfl
  have k0_3 : w2.cell? ⟨w.heap.size, 3, none⟩ = some (.int .i64 f) := by rw [cell_of_block k0]; rfl
  have k0_4 : w2.cell? ⟨w.heap.size, 4, none⟩ = some (.int .i64 m) := by rw [cell_of_block k0]; rfl
  have k0_5 : w2.cell? ⟨w.heap.size, 5, none⟩ = some (.int .i64 s) := by rw [cell_of_block k0]; rfl
  have k0_6 : w2.cell? ⟨w.heap.size, 6, none⟩ = some (.int .i64 a) := by rw [cell_of_block k0]; rfl
  have k0_7 : w2.cell? ⟨w.heap.size, 7, none⟩ = some (.int .i64 b) := by rw [cell_of_block k0]; rfl
  have k0_8 : w2.cell? ⟨w.heap.size, 8, none⟩ = some (.int .i64 i) := by rw [cell_of_block k0]; rfl
  have k0_9 : w2.cell? ⟨w.heap.size, 9, none⟩ = some (.int .u64 u) := by rw [cell_of_block k0]; rfl
  have k0_10 : w2.cell? ⟨w.heap.size, 10, none⟩ = some (.bool raw) := by rw [cell_of_block k0]; rfl
  go_wp2_with fail
  have o_kp_0 : ∀ x, (over w2 x).cell? ⟨p, 0, none⟩ = some (.pointer (some ⟨bO, 0, none⟩)) := over_cell (by rw [cell_of_block kp]; rfl)
  have o_kp_1 : ∀ x, (over w2 x).cell? ⟨p, 1, none⟩ = some (.pointer (some ⟨bY, 0, none⟩)) := over_cell (by rw [cell_of_block kp]; rfl)
  have o_kp_2 : ∀ x, (over w2 x).cell? ⟨p, 2, none⟩ = some (.int .i64 0) := over_cell (by rw [cell_of_block kp]; rfl)
  have o_kp_3 : ∀ x, (over w2 x).cell? ⟨p, 3, none⟩ = some (.int .i64 lo) := over_cell (by rw [cell_of_block kp]; rfl)
  have o_kp_4 : ∀ x, (over w2 x).cell? ⟨p, 4, none⟩ = some (.slice aO nO cO) := over_cell (by rw [cell_of_block kp]; rfl)
  have o_kp_5 : ∀ x, (over w2 x).cell? ⟨p, 5, none⟩ = some (.int .i64 16777216) := over_cell (by rw [cell_of_block kp]; rfl)
  have o_kp_6 : ∀ x, (over w2 x).cell? ⟨p, 6, none⟩ = some (.int .i64 ly) := over_cell (by rw [cell_of_block kp]; rfl)
  have o_kp_7 : ∀ x, (over w2 x).cell? ⟨p, 7, none⟩ = some (.slice aY nY cY) := over_cell (by rw [cell_of_block kp]; rfl)
  have o_kp_8 : ∀ x, (over w2 x).cell? ⟨p, 8, none⟩ = some (lv) := over_cell (by rw [cell_of_block kp]; rfl)
  have o_k0_0 : ∀ x, (over w2 x).cell? ⟨w.heap.size, 0, none⟩ = some (.int .i64 5) := over_cell (by rw [cell_of_block k0]; rfl)
  have o_k0_1 : ∀ x, (over w2 x).cell? ⟨w.heap.size, 1, none⟩ = some (.int .i64 k) := over_cell (by rw [cell_of_block k0]; rfl)
  have o_k0_2 : ∀ x, (over w2 x).cell? ⟨w.heap.size, 2, none⟩ = some (.int .i64 c) := over_cell (by rw [cell_of_block k0]; rfl)
  have o_k0_3 : ∀ x, (over w2 x).cell? ⟨w.heap.size, 3, none⟩ = some (.int .i64 f) := over_cell (by rw [cell_of_block k0]; rfl)
  have o_k0_4 : ∀ x, (over w2 x).cell? ⟨w.heap.size, 4, none⟩ = some (.int .i64 m) := over_cell (by rw [cell_of_block k0]; rfl)
  have o_k0_5 : ∀ x, (over w2 x).cell? ⟨w.heap.size, 5, none⟩ = some (.int .i64 s) := over_cell (by rw [cell_of_block k0]; rfl)
  have o_k0_6 : ∀ x, (over w2 x).cell? ⟨w.heap.size, 6, none⟩ = some (.int .i64 a) := over_cell (by rw [cell_of_block k0]; rfl)
  have o_k0_7 : ∀ x, (over w2 x).cell? ⟨w.heap.size, 7, none⟩ = some (.int .i64 b) := over_cell (by rw [cell_of_block k0]; rfl)
  have o_k0_8 : ∀ x, (over w2 x).cell? ⟨w.heap.size, 8, none⟩ = some (.int .i64 i) := over_cell (by rw [cell_of_block k0]; rfl)
  have o_k0_9 : ∀ x, (over w2 x).cell? ⟨w.heap.size, 9, none⟩ = some (.int .u64 u) := over_cell (by rw [cell_of_block k0]; rfl)
  have o_k0_10 : ∀ x, (over w2 x).cell? ⟨w.heap.size, 10, none⟩ = some (.bool raw) := over_cell (by rw [cell_of_block k0]; rfl)
  (refine wp_region_over (by kernel_rfl) (by kernel_rfl) ?_); (repeat (go_big_quiet_step ((first | (go_at_call 21; exact calls_over (hat2 _ (bchain (over_below w2 _) hB2))))))); (refine wpQuiet_nil ?_)
  intro w8 hbn
  have k0 := bblock hbn k0
  have kp := bblock hbn kp
  have hB8 : Below w.heap.size w w8 := bchain hbn hB2
  clear hbn hat2 o_kp_0 o_kp_1 o_kp_2 o_kp_3 o_kp_4 o_kp_5 o_kp_6 o_kp_7 o_kp_8 o_k0_0 o_k0_1 o_k0_2 o_k0_3 o_k0_4 o_k0_5 o_k0_6 o_k0_7 o_k0_8 o_k0_9 o_k0_10
  clear kp_0 kp_1 kp_2 kp_3 kp_4 kp_5 kp_6 kp_7 kp_8 k0_0 k0_1 k0_2 k0_3 k0_4 k0_5 k0_6 k0_7 k0_8 k0_9 k0_10
  have kp_0 : w8.cell? ⟨p, 0, none⟩ = some (.pointer (some ⟨bO, 0, none⟩)) := by rw [cell_of_block kp]; rfl
  have kp_1 : w8.cell? ⟨p, 1, none⟩ = some (.pointer (some ⟨bY, 0, none⟩)) := by rw [cell_of_block kp]; rfl
  have kp_2 : w8.cell? ⟨p, 2, none⟩ = some (.int .i64 0) := by rw [cell_of_block kp]; rfl
  have kp_3 : w8.cell? ⟨p, 3, none⟩ = some (.int .i64 lo) := by rw [cell_of_block kp]; rfl
  have kp_4 : w8.cell? ⟨p, 4, none⟩ = some (.slice aO nO cO) := by rw [cell_of_block kp]; rfl
  have kp_5 : w8.cell? ⟨p, 5, none⟩ = some (.int .i64 16777216) := by rw [cell_of_block kp]; rfl
  have kp_6 : w8.cell? ⟨p, 6, none⟩ = some (.int .i64 ly) := by rw [cell_of_block kp]; rfl
  have kp_7 : w8.cell? ⟨p, 7, none⟩ = some (.slice aY nY cY) := by rw [cell_of_block kp]; rfl
  have kp_8 : w8.cell? ⟨p, 8, none⟩ = some (lv) := by rw [cell_of_block kp]; rfl
  have k0_0 : w8.cell? ⟨w.heap.size, 0, none⟩ = some (.int .i64 5) := by rw [cell_of_block k0]; rfl
  have k0_1 : w8.cell? ⟨w.heap.size, 1, none⟩ = some (.int .i64 k) := by rw [cell_of_block k0]; rfl
  have k0_2 : w8.cell? ⟨w.heap.size, 2, none⟩ = some (.int .i64 c) := by rw [cell_of_block k0]; rfl
  have k0_3 : w8.cell? ⟨w.heap.size, 3, none⟩ = some (.int .i64 f) := by rw [cell_of_block k0]; rfl
  have k0_4 : w8.cell? ⟨w.heap.size, 4, none⟩ = some (.int .i64 m) := by rw [cell_of_block k0]; rfl
  have k0_5 : w8.cell? ⟨w.heap.size, 5, none⟩ = some (.int .i64 s) := by rw [cell_of_block k0]; rfl
  have k0_6 : w8.cell? ⟨w.heap.size, 6, none⟩ = some (.int .i64 a) := by rw [cell_of_block k0]; rfl
  have k0_7 : w8.cell? ⟨w.heap.size, 7, none⟩ = some (.int .i64 b) := by rw [cell_of_block k0]; rfl
  have k0_8 : w8.cell? ⟨w.heap.size, 8, none⟩ = some (.int .i64 i) := by rw [cell_of_block k0]; rfl
  have k0_9 : w8.cell? ⟨w.heap.size, 9, none⟩ = some (.int .u64 u) := by rw [cell_of_block k0]; rfl
  have k0_10 : w8.cell? ⟨w.heap.size, 10, none⟩ = some (.bool raw) := by rw [cell_of_block k0]; rfl
  go_wp2_with fail
  refine (hR _ hB8).mono ?_
  rintro e w3 ⟨aO', nO', cO', aY', nY', cY', rO', rY', rfl, hr3, hg1, hg2, hb3⟩
  have kp := bblock hb3 kp
  have k0 := bblock hb3 k0
  have hB3 : Below w.heap.size w w3 := bchain hb3 hB8
  have h8z := hB8.size
  clear kp_0 kp_1 kp_2 kp_3 kp_4 kp_5 kp_6 kp_7 kp_8 k0_0 k0_1 k0_2 k0_3 k0_4 k0_5 k0_6 k0_7 k0_8 k0_9 k0_10
  have hg1 : ∀ G, rO' = some G → rO = some G ∨ w.heap.size ≤ G := fun G e => (hg1 G e).imp id (fun h => by omega)
  have hg2 : ∀ G, rY' = some G → rY = some G ∨ w.heap.size ≤ G := fun G e => (hg2 G e).imp id (fun h => by omega)
  have Hg1 := Lib.hid hg1
  have Hg2 := Lib.hid hg2
  clear hg1 hg2 hb3 hR
  go_upto_region 29 with fail
  have hB4 : Below w.heap.size w (w3.alloc (.cells #[.int .i64 0, .int .i64 lo, .slice aO' nO' cO', .int .i64 16777216, .int .i64 ly, .slice aY' nY' cY'] 35)) := hB3.alloc hB3.size _
  have hr4 := hr3.below (balloc (Below.refl _ w3) (.cells #[.int .i64 0, .int .i64 lo, .slice aO' nO' cO', .int .i64 16777216, .int .i64 ly, .slice aY' nY' cY'] 35))
  have kv : (w3.alloc (.cells #[.int .i64 0, .int .i64 lo, .slice aO' nO' cO', .int .i64 16777216, .int .i64 ly, .slice aY' nY' cY'] 35)).heap[w3.heap.size]? = some (.cells #[.int .i64 0, .int .i64 lo, .slice aO' nO' cO', .int .i64 16777216, .int .i64 ly, .slice aY' nY' cY'] 35 (0, 0)) := alloc_get _ _
  have kp : (w3.alloc (.cells #[.int .i64 0, .int .i64 lo, .slice aO' nO' cO', .int .i64 16777216, .int .i64 ly, .slice aY' nY' cY'] 35)).heap[p]? = _ := alloc_lt _ kp
  have k0 : (w3.alloc (.cells #[.int .i64 0, .int .i64 lo, .slice aO' nO' cO', .int .i64 16777216, .int .i64 ly, .slice aY' nY' cY'] 35)).heap[w.heap.size]? = _ := alloc_lt _ k0
  have h3z := hB3.size
  have hpV : p ≠ w3.heap.size := by omega
  have hzV := (Array.getElem?_eq_some_iff.1 kv).1
  obtain ⟨V, hV⟩ : ∃ V, w3.heap.size = V := ⟨_, rfl⟩
  obtain ⟨w4, hw4⟩ : ∃ w4, (w3.alloc (.cells #[.int .i64 0, .int .i64 lo, .slice aO' nO' cO', .int .i64 16777216, .int .i64 ly, .slice aY' nY' cY'] 35)) = w4 := ⟨_, rfl⟩
  rw [hw4] at hr4 hB4 kv kp k0 hzV ⊢
  rw [hV] at kv hpV hzV ⊢
  clear hw4 hV hr3 hB3 h3z h8z
  have kp_0 : w4.cell? ⟨p, 0, none⟩ = some (.pointer (some ⟨bO, 0, none⟩)) := by rw [cell_of_block kp]; rfl
  have kp_1 : w4.cell? ⟨p, 1, none⟩ = some (.pointer (some ⟨bY, 0, none⟩)) := by rw [cell_of_block kp]; rfl
  have kp_2 : w4.cell? ⟨p, 2, none⟩ = some (.int .i64 0) := by rw [cell_of_block kp]; rfl
  have kp_3 : w4.cell? ⟨p, 3, none⟩ = some (.int .i64 lo) := by rw [cell_of_block kp]; rfl
  have kp_4 : w4.cell? ⟨p, 4, none⟩ = some (.slice aO nO cO) := by rw [cell_of_block kp]; rfl
  have kp_5 : w4.cell? ⟨p, 5, none⟩ = some (.int .i64 16777216) := by rw [cell_of_block kp]; rfl
  have kp_6 : w4.cell? ⟨p, 6, none⟩ = some (.int .i64 ly) := by rw [cell_of_block kp]; rfl
  have kp_7 : w4.cell? ⟨p, 7, none⟩ = some (.slice aY nY cY) := by rw [cell_of_block kp]; rfl
  have kp_8 : w4.cell? ⟨p, 8, none⟩ = some (lv) := by rw [cell_of_block kp]; rfl
  have kp_f : ∀ i, w4.frozen? ⟨p, i, none⟩ = false := frozen_of_block kp
  have k0_0 : w4.cell? ⟨w.heap.size, 0, none⟩ = some (.int .i64 5) := by rw [cell_of_block k0]; rfl
  have k0_1 : w4.cell? ⟨w.heap.size, 1, none⟩ = some (.int .i64 k) := by rw [cell_of_block k0]; rfl
  have k0_2 : w4.cell? ⟨w.heap.size, 2, none⟩ = some (.int .i64 c) := by rw [cell_of_block k0]; rfl
  have k0_3 : w4.cell? ⟨w.heap.size, 3, none⟩ = some (.int .i64 f) := by rw [cell_of_block k0]; rfl
  have k0_4 : w4.cell? ⟨w.heap.size, 4, none⟩ = some (.int .i64 m) := by rw [cell_of_block k0]; rfl
  have k0_5 : w4.cell? ⟨w.heap.size, 5, none⟩ = some (.int .i64 s) := by rw [cell_of_block k0]; rfl
  have k0_6 : w4.cell? ⟨w.heap.size, 6, none⟩ = some (.int .i64 a) := by rw [cell_of_block k0]; rfl
  have k0_7 : w4.cell? ⟨w.heap.size, 7, none⟩ = some (.int .i64 b) := by rw [cell_of_block k0]; rfl
  have k0_8 : w4.cell? ⟨w.heap.size, 8, none⟩ = some (.int .i64 i) := by rw [cell_of_block k0]; rfl
  have k0_9 : w4.cell? ⟨w.heap.size, 9, none⟩ = some (.int .u64 u) := by rw [cell_of_block k0]; rfl
  have k0_10 : w4.cell? ⟨w.heap.size, 10, none⟩ = some (.bool raw) := by rw [cell_of_block k0]; rfl
  have kv_0 : w4.cell? ⟨V, 0, none⟩ = some (.int .i64 0) := by rw [cell_of_block kv]; rfl
  have kv_1 : w4.cell? ⟨V, 1, none⟩ = some (.int .i64 lo) := by rw [cell_of_block kv]; rfl
  have kv_2 : w4.cell? ⟨V, 2, none⟩ = some (.slice aO' nO' cO') := by rw [cell_of_block kv]; rfl
  have kv_3 : w4.cell? ⟨V, 3, none⟩ = some (.int .i64 16777216) := by rw [cell_of_block kv]; rfl
  have kv_4 : w4.cell? ⟨V, 4, none⟩ = some (.int .i64 ly) := by rw [cell_of_block kv]; rfl
  have kv_5 : w4.cell? ⟨V, 5, none⟩ = some (.slice aY' nY' cY') := by rw [cell_of_block kv]; rfl
  have hzp : p < w4.heap.size := (Array.getElem?_eq_some_iff.1 kp).1
  have hz0 : w.heap.size < w4.heap.size := (Array.getElem?_eq_some_iff.1 k0).1
  go_upto_region 30 with fail
  have hM5 : Mods (fun k => k = p) w4 ((((((w4.setCell ⟨p, 2, none⟩ (.int .i64 0)).setCell ⟨p, 3, none⟩ (.int .i64 lo)).setCell ⟨p, 4, none⟩ (.slice aO' nO' cO')).setCell ⟨p, 5, none⟩ (.int .i64 16777216)).setCell ⟨p, 6, none⟩ (.int .i64 ly)).setCell ⟨p, 7, none⟩ (.slice aY' nY' cY')) := six_off_mods
  have kp5 : ((((((w4.setCell ⟨p, 2, none⟩ (.int .i64 0)).setCell ⟨p, 3, none⟩ (.int .i64 lo)).setCell ⟨p, 4, none⟩ (.slice aO' nO' cO')).setCell ⟨p, 5, none⟩ (.int .i64 16777216)).setCell ⟨p, 6, none⟩ (.int .i64 ly)).setCell ⟨p, 7, none⟩ (.slice aY' nY' cY')).heap[p]? = some (.cells #[.pointer (some ⟨bO, 0, none⟩), .pointer (some ⟨bY, 0, none⟩), .int .i64 0, .int .i64 lo, .slice aO' nO' cO', .int .i64 16777216, .int .i64 ly, .slice aY' nY' cY', lv] 47 (0, 0)) := six_off kp
  have k05 : ((((((w4.setCell ⟨p, 2, none⟩ (.int .i64 0)).setCell ⟨p, 3, none⟩ (.int .i64 lo)).setCell ⟨p, 4, none⟩ (.slice aO' nO' cO')).setCell ⟨p, 5, none⟩ (.int .i64 16777216)).setCell ⟨p, 6, none⟩ (.int .i64 ly)).setCell ⟨p, 7, none⟩ (.slice aY' nY' cY')).heap[w.heap.size]? = some (.cells #[.int .i64 5, .int .i64 k, .int .i64 c, .int .i64 f, .int .i64 m, .int .i64 s, .int .i64 a, .int .i64 b, .int .i64 i, .int .u64 u, .bool raw] 58 (0, 0)) := six_off_other k0 (Ne.symm hpn)
  obtain ⟨w5, hw5⟩ : ∃ w5, ((((((w4.setCell ⟨p, 2, none⟩ (.int .i64 0)).setCell ⟨p, 3, none⟩ (.int .i64 lo)).setCell ⟨p, 4, none⟩ (.slice aO' nO' cO')).setCell ⟨p, 5, none⟩ (.int .i64 16777216)).setCell ⟨p, 6, none⟩ (.int .i64 ly)).setCell ⟨p, 7, none⟩ (.slice aY' nY' cY')) = w5 := ⟨_, rfl⟩
  rw [hw5] at hM5 kp5 k05 ⊢
  clear hw5 kp_0 kp_1 kp_2 kp_3 kp_4 kp_5 kp_6 kp_7 kp_8 k0_0 k0_1 k0_2 k0_3 k0_4 k0_5 k0_6 k0_7 k0_8 k0_9 k0_10 kv_0 kv_1 kv_2 kv_3 kv_4 kv_5 kp_f kp k0 kv
  have hm5 : MemAt w5 bO bY lo ly x.wo x.wy gO gY := (hI.mem.below hB4).mods hM5 (fun k hk => Hsep.out k (.inl hk))
  have kp5_0 : w5.cell? ⟨p, 0, none⟩ = some (.pointer (some ⟨bO, 0, none⟩)) := by rw [cell_of_block kp5]; rfl
  have kp5_1 : w5.cell? ⟨p, 1, none⟩ = some (.pointer (some ⟨bY, 0, none⟩)) := by rw [cell_of_block kp5]; rfl
  have kp5_2 : w5.cell? ⟨p, 2, none⟩ = some (.int .i64 0) := by rw [cell_of_block kp5]; rfl
  have kp5_3 : w5.cell? ⟨p, 3, none⟩ = some (.int .i64 lo) := by rw [cell_of_block kp5]; rfl
  have kp5_4 : w5.cell? ⟨p, 4, none⟩ = some (.slice aO' nO' cO') := by rw [cell_of_block kp5]; rfl
  have kp5_5 : w5.cell? ⟨p, 5, none⟩ = some (.int .i64 16777216) := by rw [cell_of_block kp5]; rfl
  have kp5_6 : w5.cell? ⟨p, 6, none⟩ = some (.int .i64 ly) := by rw [cell_of_block kp5]; rfl
  have kp5_7 : w5.cell? ⟨p, 7, none⟩ = some (.slice aY' nY' cY') := by rw [cell_of_block kp5]; rfl
  have kp5_8 : w5.cell? ⟨p, 8, none⟩ = some (lv) := by rw [cell_of_block kp5]; rfl
  go_wp2_with fail
  refine (hA _ hm5).mono ?_
  rintro e w6 ⟨rfl, hm6, hX6⟩
  go_wp2
  go_ret
  exact ⟨rfl, WAt.finQ hI hn hp0 hp1 Hsep.out hB4 hr4 Hg1.out Hg2.out hM5 hm6 hX6 kp5⟩
theorem stp_5 {w : World} {n0 p : Nat} {lo ly : Int} {x : S7} (h : WAt w n0 p lo ly x) (hn : n0 ≤ w.heap.size) (k c f m s a b i u : Int) (raw : Bool)  :
    Calls Try.prog 22 #[.pointer (some ⟨p, 0, none⟩), .agg #[.int .i64 5, .int .i64 k, .int .i64 c, .int .i64 f, .int .i64 m, .int .i64 s, .int .i64 a, .int .i64 b, .int .i64 i, .int .u64 u, .bool raw]] w (StP w n0 p lo ly ⟨(tfM x.wo x.wy (atW raw x.l a) (atW raw x.l b)).1, (tfM x.wo x.wy (atW raw x.l a) (atW raw x.l b)).2, x.l⟩) := by
  obtain ⟨bO, bY, aO, nO, cO, aY, nY, cY, lv, gO, gY, rO, rY, hp0, kp, hI, hsep⟩ := h
  exact (stq_5 hp0 kp hI hsep hn k c f m s a b i u raw).mono (fun e w' hq => hq.to hp0 hI.ms)
end Go.Proofs.Ytcmhgjkijegpnaa
namespace Go.Proofs.Ytcmhgjkijegpnaa
open Go.RowKit
set_option linter.unusedSimpArgs false
set_option linter.unusedVariables false

set_option maxRecDepth 100000 in
set_option maxHeartbeats 4000000 in
theorem stp_other {w : World} {n0 p : Nat} {lo ly : Int} {x : S7} (h : WAt w n0 p lo ly x) (hn : n0 ≤ w.heap.size) (kd k c f m s a b i u : Int) (raw : Bool) (h0 : (kd == (0 : Int)) = false) (h1 : (kd == (1 : Int)) = false) (h2 : (kd == (2 : Int)) = false) (h3 : (kd == (3 : Int)) = false) (h4 : (kd == (4 : Int)) = false) (h5 : (kd == (5 : Int)) = false) (h6 : (kd == (6 : Int)) = false) :
    Calls Try.prog 22 #[.pointer (some ⟨p, 0, none⟩), .agg #[.int .i64 kd, .int .i64 k, .int .i64 c, .int .i64 f, .int .i64 m, .int .i64 s, .int .i64 a, .int .i64 b, .int .i64 i, .int .u64 u, .bool raw]] w (StP w n0 p lo ly ⟨x.wo, x.wy, x.l⟩) := by
  obtain ⟨bO, bY, aO, nO, cO, aY, nY, cY, lv, gO, gY, rO, rY, hp0, kp, hI, hsep⟩ := h
  have hp1 : p < w.heap.size := (Array.getElem?_eq_some_iff.1 kp).1
  have hpn : p ≠ w.heap.size := by omega
  have Hsep := Lib.hid hsep
  clear hsep
  have kp : w.heap[p]? = some (.cells #[.pointer (some ⟨bO, 0, none⟩), .pointer (some ⟨bY, 0, none⟩), .int .i64 0, .int .i64 lo, .slice aO nO cO, .int .i64 16777216, .int .i64 ly, .slice aY nY cY, lv] 47 (0, 0)) := kp
  have hat := fun W (H : Below w.heap.size w W) => wat_row (.pointer (some ⟨bO, 0, none⟩)) (.pointer (some ⟨bY, 0, none⟩)) (.int .i64 0) (.int .i64 lo) (.slice aO nO cO) (.int .i64 16777216) (.int .i64 ly) (.slice aY nY cY) kd k c f m s a b i u raw a (row_keep hI.lst (fun G o e ho => bblock H ho))
  generalize atW raw x.l a = y at *
  go_enter Try.func22, Try.ntmps22
  go_wp2_with fail
  obtain ⟨w1, hw1⟩ : ∃ w1, (w.alloc (.cells #[.int .i64 kd, .int .i64 k, .int .i64 c, .int .i64 f, .int .i64 m, .int .i64 s, .int .i64 a, .int .i64 b, .int .i64 i, .int .u64 u, .bool raw] 58)) = w1 := ⟨_, rfl⟩
  have hb1 : Below w.heap.size w w1 := by rw [← hw1]; exact balloc (Below.refl _ _) _
  have k0 : w1.heap[w.heap.size]? = some (.cells #[.int .i64 kd, .int .i64 k, .int .i64 c, .int .i64 f, .int .i64 m, .int .i64 s, .int .i64 a, .int .i64 b, .int .i64 i, .int .u64 u, .bool raw] 58 (0, 0)) := by rw [← hw1]; exact alloc_get _ _
  have kp : w1.heap[p]? = some (.cells #[.pointer (some ⟨bO, 0, none⟩), .pointer (some ⟨bY, 0, none⟩), .int .i64 0, .int .i64 lo, .slice aO nO cO, .int .i64 16777216, .int .i64 ly, .slice aY nY cY, lv] 47 (0, 0)) := bblock hb1 kp
  rw [hw1]
  clear hw1
  have o_kp_0 : ∀ x, (over w1 x).cell? ⟨p, 0, none⟩ = some (.pointer (some ⟨bO, 0, none⟩)) := over_cell (by rw [cell_of_block kp]; rfl)
  have o_kp_1 : ∀ x, (over w1 x).cell? ⟨p, 1, none⟩ = some (.pointer (some ⟨bY, 0, none⟩)) := over_cell (by rw [cell_of_block kp]; rfl)
  have o_kp_2 : ∀ x, (over w1 x).cell? ⟨p, 2, none⟩ = some (.int .i64 0) := over_cell (by rw [cell_of_block kp]; rfl)
  have o_kp_3 : ∀ x, (over w1 x).cell? ⟨p, 3, none⟩ = some (.int .i64 lo) := over_cell (by rw [cell_of_block kp]; rfl)
  have o_kp_4 : ∀ x, (over w1 x).cell? ⟨p, 4, none⟩ = some (.slice aO nO cO) := over_cell (by rw [cell_of_block kp]; rfl)
  have o_kp_5 : ∀ x, (over w1 x).cell? ⟨p, 5, none⟩ = some (.int .i64 16777216) := over_cell (by rw [cell_of_block kp]; rfl)
  have o_kp_6 : ∀ x, (over w1 x).cell? ⟨p, 6, none⟩ = some (.int .i64 ly) := over_cell (by rw [cell_of_block kp]; rfl)
  have o_kp_7 : ∀ x, (over w1 x).cell? ⟨p, 7, none⟩ = some (.slice aY nY cY) := over_cell (by rw [cell_of_block kp]; rfl)
  have o_kp_8 : ∀ x, (over w1 x).cell? ⟨p, 8, none⟩ = some (lv) := over_cell (by rw [cell_of_block kp]; rfl)
  have o_k0_0 : ∀ x, (over w1 x).cell? ⟨w.heap.size, 0, none⟩ = some (.int .i64 kd) := over_cell (by rw [cell_of_block k0]; rfl)
  have o_k0_1 : ∀ x, (over w1 x).cell? ⟨w.heap.size, 1, none⟩ = some (.int .i64 k) := over_cell (by rw [cell_of_block k0]; rfl)
  have o_k0_2 : ∀ x, (over w1 x).cell? ⟨w.heap.size, 2, none⟩ = some (.int .i64 c) := over_cell (by rw [cell_of_block k0]; rfl)
  have o_k0_3 : ∀ x, (over w1 x).cell? ⟨w.heap.size, 3, none⟩ = some (.int .i64 f) := over_cell (by rw [cell_of_block k0]; rfl)
  have o_k0_4 : ∀ x, (over w1 x).cell? ⟨w.heap.size, 4, none⟩ = some (.int .i64 m) := over_cell (by rw [cell_of_block k0]; rfl)
  have o_k0_5 : ∀ x, (over w1 x).cell? ⟨w.heap.size, 5, none⟩ = some (.int .i64 s) := over_cell (by rw [cell_of_block k0]; rfl)
  have o_k0_6 : ∀ x, (over w1 x).cell? ⟨w.heap.size, 6, none⟩ = some (.int .i64 a) := over_cell (by rw [cell_of_block k0]; rfl)
  have o_k0_7 : ∀ x, (over w1 x).cell? ⟨w.heap.size, 7, none⟩ = some (.int .i64 b) := over_cell (by rw [cell_of_block k0]; rfl)
  have o_k0_8 : ∀ x, (over w1 x).cell? ⟨w.heap.size, 8, none⟩ = some (.int .i64 i) := over_cell (by rw [cell_of_block k0]; rfl)
  have o_k0_9 : ∀ x, (over w1 x).cell? ⟨w.heap.size, 9, none⟩ = some (.int .u64 u) := over_cell (by rw [cell_of_block k0]; rfl)
  have o_k0_10 : ∀ x, (over w1 x).cell? ⟨w.heap.size, 10, none⟩ = some (.bool raw) := over_cell (by rw [cell_of_block k0]; rfl)
  (refine wp_region_over (by kernel_rfl) (by kernel_rfl) ?_); (repeat (go_big_quiet_step ((first | (go_at_call 21; exact calls_over (hat _ (bchain (over_below w1 _) hb1))))))); (refine wpQuiet_nil ?_)
  intro w2 hb2
  have k0 := bblock hb2 k0
  have kp := bblock hb2 kp
  have hB2 : Below w.heap.size w w2 := bchain hb2 hb1
  clear hb1 hb2 hat o_kp_0 o_kp_1 o_kp_2 o_kp_3 o_kp_4 o_kp_5 o_kp_6 o_kp_7 o_kp_8 o_k0_0 o_k0_1 o_k0_2 o_k0_3 o_k0_4 o_k0_5 o_k0_6 o_k0_7 o_k0_8 o_k0_9 o_k0_10
  have kp_0 : w2.cell? ⟨p, 0, none⟩ = some (.pointer (some ⟨bO, 0, none⟩)) := by rw [cell_of_block kp]; rfl
  have kp_1 : w2.cell? ⟨p, 1, none⟩ = some (.pointer (some ⟨bY, 0, none⟩)) := by rw [cell_of_block kp]; rfl
  have kp_2 : w2.cell? ⟨p, 2, none⟩ = some (.int .i64 0) := by rw [cell_of_block kp]; rfl
  have kp_3 : w2.cell? ⟨p, 3, none⟩ = some (.int .i64 lo) := by rw [cell_of_block kp]; rfl
  have kp_4 : w2.cell? ⟨p, 4, none⟩ = some (.slice aO nO cO) := by rw [cell_of_block kp]; rfl
  have kp_5 : w2.cell? ⟨p, 5, none⟩ = some (.int .i64 16777216) := by rw [cell_of_block kp]; rfl
  have kp_6 : w2.cell? ⟨p, 6, none⟩ = some (.int .i64 ly) := by rw [cell_of_block kp]; rfl
  have kp_7 : w2.cell? ⟨p, 7, none⟩ = some (.slice aY nY cY) := by rw [cell_of_block kp]; rfl
  have kp_8 : w2.cell? ⟨p, 8, none⟩ = some (lv) := by rw [cell_of_block kp]; rfl
  have k0_0 : w2.cell? ⟨w.heap.size, 0, none⟩ = some (.int .i64 kd) := by rw [cell_of_block k0]; rfl
  have k0_1 : w2.cell? ⟨w.heap.size, 1, none⟩ = some (.int .i64 k) := by rw [cell_of_block k0]; rfl
  have k0_2 : w2.cell? ⟨w.heap.size, 2, none⟩ = some (.int .i64 c) := by rw [cell_of_block k0]; rfl
  have k0_3 : w2.cell? ⟨w.heap.size, 3, none⟩ = some (.int .i64 f) := by rw [cell_of_block k0]; rfl
  have k0_4 : w2.cell? ⟨w.heap.size, 4, none⟩ = some (.int .i64 m) := by rw [cell_of_block k0]; rfl
  have k0_5 : w2.cell? ⟨w.heap.size, 5, none⟩ = some (.int .i64 s) := by rw [cell_of_block k0]; rfl
  have k0_6 : w2.cell? ⟨w.heap.size, 6, none⟩ = some (.int .i64 a) := by rw [cell_of_block k0]; rfl
  have k0_7 : w2.cell? ⟨w.heap.size, 7, none⟩ = some (.int .i64 b) := by rw [cell_of_block k0]; rfl
  have k0_8 : w2.cell? ⟨w.heap.size, 8, none⟩ = some (.int .i64 i) := by rw [cell_of_block k0]; rfl
  have k0_9 : w2.cell? ⟨w.heap.size, 9, none⟩ = some (.int .u64 u) := by rw [cell_of_block k0]; rfl
  have k0_10 : w2.cell? ⟨w.heap.size, 10, none⟩ = some (.bool raw) := by rw [cell_of_block k0]; rfl
  go_wp2
  go_ret
  exact ⟨rfl, ⟨bO, bY, aO, nO, cO, aY, nY, cY, lv, gO, gY, rO, rY, hp0, kp, hI.below (by (repeat (first | exact Below.refl _ _ | assumption | refine Below.drew ?_ | refine below_drewN ?_ _ | refine balloc ?_ _ | refine Below.setCell ?_ (by first | (simp; done) | (simp; omega) | omega) _ | refine bchain (by assumption) ?_))), Hsep.out⟩, Mods.of_below (show Below w.heap.size w _ from by (repeat (first | exact Below.refl _ _ | assumption | refine Below.drew ?_ | refine below_drewN ?_ _ | refine balloc ?_ _ | refine Below.setCell ?_ (by first | (simp; done) | (simp; omega) | omega) _ | refine bchain (by assumption) ?_)))⟩
end Go.Proofs.Ytcmhgjkijegpnaa
namespace Go.Proofs.Ytcmhgjkijegpnaa
open Go.RowKit
set_option linter.unusedSimpArgs false
set_option linter.unusedVariables false

theorem StP.to {w : World} {n0 p : Nat} {lo ly : Int} {x' y' : S7} {f : FuncId} {a : Array Value} (h : Calls Try.prog f a w (StP w n0 p lo ly x')) (e : x' = y') : Calls Try.prog f a w (StP w n0 p lo ly y') := e ▸ h
theorem step7_any {w : World} {n0 p : Nat} {lo ly : Int} {x : S7} (h : WAt w n0 p lo ly x) (hn : n0 ≤ w.heap.size) (hll : x.l.length ≤ 1000000) (kd k c f m s a b i u : Int) (raw : Bool) (hu : U64 u) :
    Calls Try.prog 22 #[.pointer (some ⟨p, 0, none⟩), .agg #[.int .i64 kd, .int .i64 k, .int .i64 c, .int .i64 f, .int .i64 m, .int .i64 s, .int .i64 a, .int .i64 b, .int .i64 i, .int .u64 u, .bool raw]] w (StP w n0 p lo ly (step7 lo ly x ⟨kd, k, c, f, m, s, a, b, i, u, raw⟩)) := by
  by_cases h0 : kd = 0
  · subst h0
    by_cases he : alE 0 lo x.wo k c f m s = 0
    · exact StP.to (stp_0y h hn k c f m s a b i u raw he hll) (by simp [step7, amO, amY, amE, amA, he])
    · exact StP.to (stp_0n h hn k c f m s a b i u raw he) (by simp [step7, amO, amY, amE, amA, he])
  by_cases h1 : kd = 1
  · subst h1
    by_cases he : alE 16777216 ly x.wy k c f m s = 0
    · exact StP.to (stp_1y h hn k c f m s a b i u raw he hll) (by simp [step7, amO, amY, amE, amA, he])
    · exact StP.to (stp_1n h hn k c f m s a b i u raw he) (by simp [step7, amO, amY, amE, amA, he])
  by_cases h2 : kd = 2
  · subst h2; exact StP.to (stp_2 h hn k c f m s a b i u raw hu) (by simp [step7])
  by_cases h3 : kd = 3
  · subst h3; exact StP.to (stp_3 h hn k c f m s a b i u raw hu) (by simp [step7])
  by_cases h4 : kd = 4
  · subst h4; exact StP.to (stp_4 h hn k c f m s a b i u raw hu) (by simp [step7])
  by_cases h5 : kd = 5
  · subst h5; exact StP.to (stp_5 h hn k c f m s a b i u raw) (by simp [step7])
  by_cases h6 : kd = 6
  · subst h6; exact StP.to (stp_6 h hn k c f m s a b i u raw hu) (by simp [step7])
  exact StP.to (stp_other h hn kd k c f m s a b i u raw (by simpa using h0) (by simpa using h1) (by simpa using h2) (by simpa using h3) (by simpa using h4) (by simpa using h5) (by simpa using h6)) (by simp [step7, h0, h1, h2, h3, h4, h5, h6])
end Go.Proofs.Ytcmhgjkijegpnaa
namespace Go.Proofs.Ytcmhgjkijegpnaa
open Go.RowKit
set_option linter.unusedSimpArgs false
set_option linter.unusedVariables false

/-- What built comes to. -/
def BuiltP (w : World) (x : S7) (e : Ending) (w' : World) : Prop :=
  ∃ (bO bY : Nat) (aO : Option Addr) (nO cO : Nat) (aY : Option Addr) (nY cY : Nat) (lv : Value) (gO gY rO rY : Option Nat), e = .returned (.tuple #[.agg (wcs bO bY 200 16777416 aO nO cO aY nY cY lv), .bool true]) ∧ WIn w' w.heap.size bO bY 200 16777416 x aO nO cO aY nY cY lv gO gY rO rY ∧ Below w.heap.size w w'
theorem run7_snoc (lo ly : Int) (raw : Bool) (x : S7) (l : List Op7) (o : Op7) : run7 lo ly raw x (l ++ [o]) = if skip7 raw o then run7 lo ly raw x l else step7 lo ly (run7 lo ly raw x l) o := by
  unfold run7
  rw [List.foldl_append]
  rfl
theorem take_snoc7 {l : List Op7} {t : Nat} {o : Op7} (h : l[t]? = some o) : l.take (t + 1) = l.take t ++ [o] := by
  obtain ⟨h1, h2⟩ := List.getElem?_eq_some_iff.1 h
  rw [List.take_succ_eq_append_getElem h1, h2]
theorem step7_len (lo ly : Int) (x : S7) (o : Op7) : (step7 lo ly x o).l.length ≤ x.l.length + 1 := by
  unfold step7
  simp only
  repeat' split
  all_goals simp
theorem run7_len (lo ly : Int) (raw : Bool) (l : List Op7) : ∀ x : S7, (run7 lo ly raw x l).l.length ≤ x.l.length + l.length := by
  induction l with
  | nil => intro x; simp [run7]
  | cons o l ih =>
    intro x
    have e : run7 lo ly raw x (o :: l) = run7 lo ly raw (if skip7 raw o then x else step7 lo ly x o) l := rfl
    rw [e]
    refine Nat.le_trans (ih _) ?_
    simp only [List.length_cons]
    split
    · omega
    · have := step7_len lo ly x o; omega
theorem WIn.base {w : World} {n0 n1 bO bY : Nat} {lo ly : Int} {x : S7} {aO : Option Addr} {nO cO : Nat} {aY : Option Addr} {nY cY : Nat} {lv : Value} {gO gY rO rY : Option Nat} (h : WIn w n0 bO bY lo ly x aO nO cO aY nY cY lv gO gY rO rY) (hn : n1 ≤ n0) : WIn w n1 bO bY lo ly x aO nO cO aY nY cY lv gO gY rO rY :=
  ⟨h.mem, h.ref, row_base7 h.lst hn, fun k hk => Nat.le_trans hn (h.ms k hk), h.rr, h.rl⟩
/-- A world that was just made. -/
theorem WIn.start {w1 w2 W : World} {n0 bO bY : Nat} {aO : Option Addr} {cO : Nat} {aY : Option Addr} {cY : Nat} (h1 : n0 ≤ bO) (h2 : n0 ≤ bY) (hm : MemAt w1 bO bY 200 16777416 [] [] none none) (hb : Below w1.heap.size w1 w2) (hr : RMem w2 aO 0 cO aY 0 cY 200 16777416 [] [] none none) (hW : Below w2.heap.size w2 W) : WIn W n0 bO bY 200 16777416 ⟨[], [], []⟩ aO 0 cO aY 0 cY (.slice none 0 0) none none none none := by
  refine ⟨(hm.below hb).below hW, hr.below hW, World.ownsRow_nil _ _ _ _, ?_, ?_, ?_⟩
  · rintro k ((h | h) | (h | h))
    · omega
    · cases h
    · omega
    · cases h
  · rintro G (e | e | e) <;> cases e
  · intro G e
    cases e
theorem nine_set {w : World} {k : Nat} {T : TypeId} {x0 x1 x2 x3 x4 x5 x6 x7 x8 b0 b1 b2 b3 b4 b5 b6 b7 b8 : Value} (h : w.heap[k]? = some (.cells #[x0, x1, x2, x3, x4, x5, x6, x7, x8] T (0, 0))) : (((((((((w.setCell ⟨k, 0, none⟩ b0).setCell ⟨k, 1, none⟩ b1).setCell ⟨k, 2, none⟩ b2).setCell ⟨k, 3, none⟩ b3).setCell ⟨k, 4, none⟩ b4).setCell ⟨k, 5, none⟩ b5).setCell ⟨k, 6, none⟩ b6).setCell ⟨k, 7, none⟩ b7).setCell ⟨k, 8, none⟩ b8).heap[k]? = some (.cells #[b0, b1, b2, b3, b4, b5, b6, b7, b8] T (0, 0)) := by
  have h0 : (w.setCell ⟨k, 0, none⟩ b0).heap[k]? = some (.cells #[b0, x1, x2, x3, x4, x5, x6, x7, x8] T (0, 0)) := block_set h
  have h1 : ((w.setCell ⟨k, 0, none⟩ b0).setCell ⟨k, 1, none⟩ b1).heap[k]? = some (.cells #[b0, b1, x2, x3, x4, x5, x6, x7, x8] T (0, 0)) := block_set h0
  have h2 : (((w.setCell ⟨k, 0, none⟩ b0).setCell ⟨k, 1, none⟩ b1).setCell ⟨k, 2, none⟩ b2).heap[k]? = some (.cells #[b0, b1, b2, x3, x4, x5, x6, x7, x8] T (0, 0)) := block_set h1
  have h3 : ((((w.setCell ⟨k, 0, none⟩ b0).setCell ⟨k, 1, none⟩ b1).setCell ⟨k, 2, none⟩ b2).setCell ⟨k, 3, none⟩ b3).heap[k]? = some (.cells #[b0, b1, b2, b3, x4, x5, x6, x7, x8] T (0, 0)) := block_set h2
  have h4 : (((((w.setCell ⟨k, 0, none⟩ b0).setCell ⟨k, 1, none⟩ b1).setCell ⟨k, 2, none⟩ b2).setCell ⟨k, 3, none⟩ b3).setCell ⟨k, 4, none⟩ b4).heap[k]? = some (.cells #[b0, b1, b2, b3, b4, x5, x6, x7, x8] T (0, 0)) := block_set h3
  have h5 : ((((((w.setCell ⟨k, 0, none⟩ b0).setCell ⟨k, 1, none⟩ b1).setCell ⟨k, 2, none⟩ b2).setCell ⟨k, 3, none⟩ b3).setCell ⟨k, 4, none⟩ b4).setCell ⟨k, 5, none⟩ b5).heap[k]? = some (.cells #[b0, b1, b2, b3, b4, b5, x6, x7, x8] T (0, 0)) := block_set h4
  have h6 : (((((((w.setCell ⟨k, 0, none⟩ b0).setCell ⟨k, 1, none⟩ b1).setCell ⟨k, 2, none⟩ b2).setCell ⟨k, 3, none⟩ b3).setCell ⟨k, 4, none⟩ b4).setCell ⟨k, 5, none⟩ b5).setCell ⟨k, 6, none⟩ b6).heap[k]? = some (.cells #[b0, b1, b2, b3, b4, b5, b6, x7, x8] T (0, 0)) := block_set h5
  have h7 : ((((((((w.setCell ⟨k, 0, none⟩ b0).setCell ⟨k, 1, none⟩ b1).setCell ⟨k, 2, none⟩ b2).setCell ⟨k, 3, none⟩ b3).setCell ⟨k, 4, none⟩ b4).setCell ⟨k, 5, none⟩ b5).setCell ⟨k, 6, none⟩ b6).setCell ⟨k, 7, none⟩ b7).heap[k]? = some (.cells #[b0, b1, b2, b3, b4, b5, b6, b7, x8] T (0, 0)) := block_set h6
  have h8 : (((((((((w.setCell ⟨k, 0, none⟩ b0).setCell ⟨k, 1, none⟩ b1).setCell ⟨k, 2, none⟩ b2).setCell ⟨k, 3, none⟩ b3).setCell ⟨k, 4, none⟩ b4).setCell ⟨k, 5, none⟩ b5).setCell ⟨k, 6, none⟩ b6).setCell ⟨k, 7, none⟩ b7).setCell ⟨k, 8, none⟩ b8).heap[k]? = some (.cells #[b0, b1, b2, b3, b4, b5, b6, b7, b8] T (0, 0)) := block_set h7
  exact h8
theorem nine_mods {w : World} {k : Nat} {b0 b1 b2 b3 b4 b5 b6 b7 b8 : Value} : Mods (fun q => q = k) w (((((((((w.setCell ⟨k, 0, none⟩ b0).setCell ⟨k, 1, none⟩ b1).setCell ⟨k, 2, none⟩ b2).setCell ⟨k, 3, none⟩ b3).setCell ⟨k, 4, none⟩ b4).setCell ⟨k, 5, none⟩ b5).setCell ⟨k, 6, none⟩ b6).setCell ⟨k, 7, none⟩ b7).setCell ⟨k, 8, none⟩ b8) := by
  repeat (with_reducible refine mods_at ?_ _ _)
  exact Mods.refl _ _
theorem row_ne {w : World} {a : Option Addr} {cap : Nat} {ws : List Int} {g : Option Nat} {G k : Nat} {cs : Array Value} {T : TypeId} (h : RowAt w a cap ws g) (e : g = some G) (hk : w.heap[k]? = some (.cells cs T (0, 0))) (hT : T ≠ 56) : G ≠ k := by
  rintro rfl
  obtain ⟨_, _, h3⟩ := h
  rcases h3 with ⟨h3, _⟩ | ⟨G', cur, e2, _, hh, _⟩
  · rw [h3] at e; cases e
  · rw [e] at e2
    cases e2
    rw [hh] at hk
    simp only [Option.some.injEq, Obj.cells.injEq] at hk
    exact hT hk.2.1.symm
theorem nine_cell {w : World} {k i j : Nat} {v b0 b1 b2 b3 b4 b5 b6 b7 b8 : Value} (h : w.cell? ⟨k, i, none⟩ = some v) (hn : k ≠ j) : (((((((((w.setCell ⟨j, 0, none⟩ b0).setCell ⟨j, 1, none⟩ b1).setCell ⟨j, 2, none⟩ b2).setCell ⟨j, 3, none⟩ b3).setCell ⟨j, 4, none⟩ b4).setCell ⟨j, 5, none⟩ b5).setCell ⟨j, 6, none⟩ b6).setCell ⟨j, 7, none⟩ b7).setCell ⟨j, 8, none⟩ b8).cell? ⟨k, i, none⟩ = some v := by
  repeat (with_reducible refine set_cell_far ?_ hn)
  exact h
set_option maxRecDepth 100000 in
set_option maxHeartbeats 4000000 in
theorem built7_any (a : Option Addr) (l : List Op7) (cap : Nat) (raw : Bool) (hcap : l.length ≤ cap) (hc63 : cap ≤ 9223372036854775807) (hl24 : l.length ≤ 24) (w : World) (hops : Ops7 w a l) :
    Calls Try.prog 15 #[.slice a l.length cap, .bool raw] w (BuiltP w (run7 200 16777416 raw ⟨[], [], []⟩ l)) := by
  have n1 := onew_any 200
  have n2 := rmnew_any 200
  rw [show nmL 200 = 200 by decide] at n1 n2
  go_enter Try.func15, Try.ntmps15
  go_wp2_with fail
  refine (n1 _).mono ?_
  rintro e w1 ⟨bO, bY, hb1, hb2, rfl, hm, hB1⟩
  have hm : MemAt w1 bO bY 200 16777416 [] [] none none := hm
  have kr : w1.heap[w.heap.size]? = some (.cells #[.pointer none, .pointer none, .int .i64 0, .int .i64 0, .slice none 0 0, .int .i64 0, .int .i64 0, .slice none 0 0, .slice none 0 0] 47 (0, 0)) := bblock hB1 (alloc_get w _)
  go_wp2_with fail
  refine (n2 _).mono ?_
  rintro e w2 ⟨aO, cO, aY, cY, rfl, hr, hB2⟩
  have hr : RMem w2 aO 0 cO aY 0 cY 200 16777416 [] [] none none := hr
  have kr := bblock hB2 kr
  clear n1 n2
  go_upto_region 4 with fail
  have hB12 : Below w.heap.size w w2 := by (repeat (first | exact Below.refl _ _ | assumption | refine Below.drew ?_ | refine below_drewN ?_ _ | refine balloc ?_ _ | refine Below.setCell ?_ (by first | (simp; done) | (simp; omega) | omega) _ | refine bchain (by assumption) ?_))
  have hz1 : w.heap.size < w2.heap.size := (Array.getElem?_eq_some_iff.1 kr).1
  have hI0 : WIn (w2.alloc (.cells #[.pointer (some ⟨bO, 0, none⟩), .pointer (some ⟨bY, 0, none⟩), .int .i64 0, .int .i64 200, .slice aO 0 cO, .int .i64 16777216, .int .i64 16777416, .slice aY 0 cY, .slice none 0 0] 47)) (w.heap.size + 1) bO bY 200 16777416 ⟨[], [], []⟩ aO 0 cO aY 0 cY (.slice none 0 0) none none none none := WIn.start (by have := hB1.size; simp at hb1; omega) (by simp at hb2; omega) hm hB2 hr (balloc (Below.refl _ _) _)
  have hpz : (w2.alloc (.cells #[.pointer (some ⟨bO, 0, none⟩), .pointer (some ⟨bY, 0, none⟩), .int .i64 0, .int .i64 200, .slice aO 0 cO, .int .i64 16777216, .int .i64 16777416, .slice aY 0 cY, .slice none 0 0] 47)).heap[w2.heap.size]? = some (.cells #[.pointer (some ⟨bO, 0, none⟩), .pointer (some ⟨bY, 0, none⟩), .int .i64 0, .int .i64 200, .slice aO 0 cO, .int .i64 16777216, .int .i64 16777416, .slice aY 0 cY, .slice none 0 0] 47 (0, 0)) := alloc_get _ _
  have hA0 : WAt (w2.alloc (.cells #[.pointer (some ⟨bO, 0, none⟩), .pointer (some ⟨bY, 0, none⟩), .int .i64 0, .int .i64 200, .slice aO 0 cO, .int .i64 16777216, .int .i64 16777416, .slice aY 0 cY, .slice none 0 0] 47)) (w.heap.size + 1) w2.heap.size 200 16777416 (run7 200 16777416 raw ⟨[], [], []⟩ (l.take 0)) := by
    refine ⟨bO, bY, aO, 0, cO, aY, 0, cY, .slice none 0 0, none, none, none, none, by omega, hpz, hI0, ?_⟩
    have q1 := hm.old.lt
    have q2 := hm.yng.lt
    have q3 := hB2.size
    rintro G (((e | e) | (e | e)) | e | e | e)
    · omega
    · cases e
    · omega
    · cases e
    · cases e
    · cases e
    · cases e
  have hB3 : Below w.heap.size w (w2.alloc (.cells #[.pointer (some ⟨bO, 0, none⟩), .pointer (some ⟨bY, 0, none⟩), .int .i64 0, .int .i64 200, .slice aO 0 cO, .int .i64 16777216, .int .i64 16777416, .slice aY 0 cY, .slice none 0 0] 47)) := hB12.alloc hB12.size _
  have kr : (w2.alloc (.cells #[.pointer (some ⟨bO, 0, none⟩), .pointer (some ⟨bY, 0, none⟩), .int .i64 0, .int .i64 200, .slice aO 0 cO, .int .i64 16777216, .int .i64 16777416, .slice aY 0 cY, .slice none 0 0] 47)).heap[w.heap.size]? = _ := alloc_lt _ kr
  obtain ⟨p, hp⟩ : ∃ p, w2.heap.size = p := ⟨_, rfl⟩
  obtain ⟨w3, hw3⟩ : ∃ w3, (w2.alloc (.cells #[.pointer (some ⟨bO, 0, none⟩), .pointer (some ⟨bY, 0, none⟩), .int .i64 0, .int .i64 200, .slice aO 0 cO, .int .i64 16777216, .int .i64 16777416, .slice aY 0 cY, .slice none 0 0] 47)) = w3 := ⟨_, rfl⟩
  rw [hw3] at hA0 hB3 kr ⊢
  rw [hp] at hA0 hz1 ⊢
  clear hw3 hp hI0 hpz hm hr hB1 hB2 hB12 hb1 hb2
  go_wp2_with fail
  go_loopw [7] (fun q wr => ∃ t : Nat, t ≤ l.length ∧ q = .int .i64 t ∧ WAt wr (w.heap.size + 1) p 200 16777416 (run7 200 16777416 raw ⟨[], [], []⟩ (l.take t)) ∧ wr.heap[w.heap.size]? = some (.cells #[.pointer none, .pointer none, .int .i64 0, .int .i64 0, .slice none 0 0, .int .i64 0, .int .i64 0, .slice none 0 0, .slice none 0 0] 47 (0, 0)) ∧ Below w.heap.size w wr) (fun q _ => l.length - (intOf q).toNat)
  case atStart => exact ⟨0, Nat.zero_le _, rfl, hA0, kr, hB3⟩
  case round =>
    clear hA0 kr hB3
    obtain ⟨t, ht, rfl, hA, kr, hbr⟩ := hrel
    have hz0 : w.heap.size < wr.heap.size := (Array.getElem?_eq_some_iff.1 kr).1
    by_cases hlt : t < l.length
    · obtain ⟨b, off, rfl, hbw, hO⟩ := hops.get t hlt
      obtain ⟨o, ho⟩ : ∃ o, l[t]? = some o := ⟨_, List.getElem?_eq_getElem hlt⟩
      rw [(List.getElem?_eq_some_iff.1 ho).2] at hO
      have hO := hO.below hbr
      obtain ⟨kd, k, c, f, m, s, oa, ob, i, u, orw⟩ := o
      obtain ⟨c0, c1, c2, c3, c4, c5, c6, c7, c8, c9, c10, hu⟩ := hO
      simp only [Addr.add_lit, Nat.add_zero] at c0 c1 c2 c3 c4 c5 c6 c7 c8 c9 c10
      have s1 : ((t : Int)).toNat = t := by omega
      have hlen : (run7 200 16777416 raw ⟨[], [], []⟩ (l.take t)).l.length ≤ 1000000 := by
        have := run7_len 200 16777416 raw (l.take t) ⟨[], [], []⟩
        rw [List.length_take] at this
        simp only [List.length_nil] at this
        omega
      have hS := step7_any hA (by omega) hlen kd k c f m s oa ob i u orw hu
      have hrun := run7_snoc 200 16777416 raw ⟨[], [], []⟩ (l.take t) ⟨kd, k, c, f, m, s, oa, ob, i, u, orw⟩
      rw [← take_snoc7 ho] at hrun
      have Hrun := Lib.hid hrun
      clear hrun hops ho hlen
      cases raw
      · cases orw
        · by_cases h6 : kd = 6
          · subst h6
            go_wp2_with fail
            go_roundw
            case rel => exact ⟨t + 1, by omega, by go_num, (by rw [Hrun.out, if_pos (by simp [skip7, ])]; exact hA), kr, hbr⟩
            case measure => simp [intOf]; omega
          · have b6 : (kd == 6) = false := by simpa using h6
            by_cases h2 : kd < 2
            · have b2 : decide (kd < 2) = true := by simpa using h2
              by_cases h4 : k = 4
              · subst h4
                go_wp2_with fail
                go_roundw
                case rel => exact ⟨t + 1, by omega, by go_num, (by rw [Hrun.out, if_pos (by simp [skip7, h6, h2])]; exact hA), kr, hbr⟩
                case measure => simp [intOf]; omega
              · have b4 : (k == 4) = false := by simpa using h4
                go_wp2_with fail
                refine hS.mono ?_
                rintro e w4 ⟨rfl, hA4, hM4⟩
                have kr := mblock hM4 kr (by omega)
                have hbr4 : Below w.heap.size w w4 := hbr.trans (hM4.below (B := w.heap.size) (by omega) (fun k hk => by omega))
                clear c0 c1 c2 c3 c4 c5 c6 c7 c8 c9 c10 hS
                go_wp2_with fail
                go_roundw
                case rel => exact ⟨t + 1, by omega, by go_num, (by rw [Hrun.out, if_neg (by simp [skip7, h6, h2, h4])]; exact hA4), kr, hbr4⟩
                case measure => simp [intOf]; omega
            · have b2 : decide (kd < 2) = false := by simpa using h2
              go_wp2_with fail
              refine hS.mono ?_
              rintro e w4 ⟨rfl, hA4, hM4⟩
              have kr := mblock hM4 kr (by omega)
              have hbr4 : Below w.heap.size w w4 := hbr.trans (hM4.below (B := w.heap.size) (by omega) (fun k hk => by omega))
              clear c0 c1 c2 c3 c4 c5 c6 c7 c8 c9 c10 hS
              go_wp2_with fail
              go_roundw
              case rel => exact ⟨t + 1, by omega, by go_num, (by rw [Hrun.out, if_neg (by simp [skip7, h6]; intro hq; omega)]; exact hA4), kr, hbr4⟩
              case measure => simp [intOf]; omega
        · go_wp2_with fail
          go_roundw
          case rel => exact ⟨t + 1, by omega, by go_num, (by rw [Hrun.out, if_pos (by simp [skip7, ])]; exact hA), kr, hbr⟩
          case measure => simp [intOf]; omega
      · go_wp2_with fail
        refine hS.mono ?_
        rintro e w4 ⟨rfl, hA4, hM4⟩
        have kr := mblock hM4 kr (by omega)
        have hbr4 : Below w.heap.size w w4 := hbr.trans (hM4.below (B := w.heap.size) (by omega) (fun k hk => by omega))
        clear c0 c1 c2 c3 c4 c5 c6 c7 c8 c9 c10 hS
        go_wp2_with fail
        go_roundw
        case rel => exact ⟨t + 1, by omega, by go_num, (by rw [Hrun.out, if_neg (by simp [skip7, ])]; exact hA4), kr, hbr4⟩
        case measure => simp [intOf]; omega
    · have htl : t = l.length := by omega
      subst htl
      rw [List.take_length] at hA
      clear hops hlt ht
      generalize run7 200 16777416 raw ⟨[], [], []⟩ l = X at *
      obtain ⟨bO', bY', aO', nO', cO', aY', nY', cY', lv', gO', gY', rO', rY', hp0, kp, hI, hsep⟩ := hA
      obtain ⟨A', lcap, rfl, _, _, _⟩ := lst_of_row hI.lst
      have kp : wr.heap[p]? = some (.cells #[.pointer (some ⟨bO', 0, none⟩), .pointer (some ⟨bY', 0, none⟩), .int .i64 0, .int .i64 200, .slice aO' nO' cO', .int .i64 16777216, .int .i64 16777416, .slice aY' nY' cY', .slice A' X.l.length lcap] 47 (0, 0)) := kp
      have hSm := fun W (H : Below wr.heap.size wr W) => same7_any (hI.mem.below H) (hI.ref.below H) (.slice A' X.l.length lcap)
      have hBd : Below wr.heap.size wr wr.drew := (Below.refl _ _).drew
      have hnp : w.heap.size ≠ p := by omega
      clear hsep
      have kp_0 : wr.cell? ⟨p, 0, none⟩ = some (.pointer (some ⟨bO', 0, none⟩)) := by rw [cell_of_block kp]; rfl
      have kp_1 : wr.cell? ⟨p, 1, none⟩ = some (.pointer (some ⟨bY', 0, none⟩)) := by rw [cell_of_block kp]; rfl
      have kp_2 : wr.cell? ⟨p, 2, none⟩ = some (.int .i64 0) := by rw [cell_of_block kp]; rfl
      have kp_3 : wr.cell? ⟨p, 3, none⟩ = some (.int .i64 200) := by rw [cell_of_block kp]; rfl
      have kp_4 : wr.cell? ⟨p, 4, none⟩ = some (.slice aO' nO' cO') := by rw [cell_of_block kp]; rfl
      have kp_5 : wr.cell? ⟨p, 5, none⟩ = some (.int .i64 16777216) := by rw [cell_of_block kp]; rfl
      have kp_6 : wr.cell? ⟨p, 6, none⟩ = some (.int .i64 16777416) := by rw [cell_of_block kp]; rfl
      have kp_7 : wr.cell? ⟨p, 7, none⟩ = some (.slice aY' nY' cY') := by rw [cell_of_block kp]; rfl
      have kp_8 : wr.cell? ⟨p, 8, none⟩ = some (.slice A' X.l.length lcap) := by rw [cell_of_block kp]; rfl
      have kr_f : ∀ i, wr.frozen? ⟨w.heap.size, i, none⟩ = false := frozen_of_block kr
      go_wp2_with fail
      have hzp : p < wr.heap.size := (Array.getElem?_eq_some_iff.1 kp).1
      go_region_held3 (fun w' => w'.cell? ⟨p, 0, none⟩ = some (.pointer (some ⟨bO', 0, none⟩)) ∧ w'.cell? ⟨p, 1, none⟩ = some (.pointer (some ⟨bY', 0, none⟩)) ∧ w'.cell? ⟨p, 2, none⟩ = some (.int .i64 0) ∧ w'.cell? ⟨p, 3, none⟩ = some (.int .i64 200) ∧ w'.cell? ⟨p, 4, none⟩ = some (.slice aO' nO' cO') ∧ w'.cell? ⟨p, 5, none⟩ = some (.int .i64 16777216) ∧ w'.cell? ⟨p, 6, none⟩ = some (.int .i64 16777416) ∧ w'.cell? ⟨p, 7, none⟩ = some (.slice aY' nY' cY') ∧ w'.cell? ⟨p, 8, none⟩ = some (.slice A' X.l.length lcap)) (first | (with_reducible exact ⟨kp_0, kp_1, kp_2, kp_3, kp_4, kp_5, kp_6, kp_7, kp_8⟩) | (with_reducible exact ⟨nine_cell kp_0 (Ne.symm hnp), nine_cell kp_1 (Ne.symm hnp), nine_cell kp_2 (Ne.symm hnp), nine_cell kp_3 (Ne.symm hnp), nine_cell kp_4 (Ne.symm hnp), nine_cell kp_5 (Ne.symm hnp), nine_cell kp_6 (Ne.symm hnp), nine_cell kp_7 (Ne.symm hnp), nine_cell kp_8 (Ne.symm hnp)⟩) | go_keep) (first | (go_at_call 45; (with_reducible refine (hSm _ hBd).mono ?_); rintro e w5 ⟨rfl, hb5⟩; have kp_0 := bcellv hb5 (show wr.drew.cell? _ = _ from kp_0); have kp_1 := bcellv hb5 (show wr.drew.cell? _ = _ from kp_1); have kp_2 := bcellv hb5 (show wr.drew.cell? _ = _ from kp_2); have kp_3 := bcellv hb5 (show wr.drew.cell? _ = _ from kp_3); have kp_4 := bcellv hb5 (show wr.drew.cell? _ = _ from kp_4); have kp_5 := bcellv hb5 (show wr.drew.cell? _ = _ from kp_5); have kp_6 := bcellv hb5 (show wr.drew.cell? _ = _ from kp_6); have kp_7 := bcellv hb5 (show wr.drew.cell? _ = _ from kp_7); have kp_8 := bcellv hb5 (show wr.drew.cell? _ = _ from kp_8); have kr5 := bblock hb5 (show wr.drew.heap[_]? = _ from kr); have kr5_f : ∀ i, w5.frozen? ⟨w.heap.size, i, none⟩ = false := frozen_of_block kr5; have hzr5 : w.heap.size < w5.heap.size := (Array.getElem?_eq_some_iff.1 kr5).1; have kr5_0 : w5.cell? ⟨w.heap.size, 0, none⟩ = some (.pointer none) := (by rw [cell_of_block kr5]; rfl); have kr5_1 : w5.cell? ⟨w.heap.size, 1, none⟩ = some (.pointer none) := (by rw [cell_of_block kr5]; rfl); have kr5_2 : w5.cell? ⟨w.heap.size, 2, none⟩ = some (.int .i64 0) := (by rw [cell_of_block kr5]; rfl); have kr5_3 : w5.cell? ⟨w.heap.size, 3, none⟩ = some (.int .i64 0) := (by rw [cell_of_block kr5]; rfl); have kr5_4 : w5.cell? ⟨w.heap.size, 4, none⟩ = some (.slice none 0 0) := (by rw [cell_of_block kr5]; rfl); have kr5_5 : w5.cell? ⟨w.heap.size, 5, none⟩ = some (.int .i64 0) := (by rw [cell_of_block kr5]; rfl); have kr5_6 : w5.cell? ⟨w.heap.size, 6, none⟩ = some (.int .i64 0) := (by rw [cell_of_block kr5]; rfl); have kr5_7 : w5.cell? ⟨w.heap.size, 7, none⟩ = some (.slice none 0 0) := (by rw [cell_of_block kr5]; rfl); have kr5_8 : w5.cell? ⟨w.heap.size, 8, none⟩ = some (.slice none 0 0) := (by rw [cell_of_block kr5]; rfl)))
      have hB5 : Below wr.heap.size wr w5 := bchain hb5 hBd
      have kr6 : (((((((((w5.setCell ⟨w.heap.size, 0, none⟩ (.pointer (some ⟨bO', 0, none⟩))).setCell ⟨w.heap.size, 1, none⟩ (.pointer (some ⟨bY', 0, none⟩))).setCell ⟨w.heap.size, 2, none⟩ (.int .i64 0)).setCell ⟨w.heap.size, 3, none⟩ (.int .i64 200)).setCell ⟨w.heap.size, 4, none⟩ (.slice aO' nO' cO')).setCell ⟨w.heap.size, 5, none⟩ (.int .i64 16777216)).setCell ⟨w.heap.size, 6, none⟩ (.int .i64 16777416)).setCell ⟨w.heap.size, 7, none⟩ (.slice aY' nY' cY')).setCell ⟨w.heap.size, 8, none⟩ (.slice A' X.l.length lcap)).heap[w.heap.size]? = some (.cells #[.pointer (some ⟨bO', 0, none⟩), .pointer (some ⟨bY', 0, none⟩), .int .i64 0, .int .i64 200, .slice aO' nO' cO', .int .i64 16777216, .int .i64 16777416, .slice aY' nY' cY', .slice A' X.l.length lcap] 47 (0, 0)) := nine_set kr5
      have hM6 : Mods (fun k => k = w.heap.size) w5 (((((((((w5.setCell ⟨w.heap.size, 0, none⟩ (.pointer (some ⟨bO', 0, none⟩))).setCell ⟨w.heap.size, 1, none⟩ (.pointer (some ⟨bY', 0, none⟩))).setCell ⟨w.heap.size, 2, none⟩ (.int .i64 0)).setCell ⟨w.heap.size, 3, none⟩ (.int .i64 200)).setCell ⟨w.heap.size, 4, none⟩ (.slice aO' nO' cO')).setCell ⟨w.heap.size, 5, none⟩ (.int .i64 16777216)).setCell ⟨w.heap.size, 6, none⟩ (.int .i64 16777416)).setCell ⟨w.heap.size, 7, none⟩ (.slice aY' nY' cY')).setCell ⟨w.heap.size, 8, none⟩ (.slice A' X.l.length lcap)) := nine_mods
      obtain ⟨w6, hw6⟩ : ∃ w6, (((((((((w5.setCell ⟨w.heap.size, 0, none⟩ (.pointer (some ⟨bO', 0, none⟩))).setCell ⟨w.heap.size, 1, none⟩ (.pointer (some ⟨bY', 0, none⟩))).setCell ⟨w.heap.size, 2, none⟩ (.int .i64 0)).setCell ⟨w.heap.size, 3, none⟩ (.int .i64 200)).setCell ⟨w.heap.size, 4, none⟩ (.slice aO' nO' cO')).setCell ⟨w.heap.size, 5, none⟩ (.int .i64 16777216)).setCell ⟨w.heap.size, 6, none⟩ (.int .i64 16777416)).setCell ⟨w.heap.size, 7, none⟩ (.slice aY' nY' cY')).setCell ⟨w.heap.size, 8, none⟩ (.slice A' X.l.length lcap)) = w6 := ⟨_, rfl⟩
      rw [hw6] at kr6 hM6 ⊢
      clear hw6 kp_0 kp_1 kp_2 kp_3 kp_4 kp_5 kp_6 kp_7 kp_8 kr5_0 kr5_1 kr5_2 kr5_3 kr5_4 kr5_5 kr5_6 kr5_7 kr5_8 kr5_f hzr5
      have kr6_0 : w6.cell? ⟨w.heap.size, 0, none⟩ = some (.pointer (some ⟨bO', 0, none⟩)) := by rw [cell_of_block kr6]; rfl
      have kr6_1 : w6.cell? ⟨w.heap.size, 1, none⟩ = some (.pointer (some ⟨bY', 0, none⟩)) := by rw [cell_of_block kr6]; rfl
      have kr6_2 : w6.cell? ⟨w.heap.size, 2, none⟩ = some (.int .i64 0) := by rw [cell_of_block kr6]; rfl
      have kr6_3 : w6.cell? ⟨w.heap.size, 3, none⟩ = some (.int .i64 200) := by rw [cell_of_block kr6]; rfl
      have kr6_4 : w6.cell? ⟨w.heap.size, 4, none⟩ = some (.slice aO' nO' cO') := by rw [cell_of_block kr6]; rfl
      have kr6_5 : w6.cell? ⟨w.heap.size, 5, none⟩ = some (.int .i64 16777216) := by rw [cell_of_block kr6]; rfl
      have kr6_6 : w6.cell? ⟨w.heap.size, 6, none⟩ = some (.int .i64 16777416) := by rw [cell_of_block kr6]; rfl
      have kr6_7 : w6.cell? ⟨w.heap.size, 7, none⟩ = some (.slice aY' nY' cY') := by rw [cell_of_block kr6]; rfl
      have kr6_8 : w6.cell? ⟨w.heap.size, 8, none⟩ = some (.slice A' X.l.length lcap) := by rw [cell_of_block kr6]; rfl
      have hrO : ∀ G, rO' = some G → G ≠ w.heap.size := fun G e => row_ne hI.ref.old e kr (by decide)
      have hrY : ∀ G, rY' = some G → G ≠ w.heap.size := fun G e => row_ne hI.ref.yng e kr (by decide)
      have hI6 := ((hI.below hB5).mods hM6 (fun G hG => by
        rcases hG with e | e | e | e
        · have := hI.ms G e; omega
        · exact hrO G e
        · exact hrY G e
        · have := (row_lt hI.lst G e).2; omega)).base (n1 := w.heap.size) (by omega)
      have hB6 : Below w.heap.size w w6 := (hbr.trans (hB5.mono (by omega))).trans (hM6.below (by have := hB5.size; omega) (fun k hk => by omega))
      clear hI hrO hrY hSm kp kr hM6 hB5 hbr
      go_wp2
      exact bodyPost_ret (v := .tuple #[.agg #[.pointer (some ⟨bO', 0, none⟩), .pointer (some ⟨bY', 0, none⟩), .int .i64 0, .int .i64 200, .slice aO' nO' cO', .int .i64 16777216, .int .i64 16777416, .slice aY' nY' cY', .slice A' X.l.length lcap], .bool true]) (by simp [results, Try.results15, go_sem, kr6_0, kr6_1, kr6_2, kr6_3, kr6_4, kr6_5, kr6_6, kr6_7, kr6_8]) rfl ⟨_, _, _, _, _, _, _, _, _, _, _, _, _, rfl, hI6, hB6⟩
end Go.Proofs.Ytcmhgjkijegpnaa
