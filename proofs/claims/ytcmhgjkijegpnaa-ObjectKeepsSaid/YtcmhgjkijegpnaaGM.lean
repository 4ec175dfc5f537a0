/-
  refmeshlaw07.step, kind 4.
-/
import Derived.Test.YtcmhgjkijegpnaaGS
namespace Go.Proofs.Ytcmhgjkijegpnaa
open Go.RowKit
set_option linter.unusedSimpArgs false
set_option linter.unusedVariables false

set_option maxRecDepth 100000 in
set_option maxHeartbeats 4000000 in
theorem stq_4 {w : World} {n0 p : Nat} {lo ly : Int} {x : S7} {bO bY : Nat} {aO : Option Addr} {nO cO : Nat} {aY : Option Addr} {nY cY : Nat} {lv : Value} {gO gY rO rY : Option Nat} (hp0 : n0 ≤ p) (kp : w.heap[p]? = some (.cells (wcs bO bY lo ly aO nO cO aY nY cY lv) 47 (0, 0))) (hI : WIn w n0 bO bY lo ly x aO nO cO aY nY cY lv gO gY rO rY) (hsep : ∀ G, MS bO bY gO gY G ∨ rO = some G ∨ rY = some G ∨ lv.ownBlock = some G → G ≠ p) (hn : n0 ≤ w.heap.size) (k c f m s a b i u : Int) (raw : Bool) (hu : U64 u) :
    Calls Try.prog 22 #[.pointer (some ⟨p, 0, none⟩), .agg #[.int .i64 4, .int .i64 k, .int .i64 c, .int .i64 f, .int .i64 m, .int .i64 s, .int .i64 a, .int .i64 b, .int .i64 i, .int .u64 u, .bool raw]] w (StQ w n0 p bO bY lo ly lv gO gY ⟨(rrM x.wo x.wy (atW raw x.l a) i u).1, (rrM x.wo x.wy (atW raw x.l a) i u).2, x.l⟩) := by
  have hp1 : p < w.heap.size := (Array.getElem?_eq_some_iff.1 kp).1
  have hpn : p ≠ w.heap.size := by omega
  have Hsep := Lib.hid hsep
  clear hsep
  have kp : w.heap[p]? = some (.cells #[.pointer (some ⟨bO, 0, none⟩), .pointer (some ⟨bY, 0, none⟩), .int .i64 0, .int .i64 lo, .slice aO nO cO, .int .i64 16777216, .int .i64 ly, .slice aY nY cY, lv] 47 (0, 0)) := kp
  have hat := fun W (H : Below w.heap.size w W) => wat_row (.pointer (some ⟨bO, 0, none⟩)) (.pointer (some ⟨bY, 0, none⟩)) (.int .i64 0) (.int .i64 lo) (.slice aO nO cO) (.int .i64 16777216) (.int .i64 ly) (.slice aY nY cY) 4 k c f m s a b i u raw a (row_keep hI.lst (fun G o e ho => bblock H ho))
  have hR := fun W (H : Below w.heap.size w W) => rreroute_any (hI.ref.below H) (atW raw x.l a) i u hu
  have hA := fun W (H : MemAt W bO bY lo ly x.wo x.wy gO gY) => reroute_any H (atW raw x.l a) i u hu
  generalize atW raw x.l a = y at *
  generalize rrE x.wo x.wy y i = re at *
  generalize hwo : (rrM x.wo x.wy y i u).1 = wo' at *
  generalize hwy : (rrM x.wo x.wy y i u).2 = wy' at *
  clear hwo hwy
  go_enter Try.func22, Try.ntmps22
  go_wp2_with fail
  obtain ⟨w1, hw1⟩ : ∃ w1, (w.alloc (.cells #[.int .i64 4, .int .i64 k, .int .i64 c, .int .i64 f, .int .i64 m, .int .i64 s, .int .i64 a, .int .i64 b, .int .i64 i, .int .u64 u, .bool raw] 58)) = w1 := ⟨_, rfl⟩
  have hb1 : Below w.heap.size w w1 := by rw [← hw1]; exact balloc (Below.refl _ _) _
  have k0 : w1.heap[w.heap.size]? = some (.cells #[.int .i64 4, .int .i64 k, .int .i64 c, .int .i64 f, .int .i64 m, .int .i64 s, .int .i64 a, .int .i64 b, .int .i64 i, .int .u64 u, .bool raw] 58 (0, 0)) := by rw [← hw1]; exact alloc_get _ _
  have kp : w1.heap[p]? = some (.cells #[.pointer (some ⟨bO, 0, none⟩), .pointer (some ⟨bY, 0, none⟩), .int .i64 0, .int .i64 lo, .slice aO nO cO, .int .i64 16777216, .int .i64 ly, .slice aY nY cY, lv] 47 (0, 0)) := bblock hb1 kp
  rw [hw1]
  clear hw1
  have o_kp_0 : ∀ x, (over w1 x).cell? ⟨p, 0, none⟩ = some (.pointer (some ⟨bO, 0, none⟩)) := over_cell (by rw [cell_of_block kp]; rfl)
  have o_kp_1 : ∀ x, (over w1 x).cell? ⟨p, 1, none⟩ = some (.pointer (some ⟨bY, 0, none⟩)) := over_cell (by rw [cell_of_block kp]; rfl)
  have o_kp_2 : ∀ x, (over w1 x).cell? ⟨p, 2, none⟩ = some (.int .i64 0) := over_cell (by rw [cell_of_block kp]; rfl)
  have o_kp_3 : ∀ x, (over w1 x).cell? ⟨p, 3, none⟩ = some (.int .i64 lo) := over_cell (by rw [cell_of_block kp]; rfl)
  have o_kp_4 : ∀ x, (over w1 x).cell? ⟨p, 4, none⟩ = some (.slice aO nO cO) := over_cell (by rw [cell_of_block kp]; rfl)
  have o_kp_5 : ∀ x, (over w1 x).cell? ⟨p, 5, none⟩ = some (.int .i64 16777216) := over_cell (by rw [cell_of_block kp]; rfl)
  have o_kp_6 : ∀ x, (over w1 x).cell? ⟨p, 6, none⟩ = some (.int .i64 ly) := over_cell (by rw [cell_of_block kp]; rfl)
  have o_kp_7 : ∀ x, (over w1 x).cell? ⟨p, 7, none⟩ = some (.slice aY nY cY) := over_cell (by rw [cell_of_block kp]; rfl)
  have o_kp_8 : ∀ x, (over w1 x).cell? ⟨p, 8, none⟩ = some (lv) := over_cell (by rw [cell_of_block kp]; rfl)
  have o_k0_0 : ∀ x, (over w1 x).cell? ⟨w.heap.size, 0, none⟩ = some (.int .i64 4) := over_cell (by rw [cell_of_block k0]; rfl)
  have o_k0_1 : ∀ x, (over w1 x).cell? ⟨w.heap.size, 1, none⟩ = some (.int .i64 k) := over_cell (by rw [cell_of_block k0]; rfl)
  have o_k0_2 : ∀ x, (over w1 x).cell? ⟨w.heap.size, 2, none⟩ = some (.int .i64 c) := over_cell (by rw [cell_of_block k0]; rfl)
  have o_k0_3 : ∀ x, (over w1 x).cell? ⟨w.heap.size, 3, none⟩ = some (.int .i64 f) := over_cell (by rw [cell_of_block k0]; rfl)
  have o_k0_4 : ∀ x, (over w1 x).cell? ⟨w.heap.size, 4, none⟩ = some (.int .i64 m) := over_cell (by rw [cell_of_block k0]; rfl)
  have o_k0_5 : ∀ x, (over w1 x).cell? ⟨w.heap.size, 5, none⟩ = some (.int .i64 s) := over_cell (by rw [cell_of_block k0]; rfl)
  have o_k0_6 : ∀ x, (over w1 x).cell? ⟨w.heap.size, 6, none⟩ = some (.int .i64 a) := over_cell (by rw [cell_of_block k0]; rfl)
  have o_k0_7 : ∀ x, (over w1 x).cell? ⟨w.heap.size, 7, none⟩ = some (.int .i64 b) := over_cell (by rw [cell_of_block k0]; rfl)
  have o_k0_8 : ∀ x, (over w1 x).cell? ⟨w.heap.size, 8, none⟩ = some (.int .i64 i) := over_cell (by rw [cell_of_block k0]; rfl)
  have o_k0_9 : ∀ x, (over w1 x).cell? ⟨w.heap.size, 9, none⟩ = some (.int .u64 u) := over_cell (by rw [cell_of_block k0]; rfl)
  have o_k0_10 : ∀ x, (over w1 x).cell? ⟨w.heap.size, 10, none⟩ = some (.bool raw) := over_cell (by rw [cell_of_block k0]; rfl)
  (refine wp_region_over (by kernel_rfl) (by kernel_rfl) ?_); (repeat (go_big_quiet_step ((first | (go_at_call 21; exact calls_over (hat _ (bchain (over_below w1 _) hb1))))))); (refine wpQuiet_nil ?_)
  intro w2 hb2
  have k0 := bblock hb2 k0
  have kp := bblock hb2 kp
  have hB2 : Below w.heap.size w w2 := bchain hb2 hb1
  clear hb1 hb2 hat o_kp_0 o_kp_1 o_kp_2 o_kp_3 o_kp_4 o_kp_5 o_kp_6 o_kp_7 o_kp_8 o_k0_0 o_k0_1 o_k0_2 o_k0_3 o_k0_4 o_k0_5 o_k0_6 o_k0_7 o_k0_8 o_k0_9 o_k0_10
  have kp_0 : w2.cell? ⟨p, 0, none⟩ = some (.pointer (some ⟨bO, 0, none⟩)) := by rw [cell_of_block kp]; rfl
  have kp_1 : w2.cell? ⟨p, 1, none⟩ = some (.pointer (some ⟨bY, 0, none⟩)) := by rw [cell_of_block kp]; rfl
  have kp_2 : w2.cell? ⟨p, 2, none⟩ = some (.int .i64 0) := by rw [cell_of_block kp]; rfl
  have kp_3 : w2.cell? ⟨p, 3, none⟩ = some (.int .i64 lo) := by rw [cell_of_block kp]; rfl
  have kp_4 : w2.cell? ⟨p, 4, none⟩ = some (.slice aO nO cO) := by rw [cell_of_block kp]; rfl
  have kp_5 : w2.cell? ⟨p, 5, none⟩ = some (.int .i64 16777216) := by rw [cell_of_block kp]; rfl
  have kp_6 : w2.cell? ⟨p, 6, none⟩ = some (.int .i64 ly) := by rw [cell_of_block kp]; rfl
  have kp_7 : w2.cell? ⟨p, 7, none⟩ = some (.slice aY nY cY) := by rw [cell_of_block kp]; rfl
  have kp_8 : w2.cell? ⟨p, 8, none⟩ = some (lv) := by rw [cell_of_block kp]; rfl
  have k0_0 : w2.cell? ⟨w.heap.size, 0, none⟩ = some (.int .i64 4) := by rw [cell_of_block k0]; rfl
  have k0_1 : w2.cell? ⟨w.heap.size, 1, none⟩ = some (.int .i64 k) := by rw [cell_of_block k0]; rfl
  have k0_2 : w2.cell? ⟨w.heap.size, 2, none⟩ = some (.int .i64 c) := by rw [cell_of_block k0]; rfl
  have k0_3 : w2.cell? ⟨w.heap.size, 3, none⟩ = some (.int .i64 f) := by rw [cell_of_block k0]; rfl
  have k0_4 : w2.cell? ⟨w.heap.size, 4, none⟩ = some (.int .i64 m) := by rw [cell_of_block k0]; rfl
  have k0_5 : w2.cell? ⟨w.heap.size, 5, none⟩ = some (.int .i64 s) := by rw [cell_of_block k0]; rfl
  have k0_6 : w2.cell? ⟨w.heap.size, 6, none⟩ = some (.int .i64 a) := by rw [cell_of_block k0]; rfl
  have k0_7 : w2.cell? ⟨w.heap.size, 7, none⟩ = some (.int .i64 b) := by rw [cell_of_block k0]; rfl
  have k0_8 : w2.cell? ⟨w.heap.size, 8, none⟩ = some (.int .i64 i) := by rw [cell_of_block k0]; rfl
  have k0_9 : w2.cell? ⟨w.heap.size, 9, none⟩ = some (.int .u64 u) := by rw [cell_of_block k0]; rfl
  have k0_10 : w2.cell? ⟨w.heap.size, 10, none⟩ = some (.bool raw) := by rw [cell_of_block k0]; rfl
  have hBa : Below w.heap.size w (w2.alloc (.cells #[.int .i64 0, .int .i64 0, .slice none 0 0, .int .i64 0, .int .i64 0, .slice none 0 0] 35)).drew := by (repeat (first | exact Below.refl _ _ | assumption | refine Below.drew ?_ | refine below_drewN ?_ _ | refine balloc ?_ _ | refine Below.setCell ?_ (by first | (simp; done) | (simp; omega) | omega) _ | refine bchain (by assumption) ?_))
  have hBb : Below w.heap.size w w2.drew := by (repeat (first | exact Below.refl _ _ | assumption | refine Below.drew ?_ | refine below_drewN ?_ _ | refine balloc ?_ _ | refine Below.setCell ?_ (by first | (simp; done) | (simp; omega) | omega) _ | refine bchain (by assumption) ?_))
  have hw2p : w.heap.size ≤ w2.heap.size := hB2.size
  have hwz : w.heap.size < w2.heap.size := (Array.getElem?_eq_some_iff.1 k0).1
  have hwp : p < w2.heap.size := (Array.getElem?_eq_some_iff.1 kp).1
  have hne_k0 : w.heap.size ≠ w2.heap.size := by omega
  have hne_kp : p ≠ w2.heap.size := by omega
  go_wp2_with fail
  go_region_held3 (fun w' => w'.cell? ⟨p, 2, none⟩ = some (.int .i64 0) ∧ w'.cell? ⟨p, 3, none⟩ = some (.int .i64 lo) ∧ w'.cell? ⟨p, 4, none⟩ = some (.slice aO nO cO) ∧ w'.cell? ⟨p, 5, none⟩ = some (.int .i64 16777216) ∧ w'.cell? ⟨p, 6, none⟩ = some (.int .i64 ly) ∧ w'.cell? ⟨p, 7, none⟩ = some (.slice aY nY cY) ∧ w'.cell? ⟨w.heap.size, 8, none⟩ = some (.int .i64 i) ∧ w'.cell? ⟨w.heap.size, 9, none⟩ = some (.int .u64 u)) (first | (with_reducible exact ⟨kp_2, kp_3, kp_4, kp_5, kp_6, kp_7, k0_8, k0_9⟩) | (with_reducible exact ⟨six_cell kp_2 hne_kp, six_cell kp_3 hne_kp, six_cell kp_4 hne_kp, six_cell kp_5 hne_kp, six_cell kp_6 hne_kp, six_cell kp_7 hne_kp, six_cell k0_8 hne_k0, six_cell k0_9 hne_k0⟩) | go_keep) (first | (go_at_call 58; (with_reducible refine (hR _ hBa).mono ?_); rintro e w3 ⟨aO', nO', cO', aY', nY', cY', rO', rY', rfl, hr3, hg1, hg2, hb3⟩; have Hg1 := Lib.hid hg1; have Hg2 := Lib.hid hg2; clear hg1 hg2; have kp_2 := bcellv hb3 (show (w2.alloc (.cells #[.int .i64 0, .int .i64 0, .slice none 0 0, .int .i64 0, .int .i64 0, .slice none 0 0] 35)).drew.cell? _ = _ from bcellv (balloc (Below.refl _ w2) _) kp_2); have kp_3 := bcellv hb3 (show (w2.alloc (.cells #[.int .i64 0, .int .i64 0, .slice none 0 0, .int .i64 0, .int .i64 0, .slice none 0 0] 35)).drew.cell? _ = _ from bcellv (balloc (Below.refl _ w2) _) kp_3); have kp_4 := bcellv hb3 (show (w2.alloc (.cells #[.int .i64 0, .int .i64 0, .slice none 0 0, .int .i64 0, .int .i64 0, .slice none 0 0] 35)).drew.cell? _ = _ from bcellv (balloc (Below.refl _ w2) _) kp_4); have kp_5 := bcellv hb3 (show (w2.alloc (.cells #[.int .i64 0, .int .i64 0, .slice none 0 0, .int .i64 0, .int .i64 0, .slice none 0 0] 35)).drew.cell? _ = _ from bcellv (balloc (Below.refl _ w2) _) kp_5); have kp_6 := bcellv hb3 (show (w2.alloc (.cells #[.int .i64 0, .int .i64 0, .slice none 0 0, .int .i64 0, .int .i64 0, .slice none 0 0] 35)).drew.cell? _ = _ from bcellv (balloc (Below.refl _ w2) _) kp_6); have kp_7 := bcellv hb3 (show (w2.alloc (.cells #[.int .i64 0, .int .i64 0, .slice none 0 0, .int .i64 0, .int .i64 0, .slice none 0 0] 35)).drew.cell? _ = _ from bcellv (balloc (Below.refl _ w2) _) kp_7); have k0_8 := bcellv hb3 (show (w2.alloc (.cells #[.int .i64 0, .int .i64 0, .slice none 0 0, .int .i64 0, .int .i64 0, .slice none 0 0] 35)).drew.cell? _ = _ from bcellv (balloc (Below.refl _ w2) _) k0_8); have k0_9 := bcellv hb3 (show (w2.alloc (.cells #[.int .i64 0, .int .i64 0, .slice none 0 0, .int .i64 0, .int .i64 0, .slice none 0 0] 35)).drew.cell? _ = _ from bcellv (balloc (Below.refl _ w2) _) k0_9); have kp := bblock hb3 (show (w2.alloc (.cells #[.int .i64 0, .int .i64 0, .slice none 0 0, .int .i64 0, .int .i64 0, .slice none 0 0] 35)).drew.heap[_]? = _ from alloc_lt _ kp); have k0 := bblock hb3 (show (w2.alloc (.cells #[.int .i64 0, .int .i64 0, .slice none 0 0, .int .i64 0, .int .i64 0, .slice none 0 0] 35)).drew.heap[_]? = _ from alloc_lt _ k0); have kv := bblock hb3 (show (w2.alloc (.cells #[.int .i64 0, .int .i64 0, .slice none 0 0, .int .i64 0, .int .i64 0, .slice none 0 0] 35)).drew.heap[_]? = _ from alloc_get w2 _); have kv_f : ∀ i, w3.frozen? ⟨w2.heap.size, i, none⟩ = false := frozen_of_block kv; have hzv : w2.heap.size < w3.heap.size := (Array.getElem?_eq_some_iff.1 kv).1; have kv_0 : w3.cell? ⟨w2.heap.size, 0, none⟩ = some (.int .i64 0) := (by rw [cell_of_block kv]; rfl); have kv_1 : w3.cell? ⟨w2.heap.size, 1, none⟩ = some (.int .i64 0) := (by rw [cell_of_block kv]; rfl); have kv_2 : w3.cell? ⟨w2.heap.size, 2, none⟩ = some (.slice none 0 0) := (by rw [cell_of_block kv]; rfl); have kv_3 : w3.cell? ⟨w2.heap.size, 3, none⟩ = some (.int .i64 0) := (by rw [cell_of_block kv]; rfl); have kv_4 : w3.cell? ⟨w2.heap.size, 4, none⟩ = some (.int .i64 0) := (by rw [cell_of_block kv]; rfl); have kv_5 : w3.cell? ⟨w2.heap.size, 5, none⟩ = some (.slice none 0 0) := (by rw [cell_of_block kv]; rfl)) | (go_at_call 58; (with_reducible refine (hR _ hBb).mono ?_); rintro e w3 ⟨aO', nO', cO', aY', nY', cY', rO', rY', rfl, hr3, hg1, hg2, hb3⟩; have Hg1 := Lib.hid hg1; have Hg2 := Lib.hid hg2; clear hg1 hg2; have kp_2 := bcellv hb3 (show w2.drew.cell? _ = _ from kp_2); have kp_3 := bcellv hb3 (show w2.drew.cell? _ = _ from kp_3); have kp_4 := bcellv hb3 (show w2.drew.cell? _ = _ from kp_4); have kp_5 := bcellv hb3 (show w2.drew.cell? _ = _ from kp_5); have kp_6 := bcellv hb3 (show w2.drew.cell? _ = _ from kp_6); have kp_7 := bcellv hb3 (show w2.drew.cell? _ = _ from kp_7); have k0_8 := bcellv hb3 (show w2.drew.cell? _ = _ from k0_8); have k0_9 := bcellv hb3 (show w2.drew.cell? _ = _ from k0_9); have kp := bblock hb3 (show w2.drew.heap[_]? = _ from kp); have k0 := bblock hb3 (show w2.drew.heap[_]? = _ from k0)))
  all_goals clear hR
  · have hg1 := Hg1.out
    have hg2 := Hg2.out
    have hz3 : w2.heap.size ≤ w3.heap.size := hb3.size
    have hB3 : Below w.heap.size w w3 := bchain hb3 hBb
    have hg1 : ∀ G, rO' = some G → rO = some G ∨ w.heap.size ≤ G := fun G e => (hg1 G e).imp id (fun h => by have : w2.drew.heap.size = w2.heap.size := rfl; omega)
    have hg2 : ∀ G, rY' = some G → rY = some G ∨ w.heap.size ≤ G := fun G e => (hg2 G e).imp id (fun h => by have : w2.drew.heap.size = w2.heap.size := rfl; omega)
    have hB4 : Below w.heap.size w (w3.alloc (.cells #[.int .i64 0, .int .i64 lo, .slice aO' nO' cO', .int .i64 16777216, .int .i64 ly, .slice aY' nY' cY'] 35)) := hB3.alloc hB3.size _
    have hr4 := hr3.below (balloc (Below.refl _ w3) (.cells #[.int .i64 0, .int .i64 lo, .slice aO' nO' cO', .int .i64 16777216, .int .i64 ly, .slice aY' nY' cY'] 35))
    have kv : (w3.alloc (.cells #[.int .i64 0, .int .i64 lo, .slice aO' nO' cO', .int .i64 16777216, .int .i64 ly, .slice aY' nY' cY'] 35)).heap[w3.heap.size]? = some (.cells #[.int .i64 0, .int .i64 lo, .slice aO' nO' cO', .int .i64 16777216, .int .i64 ly, .slice aY' nY' cY'] 35 (0, 0)) := alloc_get _ _
    have kp : (w3.alloc (.cells #[.int .i64 0, .int .i64 lo, .slice aO' nO' cO', .int .i64 16777216, .int .i64 ly, .slice aY' nY' cY'] 35)).heap[p]? = _ := alloc_lt _ kp
    have k0 : (w3.alloc (.cells #[.int .i64 0, .int .i64 lo, .slice aO' nO' cO', .int .i64 16777216, .int .i64 ly, .slice aY' nY' cY'] 35)).heap[w.heap.size]? = _ := alloc_lt _ k0
    have hpV : p ≠ w3.heap.size := by omega
    have h0V : w.heap.size ≠ w3.heap.size := by omega
    have hzV := (Array.getElem?_eq_some_iff.1 kv).1
    obtain ⟨V, hV⟩ : ∃ V, w3.heap.size = V := ⟨_, rfl⟩
    obtain ⟨w4, hw4⟩ : ∃ w4, (w3.alloc (.cells #[.int .i64 0, .int .i64 lo, .slice aO' nO' cO', .int .i64 16777216, .int .i64 ly, .slice aY' nY' cY'] 35)) = w4 := ⟨_, rfl⟩
    rw [hw4] at hr4 hB4 kv kp k0 hzV ⊢
    rw [hV] at kv hpV h0V hzV ⊢
    clear hw4 hV hr3 hb3 hB3 Hg1 Hg2 hBa hBb kp_0 kp_1 kp_2 kp_3 kp_4 kp_5 kp_6 kp_7 kp_8 k0_0 k0_1 k0_2 k0_3 k0_4 k0_5 k0_6 k0_7 k0_8 k0_9 k0_10
    have kp_0 : w4.cell? ⟨p, 0, none⟩ = some (.pointer (some ⟨bO, 0, none⟩)) := by rw [cell_of_block kp]; rfl
    have kp_1 : w4.cell? ⟨p, 1, none⟩ = some (.pointer (some ⟨bY, 0, none⟩)) := by rw [cell_of_block kp]; rfl
    have kp_2 : w4.cell? ⟨p, 2, none⟩ = some (.int .i64 0) := by rw [cell_of_block kp]; rfl
    have kp_3 : w4.cell? ⟨p, 3, none⟩ = some (.int .i64 lo) := by rw [cell_of_block kp]; rfl
    have kp_4 : w4.cell? ⟨p, 4, none⟩ = some (.slice aO nO cO) := by rw [cell_of_block kp]; rfl
    have kp_5 : w4.cell? ⟨p, 5, none⟩ = some (.int .i64 16777216) := by rw [cell_of_block kp]; rfl
    have kp_6 : w4.cell? ⟨p, 6, none⟩ = some (.int .i64 ly) := by rw [cell_of_block kp]; rfl
    have kp_7 : w4.cell? ⟨p, 7, none⟩ = some (.slice aY nY cY) := by rw [cell_of_block kp]; rfl
    have kp_8 : w4.cell? ⟨p, 8, none⟩ = some (lv) := by rw [cell_of_block kp]; rfl
    have kp_f : ∀ i, w4.frozen? ⟨p, i, none⟩ = false := frozen_of_block kp
    have k0_0 : w4.cell? ⟨w.heap.size, 0, none⟩ = some (.int .i64 4) := by rw [cell_of_block k0]; rfl
    have k0_1 : w4.cell? ⟨w.heap.size, 1, none⟩ = some (.int .i64 k) := by rw [cell_of_block k0]; rfl
    have k0_2 : w4.cell? ⟨w.heap.size, 2, none⟩ = some (.int .i64 c) := by rw [cell_of_block k0]; rfl
    have k0_3 : w4.cell? ⟨w.heap.size, 3, none⟩ = some (.int .i64 f) := by rw [cell_of_block k0]; rfl
    have k0_4 : w4.cell? ⟨w.heap.size, 4, none⟩ = some (.int .i64 m) := by rw [cell_of_block k0]; rfl
    have k0_5 : w4.cell? ⟨w.heap.size, 5, none⟩ = some (.int .i64 s) := by rw [cell_of_block k0]; rfl
    have k0_6 : w4.cell? ⟨w.heap.size, 6, none⟩ = some (.int .i64 a) := by rw [cell_of_block k0]; rfl
    have k0_7 : w4.cell? ⟨w.heap.size, 7, none⟩ = some (.int .i64 b) := by rw [cell_of_block k0]; rfl
    have k0_8 : w4.cell? ⟨w.heap.size, 8, none⟩ = some (.int .i64 i) := by rw [cell_of_block k0]; rfl
    have k0_9 : w4.cell? ⟨w.heap.size, 9, none⟩ = some (.int .u64 u) := by rw [cell_of_block k0]; rfl
    have k0_10 : w4.cell? ⟨w.heap.size, 10, none⟩ = some (.bool raw) := by rw [cell_of_block k0]; rfl
    have kv_0 : w4.cell? ⟨V, 0, none⟩ = some (.int .i64 0) := by rw [cell_of_block kv]; rfl
    have kv_1 : w4.cell? ⟨V, 1, none⟩ = some (.int .i64 lo) := by rw [cell_of_block kv]; rfl
    have kv_2 : w4.cell? ⟨V, 2, none⟩ = some (.slice aO' nO' cO') := by rw [cell_of_block kv]; rfl
    have kv_3 : w4.cell? ⟨V, 3, none⟩ = some (.int .i64 16777216) := by rw [cell_of_block kv]; rfl
    have kv_4 : w4.cell? ⟨V, 4, none⟩ = some (.int .i64 ly) := by rw [cell_of_block kv]; rfl
    have kv_5 : w4.cell? ⟨V, 5, none⟩ = some (.slice aY' nY' cY') := by rw [cell_of_block kv]; rfl
    have hzp : p < w4.heap.size := (Array.getElem?_eq_some_iff.1 kp).1
    have hz0 : w.heap.size < w4.heap.size := (Array.getElem?_eq_some_iff.1 k0).1
    go_wp2_with fail
    have hM5 : Mods (fun k => k = p) w4 ((((((w4.setCell ⟨p, 2, none⟩ (.int .i64 0)).setCell ⟨p, 3, none⟩ (.int .i64 lo)).setCell ⟨p, 4, none⟩ (.slice aO' nO' cO')).setCell ⟨p, 5, none⟩ (.int .i64 16777216)).setCell ⟨p, 6, none⟩ (.int .i64 ly)).setCell ⟨p, 7, none⟩ (.slice aY' nY' cY')) := six_off_mods
    have kp5 : ((((((w4.setCell ⟨p, 2, none⟩ (.int .i64 0)).setCell ⟨p, 3, none⟩ (.int .i64 lo)).setCell ⟨p, 4, none⟩ (.slice aO' nO' cO')).setCell ⟨p, 5, none⟩ (.int .i64 16777216)).setCell ⟨p, 6, none⟩ (.int .i64 ly)).setCell ⟨p, 7, none⟩ (.slice aY' nY' cY')).heap[p]? = some (.cells #[.pointer (some ⟨bO, 0, none⟩), .pointer (some ⟨bY, 0, none⟩), .int .i64 0, .int .i64 lo, .slice aO' nO' cO', .int .i64 16777216, .int .i64 ly, .slice aY' nY' cY', lv] 47 (0, 0)) := six_off kp
    have k05 : ((((((w4.setCell ⟨p, 2, none⟩ (.int .i64 0)).setCell ⟨p, 3, none⟩ (.int .i64 lo)).setCell ⟨p, 4, none⟩ (.slice aO' nO' cO')).setCell ⟨p, 5, none⟩ (.int .i64 16777216)).setCell ⟨p, 6, none⟩ (.int .i64 ly)).setCell ⟨p, 7, none⟩ (.slice aY' nY' cY')).heap[w.heap.size]? = some (.cells #[.int .i64 4, .int .i64 k, .int .i64 c, .int .i64 f, .int .i64 m, .int .i64 s, .int .i64 a, .int .i64 b, .int .i64 i, .int .u64 u, .bool raw] 58 (0, 0)) := six_off_other k0 (Ne.symm hpn)
    obtain ⟨w5, hw5⟩ : ∃ w5, ((((((w4.setCell ⟨p, 2, none⟩ (.int .i64 0)).setCell ⟨p, 3, none⟩ (.int .i64 lo)).setCell ⟨p, 4, none⟩ (.slice aO' nO' cO')).setCell ⟨p, 5, none⟩ (.int .i64 16777216)).setCell ⟨p, 6, none⟩ (.int .i64 ly)).setCell ⟨p, 7, none⟩ (.slice aY' nY' cY')) = w5 := ⟨_, rfl⟩
    rw [hw5] at hM5 kp5 k05 ⊢
    clear hw5 kp_0 kp_1 kp_2 kp_3 kp_4 kp_5 kp_6 kp_7 kp_8 k0_0 k0_1 k0_2 k0_3 k0_4 k0_5 k0_6 k0_7 k0_8 k0_9 k0_10 kv_0 kv_1 kv_2 kv_3 kv_4 kv_5 kp_f kp k0 kv
    have hm5 : MemAt w5.drew bO bY lo ly x.wo x.wy gO gY := (hI.mem.below hB4).mods hM5.drew (fun k hk => Hsep.out k (.inl hk))
    have hfr := hI.mem.fresh
    have kp5_0 : w5.cell? ⟨p, 0, none⟩ = some (.pointer (some ⟨bO, 0, none⟩)) := by rw [cell_of_block kp5]; rfl
    have kp5_1 : w5.cell? ⟨p, 1, none⟩ = some (.pointer (some ⟨bY, 0, none⟩)) := by rw [cell_of_block kp5]; rfl
    have k05_8 : w5.cell? ⟨w.heap.size, 8, none⟩ = some (.int .i64 i) := by rw [cell_of_block k05]; rfl
    have k05_9 : w5.cell? ⟨w.heap.size, 9, none⟩ = some (.int .u64 u) := by rw [cell_of_block k05]; rfl
    go_wp2_with fail
    go_region_held3 (fun w' => w'.cell? ⟨p, 0, none⟩ = some (.pointer (some ⟨bO, 0, none⟩)) ∧ w'.cell? ⟨p, 1, none⟩ = some (.pointer (some ⟨bY, 0, none⟩)) ∧ w'.cell? ⟨w.heap.size, 8, none⟩ = some (.int .i64 i) ∧ w'.cell? ⟨w.heap.size, 9, none⟩ = some (.int .u64 u)) (first | (with_reducible exact ⟨kp5_0, kp5_1, k05_8, k05_9⟩) | go_keep) (first | (go_at_call 59; (with_reducible refine (hA _ hm5).mono ?_); rintro e w6 ⟨rfl, hm6, hX6⟩; have kp5_0 := mcell hX6 (show w5.drew.cell? _ = _ from kp5_0) (fun e => Hsep.out _ (.inl e) rfl); have kp5_1 := mcell hX6 (show w5.drew.cell? _ = _ from kp5_1) (fun e => Hsep.out _ (.inl e) rfl); have k05_8 := mcell hX6 (show w5.drew.cell? _ = _ from k05_8) (fun e => hfr _ (Nat.le_refl _) e); have k05_9 := mcell hX6 (show w5.drew.cell? _ = _ from k05_9) (fun e => hfr _ (Nat.le_refl _) e)))
    clear hfr
    go_wp2
    go_ret
    exact ⟨rfl, WAt.finQ hI hn hp0 hp1 Hsep.out hB4 hr4 hg1 hg2 hM5 hm6 (Mods.mk hX6.os hX6.tape hX6.output hX6.size hX6.block) kp5⟩
  · have hg1 := Hg1.out
    have hg2 := Hg2.out
    have hB3 : Below w.heap.size w w3 := bchain hb3 hBa
    have hzd : (w2.alloc (.cells #[.int .i64 0, .int .i64 0, .slice none 0 0, .int .i64 0, .int .i64 0, .slice none 0 0] 35)).drew.heap.size = w2.heap.size + 1 := World.size_alloc _ _
    rw [hzd] at hg1 hg2
    have hlt1 := fun G e => hI.lt G (.inr (.inl e))
    have hlt2 := fun G e => hI.lt G (.inr (.inr (.inl e)))
    have hr4 := hr3.mods (six_mods (j := w2.heap.size) (b0 := .int .i64 0) (b1 := .int .i64 lo) (b2 := .slice aO' nO' cO') (b3 := .int .i64 16777216) (b4 := .int .i64 ly) (b5 := .slice aY' nY' cY')) (fun G e => by rcases hg1 G e with h | h; (have := hlt1 G h; omega); omega) (fun G e => by rcases hg2 G e with h | h; (have := hlt2 G h; omega); omega)
    have hg1 : ∀ G, rO' = some G → rO = some G ∨ w.heap.size ≤ G := fun G e => (hg1 G e).imp id (fun h => by omega)
    have hg2 : ∀ G, rY' = some G → rY = some G ∨ w.heap.size ≤ G := fun G e => (hg2 G e).imp id (fun h => by omega)
    have hB4 : Below w.heap.size w ((((((w3.setCell ⟨w2.heap.size, 0, none⟩ (.int .i64 0)).setCell ⟨w2.heap.size, 1, none⟩ (.int .i64 lo)).setCell ⟨w2.heap.size, 2, none⟩ (.slice aO' nO' cO')).setCell ⟨w2.heap.size, 3, none⟩ (.int .i64 16777216)).setCell ⟨w2.heap.size, 4, none⟩ (.int .i64 ly)).setCell ⟨w2.heap.size, 5, none⟩ (.slice aY' nY' cY')) := (Mods.trans (S := fun k => w.heap.size ≤ k) (Mods.of_below hB3) six_mods (fun i hi => .inl (by omega))).below (Nat.le_refl _) (fun k hk => hk)
    have kv : ((((((w3.setCell ⟨w2.heap.size, 0, none⟩ (.int .i64 0)).setCell ⟨w2.heap.size, 1, none⟩ (.int .i64 lo)).setCell ⟨w2.heap.size, 2, none⟩ (.slice aO' nO' cO')).setCell ⟨w2.heap.size, 3, none⟩ (.int .i64 16777216)).setCell ⟨w2.heap.size, 4, none⟩ (.int .i64 ly)).setCell ⟨w2.heap.size, 5, none⟩ (.slice aY' nY' cY')).heap[w2.heap.size]? = some (.cells #[.int .i64 0, .int .i64 lo, .slice aO' nO' cO', .int .i64 16777216, .int .i64 ly, .slice aY' nY' cY'] 35 (0, 0)) := set6 kv
    have kp : ((((((w3.setCell ⟨w2.heap.size, 0, none⟩ (.int .i64 0)).setCell ⟨w2.heap.size, 1, none⟩ (.int .i64 lo)).setCell ⟨w2.heap.size, 2, none⟩ (.slice aO' nO' cO')).setCell ⟨w2.heap.size, 3, none⟩ (.int .i64 16777216)).setCell ⟨w2.heap.size, 4, none⟩ (.int .i64 ly)).setCell ⟨w2.heap.size, 5, none⟩ (.slice aY' nY' cY')).heap[p]? = _ := six_other kp hne_kp
    have k0 : ((((((w3.setCell ⟨w2.heap.size, 0, none⟩ (.int .i64 0)).setCell ⟨w2.heap.size, 1, none⟩ (.int .i64 lo)).setCell ⟨w2.heap.size, 2, none⟩ (.slice aO' nO' cO')).setCell ⟨w2.heap.size, 3, none⟩ (.int .i64 16777216)).setCell ⟨w2.heap.size, 4, none⟩ (.int .i64 ly)).setCell ⟨w2.heap.size, 5, none⟩ (.slice aY' nY' cY')).heap[w.heap.size]? = _ := six_other k0 hne_k0
    have hpV : p ≠ w2.heap.size := hne_kp
    have h0V : w.heap.size ≠ w2.heap.size := hne_k0
    clear hzd hlt1 hlt2
    have hzV := (Array.getElem?_eq_some_iff.1 kv).1
    obtain ⟨V, hV⟩ : ∃ V, w2.heap.size = V := ⟨_, rfl⟩
    obtain ⟨w4, hw4⟩ : ∃ w4, ((((((w3.setCell ⟨w2.heap.size, 0, none⟩ (.int .i64 0)).setCell ⟨w2.heap.size, 1, none⟩ (.int .i64 lo)).setCell ⟨w2.heap.size, 2, none⟩ (.slice aO' nO' cO')).setCell ⟨w2.heap.size, 3, none⟩ (.int .i64 16777216)).setCell ⟨w2.heap.size, 4, none⟩ (.int .i64 ly)).setCell ⟨w2.heap.size, 5, none⟩ (.slice aY' nY' cY')) = w4 := ⟨_, rfl⟩
    rw [hw4] at hr4 hB4 kv kp k0 hzV ⊢
    rw [hV] at kv hpV h0V hzV ⊢
    clear hw4 hV hr3 hb3 hB3 Hg1 Hg2 hBa hBb kp_0 kp_1 kp_2 kp_3 kp_4 kp_5 kp_6 kp_7 kp_8 k0_0 k0_1 k0_2 k0_3 k0_4 k0_5 k0_6 k0_7 k0_8 k0_9 k0_10 kv_f hzv kv_0 kv_1 kv_2 kv_3 kv_4 kv_5
    have kp_0 : w4.cell? ⟨p, 0, none⟩ = some (.pointer (some ⟨bO, 0, none⟩)) := by rw [cell_of_block kp]; rfl
    have kp_1 : w4.cell? ⟨p, 1, none⟩ = some (.pointer (some ⟨bY, 0, none⟩)) := by rw [cell_of_block kp]; rfl
    have kp_2 : w4.cell? ⟨p, 2, none⟩ = some (.int .i64 0) := by rw [cell_of_block kp]; rfl
    have kp_3 : w4.cell? ⟨p, 3, none⟩ = some (.int .i64 lo) := by rw [cell_of_block kp]; rfl
    have kp_4 : w4.cell? ⟨p, 4, none⟩ = some (.slice aO nO cO) := by rw [cell_of_block kp]; rfl
    have kp_5 : w4.cell? ⟨p, 5, none⟩ = some (.int .i64 16777216) := by rw [cell_of_block kp]; rfl
    have kp_6 : w4.cell? ⟨p, 6, none⟩ = some (.int .i64 ly) := by rw [cell_of_block kp]; rfl
    have kp_7 : w4.cell? ⟨p, 7, none⟩ = some (.slice aY nY cY) := by rw [cell_of_block kp]; rfl
    have kp_8 : w4.cell? ⟨p, 8, none⟩ = some (lv) := by rw [cell_of_block kp]; rfl
    have kp_f : ∀ i, w4.frozen? ⟨p, i, none⟩ = false := frozen_of_block kp
    have k0_0 : w4.cell? ⟨w.heap.size, 0, none⟩ = some (.int .i64 4) := by rw [cell_of_block k0]; rfl
    have k0_1 : w4.cell? ⟨w.heap.size, 1, none⟩ = some (.int .i64 k) := by rw [cell_of_block k0]; rfl
    have k0_2 : w4.cell? ⟨w.heap.size, 2, none⟩ = some (.int .i64 c) := by rw [cell_of_block k0]; rfl
    have k0_3 : w4.cell? ⟨w.heap.size, 3, none⟩ = some (.int .i64 f) := by rw [cell_of_block k0]; rfl
    have k0_4 : w4.cell? ⟨w.heap.size, 4, none⟩ = some (.int .i64 m) := by rw [cell_of_block k0]; rfl
    have k0_5 : w4.cell? ⟨w.heap.size, 5, none⟩ = some (.int .i64 s) := by rw [cell_of_block k0]; rfl
    have k0_6 : w4.cell? ⟨w.heap.size, 6, none⟩ = some (.int .i64 a) := by rw [cell_of_block k0]; rfl
    have k0_7 : w4.cell? ⟨w.heap.size, 7, none⟩ = some (.int .i64 b) := by rw [cell_of_block k0]; rfl
    have k0_8 : w4.cell? ⟨w.heap.size, 8, none⟩ = some (.int .i64 i) := by rw [cell_of_block k0]; rfl
    have k0_9 : w4.cell? ⟨w.heap.size, 9, none⟩ = some (.int .u64 u) := by rw [cell_of_block k0]; rfl
    have k0_10 : w4.cell? ⟨w.heap.size, 10, none⟩ = some (.bool raw) := by rw [cell_of_block k0]; rfl
    have kv_0 : w4.cell? ⟨V, 0, none⟩ = some (.int .i64 0) := by rw [cell_of_block kv]; rfl
    have kv_1 : w4.cell? ⟨V, 1, none⟩ = some (.int .i64 lo) := by rw [cell_of_block kv]; rfl
    have kv_2 : w4.cell? ⟨V, 2, none⟩ = some (.slice aO' nO' cO') := by rw [cell_of_block kv]; rfl
    have kv_3 : w4.cell? ⟨V, 3, none⟩ = some (.int .i64 16777216) := by rw [cell_of_block kv]; rfl
    have kv_4 : w4.cell? ⟨V, 4, none⟩ = some (.int .i64 ly) := by rw [cell_of_block kv]; rfl
    have kv_5 : w4.cell? ⟨V, 5, none⟩ = some (.slice aY' nY' cY') := by rw [cell_of_block kv]; rfl
    have hzp : p < w4.heap.size := (Array.getElem?_eq_some_iff.1 kp).1
    have hz0 : w.heap.size < w4.heap.size := (Array.getElem?_eq_some_iff.1 k0).1
    go_wp2_with fail
    have hM5 : Mods (fun k => k = p) w4 ((((((w4.setCell ⟨p, 2, none⟩ (.int .i64 0)).setCell ⟨p, 3, none⟩ (.int .i64 lo)).setCell ⟨p, 4, none⟩ (.slice aO' nO' cO')).setCell ⟨p, 5, none⟩ (.int .i64 16777216)).setCell ⟨p, 6, none⟩ (.int .i64 ly)).setCell ⟨p, 7, none⟩ (.slice aY' nY' cY')) := six_off_mods
    have kp5 : ((((((w4.setCell ⟨p, 2, none⟩ (.int .i64 0)).setCell ⟨p, 3, none⟩ (.int .i64 lo)).setCell ⟨p, 4, none⟩ (.slice aO' nO' cO')).setCell ⟨p, 5, none⟩ (.int .i64 16777216)).setCell ⟨p, 6, none⟩ (.int .i64 ly)).setCell ⟨p, 7, none⟩ (.slice aY' nY' cY')).heap[p]? = some (.cells #[.pointer (some ⟨bO, 0, none⟩), .pointer (some ⟨bY, 0, none⟩), .int .i64 0, .int .i64 lo, .slice aO' nO' cO', .int .i64 16777216, .int .i64 ly, .slice aY' nY' cY', lv] 47 (0, 0)) := six_off kp
    have k05 : ((((((w4.setCell ⟨p, 2, none⟩ (.int .i64 0)).setCell ⟨p, 3, none⟩ (.int .i64 lo)).setCell ⟨p, 4, none⟩ (.slice aO' nO' cO')).setCell ⟨p, 5, none⟩ (.int .i64 16777216)).setCell ⟨p, 6, none⟩ (.int .i64 ly)).setCell ⟨p, 7, none⟩ (.slice aY' nY' cY')).heap[w.heap.size]? = some (.cells #[.int .i64 4, .int .i64 k, .int .i64 c, .int .i64 f, .int .i64 m, .int .i64 s, .int .i64 a, .int .i64 b, .int .i64 i, .int .u64 u, .bool raw] 58 (0, 0)) := six_off_other k0 (Ne.symm hpn)
    obtain ⟨w5, hw5⟩ : ∃ w5, ((((((w4.setCell ⟨p, 2, none⟩ (.int .i64 0)).setCell ⟨p, 3, none⟩ (.int .i64 lo)).setCell ⟨p, 4, none⟩ (.slice aO' nO' cO')).setCell ⟨p, 5, none⟩ (.int .i64 16777216)).setCell ⟨p, 6, none⟩ (.int .i64 ly)).setCell ⟨p, 7, none⟩ (.slice aY' nY' cY')) = w5 := ⟨_, rfl⟩
    rw [hw5] at hM5 kp5 k05 ⊢
    clear hw5 kp_0 kp_1 kp_2 kp_3 kp_4 kp_5 kp_6 kp_7 kp_8 k0_0 k0_1 k0_2 k0_3 k0_4 k0_5 k0_6 k0_7 k0_8 k0_9 k0_10 kv_0 kv_1 kv_2 kv_3 kv_4 kv_5 kp_f kp k0 kv
    have hm5 : MemAt w5.drew bO bY lo ly x.wo x.wy gO gY := (hI.mem.below hB4).mods hM5.drew (fun k hk => Hsep.out k (.inl hk))
    have hfr := hI.mem.fresh
    have kp5_0 : w5.cell? ⟨p, 0, none⟩ = some (.pointer (some ⟨bO, 0, none⟩)) := by rw [cell_of_block kp5]; rfl
    have kp5_1 : w5.cell? ⟨p, 1, none⟩ = some (.pointer (some ⟨bY, 0, none⟩)) := by rw [cell_of_block kp5]; rfl
    have k05_8 : w5.cell? ⟨w.heap.size, 8, none⟩ = some (.int .i64 i) := by rw [cell_of_block k05]; rfl
    have k05_9 : w5.cell? ⟨w.heap.size, 9, none⟩ = some (.int .u64 u) := by rw [cell_of_block k05]; rfl
    go_wp2_with fail
    go_region_held3 (fun w' => w'.cell? ⟨p, 0, none⟩ = some (.pointer (some ⟨bO, 0, none⟩)) ∧ w'.cell? ⟨p, 1, none⟩ = some (.pointer (some ⟨bY, 0, none⟩)) ∧ w'.cell? ⟨w.heap.size, 8, none⟩ = some (.int .i64 i) ∧ w'.cell? ⟨w.heap.size, 9, none⟩ = some (.int .u64 u)) (first | (with_reducible exact ⟨kp5_0, kp5_1, k05_8, k05_9⟩) | go_keep) (first | (go_at_call 59; (with_reducible refine (hA _ hm5).mono ?_); rintro e w6 ⟨rfl, hm6, hX6⟩; have kp5_0 := mcell hX6 (show w5.drew.cell? _ = _ from kp5_0) (fun e => Hsep.out _ (.inl e) rfl); have kp5_1 := mcell hX6 (show w5.drew.cell? _ = _ from kp5_1) (fun e => Hsep.out _ (.inl e) rfl); have k05_8 := mcell hX6 (show w5.drew.cell? _ = _ from k05_8) (fun e => hfr _ (Nat.le_refl _) e); have k05_9 := mcell hX6 (show w5.drew.cell? _ = _ from k05_9) (fun e => hfr _ (Nat.le_refl _) e)))
    clear hfr
    go_wp2
    go_ret
    exact ⟨rfl, WAt.finQ hI hn hp0 hp1 Hsep.out hB4 hr4 hg1 hg2 hM5 hm6 (Mods.mk hX6.os hX6.tape hX6.output hX6.size hX6.block) kp5⟩
theorem stp_4 {w : World} {n0 p : Nat} {lo ly : Int} {x : S7} (h : WAt w n0 p lo ly x) (hn : n0 ≤ w.heap.size) (k c f m s a b i u : Int) (raw : Bool) (hu : U64 u) :
    Calls Try.prog 22 #[.pointer (some ⟨p, 0, none⟩), .agg #[.int .i64 4, .int .i64 k, .int .i64 c, .int .i64 f, .int .i64 m, .int .i64 s, .int .i64 a, .int .i64 b, .int .i64 i, .int .u64 u, .bool raw]] w (StP w n0 p lo ly ⟨(rrM x.wo x.wy (atW raw x.l a) i u).1, (rrM x.wo x.wy (atW raw x.l a) i u).2, x.l⟩) := by
  obtain ⟨bO, bY, aO, nO, cO, aY, nY, cY, lv, gO, gY, rO, rY, hp0, kp, hI, hsep⟩ := h
  exact (stq_4 hp0 kp hI hsep hn k c f m s a b i u raw hu).mono (fun e w' hq => hq.to hp0 hI.ms)
end Go.Proofs.Ytcmhgjkijegpnaa
namespace Go.Proofs.Ytcmhgjkijegpnaa
open Go.RowKit
set_option linter.unusedSimpArgs false
set_option linter.unusedVariables false

set_option maxRecDepth 100000 in
set_option maxHeartbeats 4000000 in
theorem stp_6 {w : World} {n0 p : Nat} {lo ly : Int} {x : S7} (h : WAt w n0 p lo ly x) (hn : n0 ≤ w.heap.size) (k c f m s a b i u : Int) (raw : Bool) (hu : U64 u) :
    Calls Try.prog 22 #[.pointer (some ⟨p, 0, none⟩), .agg #[.int .i64 6, .int .i64 k, .int .i64 c, .int .i64 f, .int .i64 m, .int .i64 s, .int .i64 a, .int .i64 b, .int .i64 i, .int .u64 u, .bool raw]] w (StP w n0 p lo ly ⟨stO x.wo (atW raw x.l a) u, stY x.wy (atW raw x.l a) u, x.l⟩) := by
  obtain ⟨bO, bY, aO, nO, cO, aY, nY, cY, lv, gO, gY, rO, rY, hp0, kp, hI, hsep⟩ := h
  have hp1 : p < w.heap.size := (Array.getElem?_eq_some_iff.1 kp).1
  have hpn : p ≠ w.heap.size := by omega
  have Hsep := Lib.hid hsep
  clear hsep
  have kp : w.heap[p]? = some (.cells #[.pointer (some ⟨bO, 0, none⟩), .pointer (some ⟨bY, 0, none⟩), .int .i64 0, .int .i64 lo, .slice aO nO cO, .int .i64 16777216, .int .i64 ly, .slice aY nY cY, lv] 47 (0, 0)) := kp
  have hat := fun W (H : Below w.heap.size w W) => wat_row (.pointer (some ⟨bO, 0, none⟩)) (.pointer (some ⟨bY, 0, none⟩)) (.int .i64 0) (.int .i64 lo) (.slice aO nO cO) (.int .i64 16777216) (.int .i64 ly) (.slice aY nY cY) 6 k c f m s a b i u raw a (row_keep hI.lst (fun G o e ho => bblock H ho))
  have hR := fun W (H : Below w.heap.size w W) => rmstore_any (hI.ref.below H) (atW raw x.l a) u hu
  have hA := fun W (H : MemAt W bO bY lo ly x.wo x.wy gO gY) => mstore_any H (atW raw x.l a) u hu
  generalize atW raw x.l a = y at *
  generalize LE x.wo x.wy y = re at *
  generalize hwo : stO x.wo y u = wo' at *
  generalize hwy : stY x.wy y u = wy' at *
  clear hwo hwy
  go_enter Try.func22, Try.ntmps22
  go_wp2_with fail
  obtain ⟨w1, hw1⟩ : ∃ w1, (w.alloc (.cells #[.int .i64 6, .int .i64 k, .int .i64 c, .int .i64 f, .int .i64 m, .int .i64 s, .int .i64 a, .int .i64 b, .int .i64 i, .int .u64 u, .bool raw] 58)) = w1 := ⟨_, rfl⟩
  have hb1 : Below w.heap.size w w1 := by rw [← hw1]; exact balloc (Below.refl _ _) _
  have k0 : w1.heap[w.heap.size]? = some (.cells #[.int .i64 6, .int .i64 k, .int .i64 c, .int .i64 f, .int .i64 m, .int .i64 s, .int .i64 a, .int .i64 b, .int .i64 i, .int .u64 u, .bool raw] 58 (0, 0)) := by rw [← hw1]; exact alloc_get _ _
  have kp : w1.heap[p]? = some (.cells #[.pointer (some ⟨bO, 0, none⟩), .pointer (some ⟨bY, 0, none⟩), .int .i64 0, .int .i64 lo, .slice aO nO cO, .int .i64 16777216, .int .i64 ly, .slice aY nY cY, lv] 47 (0, 0)) := bblock hb1 kp
  rw [hw1]
  clear hw1
  have o_kp_0 : ∀ x, (over w1 x).cell? ⟨p, 0, none⟩ = some (.pointer (some ⟨bO, 0, none⟩)) := over_cell (by rw [cell_of_block kp]; rfl)
  have o_kp_1 : ∀ x, (over w1 x).cell? ⟨p, 1, none⟩ = some (.pointer (some ⟨bY, 0, none⟩)) := over_cell (by rw [cell_of_block kp]; rfl)
  have o_kp_2 : ∀ x, (over w1 x).cell? ⟨p, 2, none⟩ = some (.int .i64 0) := over_cell (by rw [cell_of_block kp]; rfl)
  have o_kp_3 : ∀ x, (over w1 x).cell? ⟨p, 3, none⟩ = some (.int .i64 lo) := over_cell (by rw [cell_of_block kp]; rfl)
  have o_kp_4 : ∀ x, (over w1 x).cell? ⟨p, 4, none⟩ = some (.slice aO nO cO) := over_cell (by rw [cell_of_block kp]; rfl)
  have o_kp_5 : ∀ x, (over w1 x).cell? ⟨p, 5, none⟩ = some (.int .i64 16777216) := over_cell (by rw [cell_of_block kp]; rfl)
  have o_kp_6 : ∀ x, (over w1 x).cell? ⟨p, 6, none⟩ = some (.int .i64 ly) := over_cell (by rw [cell_of_block kp]; rfl)
  have o_kp_7 : ∀ x, (over w1 x).cell? ⟨p, 7, none⟩ = some (.slice aY nY cY) := over_cell (by rw [cell_of_block kp]; rfl)
  have o_kp_8 : ∀ x, (over w1 x).cell? ⟨p, 8, none⟩ = some (lv) := over_cell (by rw [cell_of_block kp]; rfl)
  have o_k0_0 : ∀ x, (over w1 x).cell? ⟨w.heap.size, 0, none⟩ = some (.int .i64 6) := over_cell (by rw [cell_of_block k0]; rfl)
  have o_k0_1 : ∀ x, (over w1 x).cell? ⟨w.heap.size, 1, none⟩ = some (.int .i64 k) := over_cell (by rw [cell_of_block k0]; rfl)
  have o_k0_2 : ∀ x, (over w1 x).cell? ⟨w.heap.size, 2, none⟩ = some (.int .i64 c) := over_cell (by rw [cell_of_block k0]; rfl)
  have o_k0_3 : ∀ x, (over w1 x).cell? ⟨w.heap.size, 3, none⟩ = some (.int .i64 f) := over_cell (by rw [cell_of_block k0]; rfl)
  have o_k0_4 : ∀ x, (over w1 x).cell? ⟨w.heap.size, 4, none⟩ = some (.int .i64 m) := over_cell (by rw [cell_of_block k0]; rfl)
  have o_k0_5 : ∀ x, (over w1 x).cell? ⟨w.heap.size, 5, none⟩ = some (.int .i64 s) := over_cell (by rw [cell_of_block k0]; rfl)
  have o_k0_6 : ∀ x, (over w1 x).cell? ⟨w.heap.size, 6, none⟩ = some (.int .i64 a) := over_cell (by rw [cell_of_block k0]; rfl)
  have o_k0_7 : ∀ x, (over w1 x).cell? ⟨w.heap.size, 7, none⟩ = some (.int .i64 b) := over_cell (by rw [cell_of_block k0]; rfl)
  have o_k0_8 : ∀ x, (over w1 x).cell? ⟨w.heap.size, 8, none⟩ = some (.int .i64 i) := over_cell (by rw [cell_of_block k0]; rfl)
  have o_k0_9 : ∀ x, (over w1 x).cell? ⟨w.heap.size, 9, none⟩ = some (.int .u64 u) := over_cell (by rw [cell_of_block k0]; rfl)
  have o_k0_10 : ∀ x, (over w1 x).cell? ⟨w.heap.size, 10, none⟩ = some (.bool raw) := over_cell (by rw [cell_of_block k0]; rfl)
  (refine wp_region_over (by kernel_rfl) (by kernel_rfl) ?_); (repeat (go_big_quiet_step ((first | (go_at_call 21; exact calls_over (hat _ (bchain (over_below w1 _) hb1))))))); (refine wpQuiet_nil ?_)
  intro w2 hb2
  have k0 := bblock hb2 k0
  have kp := bblock hb2 kp
  have hB2 : Below w.heap.size w w2 := bchain hb2 hb1
  clear hb1 hb2 hat o_kp_0 o_kp_1 o_kp_2 o_kp_3 o_kp_4 o_kp_5 o_kp_6 o_kp_7 o_kp_8 o_k0_0 o_k0_1 o_k0_2 o_k0_3 o_k0_4 o_k0_5 o_k0_6 o_k0_7 o_k0_8 o_k0_9 o_k0_10
  have kp_0 : w2.cell? ⟨p, 0, none⟩ = some (.pointer (some ⟨bO, 0, none⟩)) := by rw [cell_of_block kp]; rfl
  have kp_1 : w2.cell? ⟨p, 1, none⟩ = some (.pointer (some ⟨bY, 0, none⟩)) := by rw [cell_of_block kp]; rfl
  have kp_2 : w2.cell? ⟨p, 2, none⟩ = some (.int .i64 0) := by rw [cell_of_block kp]; rfl
  have kp_3 : w2.cell? ⟨p, 3, none⟩ = some (.int .i64 lo) := by rw [cell_of_block kp]; rfl
  have kp_4 : w2.cell? ⟨p, 4, none⟩ = some (.slice aO nO cO) := by rw [cell_of_block kp]; rfl
  have kp_5 : w2.cell? ⟨p, 5, none⟩ = some (.int .i64 16777216) := by rw [cell_of_block kp]; rfl
  have kp_6 : w2.cell? ⟨p, 6, none⟩ = some (.int .i64 ly) := by rw [cell_of_block kp]; rfl
  have kp_7 : w2.cell? ⟨p, 7, none⟩ = some (.slice aY nY cY) := by rw [cell_of_block kp]; rfl
  have kp_8 : w2.cell? ⟨p, 8, none⟩ = some (lv) := by rw [cell_of_block kp]; rfl
  have k0_0 : w2.cell? ⟨w.heap.size, 0, none⟩ = some (.int .i64 6) := by rw [cell_of_block k0]; rfl
  have k0_1 : w2.cell? ⟨w.heap.size, 1, none⟩ = some (.int .i64 k) := by rw [cell_of_block k0]; rfl
  have k0_2 : w2.cell? ⟨w.heap.size, 2, none⟩ = some (.int .i64 c) := by rw [cell_of_block k0]; rfl
  have k0_3 : w2.cell? ⟨w.heap.size, 3, none⟩ = some (.int .i64 f) := by rw [cell_of_block k0]; rfl
  have k0_4 : w2.cell? ⟨w.heap.size, 4, none⟩ = some (.int .i64 m) := by rw [cell_of_block k0]; rfl
  have k0_5 : w2.cell? ⟨w.heap.size, 5, none⟩ = some (.int .i64 s) := by rw [cell_of_block k0]; rfl
  have k0_6 : w2.cell? ⟨w.heap.size, 6, none⟩ = some (.int .i64 a) := by rw [cell_of_block k0]; rfl
  have k0_7 : w2.cell? ⟨w.heap.size, 7, none⟩ = some (.int .i64 b) := by rw [cell_of_block k0]; rfl
  have k0_8 : w2.cell? ⟨w.heap.size, 8, none⟩ = some (.int .i64 i) := by rw [cell_of_block k0]; rfl
  have k0_9 : w2.cell? ⟨w.heap.size, 9, none⟩ = some (.int .u64 u) := by rw [cell_of_block k0]; rfl
  have k0_10 : w2.cell? ⟨w.heap.size, 10, none⟩ = some (.bool raw) := by rw [cell_of_block k0]; rfl
  have hBa : Below w.heap.size w (w2.alloc (.cells #[.int .i64 0, .int .i64 0, .slice none 0 0, .int .i64 0, .int .i64 0, .slice none 0 0] 35)).drew := by (repeat (first | exact Below.refl _ _ | assumption | refine Below.drew ?_ | refine below_drewN ?_ _ | refine balloc ?_ _ | refine Below.setCell ?_ (by first | (simp; done) | (simp; omega) | omega) _ | refine bchain (by assumption) ?_))
  have hBb : Below w.heap.size w w2.drew := by (repeat (first | exact Below.refl _ _ | assumption | refine Below.drew ?_ | refine below_drewN ?_ _ | refine balloc ?_ _ | refine Below.setCell ?_ (by first | (simp; done) | (simp; omega) | omega) _ | refine bchain (by assumption) ?_))
  have hw2p : w.heap.size ≤ w2.heap.size := hB2.size
  have hwz : w.heap.size < w2.heap.size := (Array.getElem?_eq_some_iff.1 k0).1
  have hwp : p < w2.heap.size := (Array.getElem?_eq_some_iff.1 kp).1
  have hne_k0 : w.heap.size ≠ w2.heap.size := by omega
  have hne_kp : p ≠ w2.heap.size := by omega
  go_wp2_with fail
  go_region_held3 (fun w' => w'.cell? ⟨p, 2, none⟩ = some (.int .i64 0) ∧ w'.cell? ⟨p, 3, none⟩ = some (.int .i64 lo) ∧ w'.cell? ⟨p, 4, none⟩ = some (.slice aO nO cO) ∧ w'.cell? ⟨p, 5, none⟩ = some (.int .i64 16777216) ∧ w'.cell? ⟨p, 6, none⟩ = some (.int .i64 ly) ∧ w'.cell? ⟨p, 7, none⟩ = some (.slice aY nY cY) ∧ w'.cell? ⟨w.heap.size, 9, none⟩ = some (.int .u64 u)) (first | (with_reducible exact ⟨kp_2, kp_3, kp_4, kp_5, kp_6, kp_7, k0_9⟩) | (with_reducible exact ⟨six_cell kp_2 hne_kp, six_cell kp_3 hne_kp, six_cell kp_4 hne_kp, six_cell kp_5 hne_kp, six_cell kp_6 hne_kp, six_cell kp_7 hne_kp, six_cell k0_9 hne_k0⟩) | go_keep) (first | (go_at_call 61; (with_reducible refine (hR _ hBa).mono ?_); rintro e w3 ⟨aO', nO', cO', aY', nY', cY', rO', rY', rfl, hr3, hg1, hg2, hb3⟩; have Hg1 := Lib.hid hg1; have Hg2 := Lib.hid hg2; clear hg1 hg2; have kp_2 := bcellv hb3 (show (w2.alloc (.cells #[.int .i64 0, .int .i64 0, .slice none 0 0, .int .i64 0, .int .i64 0, .slice none 0 0] 35)).drew.cell? _ = _ from bcellv (balloc (Below.refl _ w2) _) kp_2); have kp_3 := bcellv hb3 (show (w2.alloc (.cells #[.int .i64 0, .int .i64 0, .slice none 0 0, .int .i64 0, .int .i64 0, .slice none 0 0] 35)).drew.cell? _ = _ from bcellv (balloc (Below.refl _ w2) _) kp_3); have kp_4 := bcellv hb3 (show (w2.alloc (.cells #[.int .i64 0, .int .i64 0, .slice none 0 0, .int .i64 0, .int .i64 0, .slice none 0 0] 35)).drew.cell? _ = _ from bcellv (balloc (Below.refl _ w2) _) kp_4); have kp_5 := bcellv hb3 (show (w2.alloc (.cells #[.int .i64 0, .int .i64 0, .slice none 0 0, .int .i64 0, .int .i64 0, .slice none 0 0] 35)).drew.cell? _ = _ from bcellv (balloc (Below.refl _ w2) _) kp_5); have kp_6 := bcellv hb3 (show (w2.alloc (.cells #[.int .i64 0, .int .i64 0, .slice none 0 0, .int .i64 0, .int .i64 0, .slice none 0 0] 35)).drew.cell? _ = _ from bcellv (balloc (Below.refl _ w2) _) kp_6); have kp_7 := bcellv hb3 (show (w2.alloc (.cells #[.int .i64 0, .int .i64 0, .slice none 0 0, .int .i64 0, .int .i64 0, .slice none 0 0] 35)).drew.cell? _ = _ from bcellv (balloc (Below.refl _ w2) _) kp_7); have k0_9 := bcellv hb3 (show (w2.alloc (.cells #[.int .i64 0, .int .i64 0, .slice none 0 0, .int .i64 0, .int .i64 0, .slice none 0 0] 35)).drew.cell? _ = _ from bcellv (balloc (Below.refl _ w2) _) k0_9); have kp := bblock hb3 (show (w2.alloc (.cells #[.int .i64 0, .int .i64 0, .slice none 0 0, .int .i64 0, .int .i64 0, .slice none 0 0] 35)).drew.heap[_]? = _ from alloc_lt _ kp); have k0 := bblock hb3 (show (w2.alloc (.cells #[.int .i64 0, .int .i64 0, .slice none 0 0, .int .i64 0, .int .i64 0, .slice none 0 0] 35)).drew.heap[_]? = _ from alloc_lt _ k0); have kv := bblock hb3 (show (w2.alloc (.cells #[.int .i64 0, .int .i64 0, .slice none 0 0, .int .i64 0, .int .i64 0, .slice none 0 0] 35)).drew.heap[_]? = _ from alloc_get w2 _); have kv_f : ∀ i, w3.frozen? ⟨w2.heap.size, i, none⟩ = false := frozen_of_block kv; have hzv : w2.heap.size < w3.heap.size := (Array.getElem?_eq_some_iff.1 kv).1; have kv_0 : w3.cell? ⟨w2.heap.size, 0, none⟩ = some (.int .i64 0) := (by rw [cell_of_block kv]; rfl); have kv_1 : w3.cell? ⟨w2.heap.size, 1, none⟩ = some (.int .i64 0) := (by rw [cell_of_block kv]; rfl); have kv_2 : w3.cell? ⟨w2.heap.size, 2, none⟩ = some (.slice none 0 0) := (by rw [cell_of_block kv]; rfl); have kv_3 : w3.cell? ⟨w2.heap.size, 3, none⟩ = some (.int .i64 0) := (by rw [cell_of_block kv]; rfl); have kv_4 : w3.cell? ⟨w2.heap.size, 4, none⟩ = some (.int .i64 0) := (by rw [cell_of_block kv]; rfl); have kv_5 : w3.cell? ⟨w2.heap.size, 5, none⟩ = some (.slice none 0 0) := (by rw [cell_of_block kv]; rfl)) | (go_at_call 61; (with_reducible refine (hR _ hBb).mono ?_); rintro e w3 ⟨aO', nO', cO', aY', nY', cY', rO', rY', rfl, hr3, hg1, hg2, hb3⟩; have Hg1 := Lib.hid hg1; have Hg2 := Lib.hid hg2; clear hg1 hg2; have kp_2 := bcellv hb3 (show w2.drew.cell? _ = _ from kp_2); have kp_3 := bcellv hb3 (show w2.drew.cell? _ = _ from kp_3); have kp_4 := bcellv hb3 (show w2.drew.cell? _ = _ from kp_4); have kp_5 := bcellv hb3 (show w2.drew.cell? _ = _ from kp_5); have kp_6 := bcellv hb3 (show w2.drew.cell? _ = _ from kp_6); have kp_7 := bcellv hb3 (show w2.drew.cell? _ = _ from kp_7); have k0_9 := bcellv hb3 (show w2.drew.cell? _ = _ from k0_9); have kp := bblock hb3 (show w2.drew.heap[_]? = _ from kp); have k0 := bblock hb3 (show w2.drew.heap[_]? = _ from k0)))
  all_goals clear hR
  · have hg1 := Hg1.out
    have hg2 := Hg2.out
    have hz3 : w2.heap.size ≤ w3.heap.size := hb3.size
    have hB3 : Below w.heap.size w w3 := bchain hb3 hBb
    have hg1 : ∀ G, rO' = some G → rO = some G ∨ w.heap.size ≤ G := fun G e => (hg1 G e).imp id (fun h => by have : w2.drew.heap.size = w2.heap.size := rfl; omega)
    have hg2 : ∀ G, rY' = some G → rY = some G ∨ w.heap.size ≤ G := fun G e => (hg2 G e).imp id (fun h => by have : w2.drew.heap.size = w2.heap.size := rfl; omega)
    have hB4 : Below w.heap.size w (w3.alloc (.cells #[.int .i64 0, .int .i64 lo, .slice aO' nO' cO', .int .i64 16777216, .int .i64 ly, .slice aY' nY' cY'] 35)) := hB3.alloc hB3.size _
    have hr4 := hr3.below (balloc (Below.refl _ w3) (.cells #[.int .i64 0, .int .i64 lo, .slice aO' nO' cO', .int .i64 16777216, .int .i64 ly, .slice aY' nY' cY'] 35))
    have kv : (w3.alloc (.cells #[.int .i64 0, .int .i64 lo, .slice aO' nO' cO', .int .i64 16777216, .int .i64 ly, .slice aY' nY' cY'] 35)).heap[w3.heap.size]? = some (.cells #[.int .i64 0, .int .i64 lo, .slice aO' nO' cO', .int .i64 16777216, .int .i64 ly, .slice aY' nY' cY'] 35 (0, 0)) := alloc_get _ _
    have kp : (w3.alloc (.cells #[.int .i64 0, .int .i64 lo, .slice aO' nO' cO', .int .i64 16777216, .int .i64 ly, .slice aY' nY' cY'] 35)).heap[p]? = _ := alloc_lt _ kp
    have k0 : (w3.alloc (.cells #[.int .i64 0, .int .i64 lo, .slice aO' nO' cO', .int .i64 16777216, .int .i64 ly, .slice aY' nY' cY'] 35)).heap[w.heap.size]? = _ := alloc_lt _ k0
    have hpV : p ≠ w3.heap.size := by omega
    have h0V : w.heap.size ≠ w3.heap.size := by omega
    have hzV := (Array.getElem?_eq_some_iff.1 kv).1
    obtain ⟨V, hV⟩ : ∃ V, w3.heap.size = V := ⟨_, rfl⟩
    obtain ⟨w4, hw4⟩ : ∃ w4, (w3.alloc (.cells #[.int .i64 0, .int .i64 lo, .slice aO' nO' cO', .int .i64 16777216, .int .i64 ly, .slice aY' nY' cY'] 35)) = w4 := ⟨_, rfl⟩
    rw [hw4] at hr4 hB4 kv kp k0 hzV ⊢
    rw [hV] at kv hpV h0V hzV ⊢
    clear hw4 hV hr3 hb3 hB3 Hg1 Hg2 hBa hBb kp_0 kp_1 kp_2 kp_3 kp_4 kp_5 kp_6 kp_7 kp_8 k0_0 k0_1 k0_2 k0_3 k0_4 k0_5 k0_6 k0_7 k0_8 k0_9 k0_10
    have kp_0 : w4.cell? ⟨p, 0, none⟩ = some (.pointer (some ⟨bO, 0, none⟩)) := by rw [cell_of_block kp]; rfl
    have kp_1 : w4.cell? ⟨p, 1, none⟩ = some (.pointer (some ⟨bY, 0, none⟩)) := by rw [cell_of_block kp]; rfl
    have kp_2 : w4.cell? ⟨p, 2, none⟩ = some (.int .i64 0) := by rw [cell_of_block kp]; rfl
    have kp_3 : w4.cell? ⟨p, 3, none⟩ = some (.int .i64 lo) := by rw [cell_of_block kp]; rfl
    have kp_4 : w4.cell? ⟨p, 4, none⟩ = some (.slice aO nO cO) := by rw [cell_of_block kp]; rfl
    have kp_5 : w4.cell? ⟨p, 5, none⟩ = some (.int .i64 16777216) := by rw [cell_of_block kp]; rfl
    have kp_6 : w4.cell? ⟨p, 6, none⟩ = some (.int .i64 ly) := by rw [cell_of_block kp]; rfl
    have kp_7 : w4.cell? ⟨p, 7, none⟩ = some (.slice aY nY cY) := by rw [cell_of_block kp]; rfl
    have kp_8 : w4.cell? ⟨p, 8, none⟩ = some (lv) := by rw [cell_of_block kp]; rfl
    have kp_f : ∀ i, w4.frozen? ⟨p, i, none⟩ = false := frozen_of_block kp
    have k0_0 : w4.cell? ⟨w.heap.size, 0, none⟩ = some (.int .i64 6) := by rw [cell_of_block k0]; rfl
    have k0_1 : w4.cell? ⟨w.heap.size, 1, none⟩ = some (.int .i64 k) := by rw [cell_of_block k0]; rfl
    have k0_2 : w4.cell? ⟨w.heap.size, 2, none⟩ = some (.int .i64 c) := by rw [cell_of_block k0]; rfl
    have k0_3 : w4.cell? ⟨w.heap.size, 3, none⟩ = some (.int .i64 f) := by rw [cell_of_block k0]; rfl
    have k0_4 : w4.cell? ⟨w.heap.size, 4, none⟩ = some (.int .i64 m) := by rw [cell_of_block k0]; rfl
    have k0_5 : w4.cell? ⟨w.heap.size, 5, none⟩ = some (.int .i64 s) := by rw [cell_of_block k0]; rfl
    have k0_6 : w4.cell? ⟨w.heap.size, 6, none⟩ = some (.int .i64 a) := by rw [cell_of_block k0]; rfl
    have k0_7 : w4.cell? ⟨w.heap.size, 7, none⟩ = some (.int .i64 b) := by rw [cell_of_block k0]; rfl
    have k0_8 : w4.cell? ⟨w.heap.size, 8, none⟩ = some (.int .i64 i) := by rw [cell_of_block k0]; rfl
    have k0_9 : w4.cell? ⟨w.heap.size, 9, none⟩ = some (.int .u64 u) := by rw [cell_of_block k0]; rfl
    have k0_10 : w4.cell? ⟨w.heap.size, 10, none⟩ = some (.bool raw) := by rw [cell_of_block k0]; rfl
    have kv_0 : w4.cell? ⟨V, 0, none⟩ = some (.int .i64 0) := by rw [cell_of_block kv]; rfl
    have kv_1 : w4.cell? ⟨V, 1, none⟩ = some (.int .i64 lo) := by rw [cell_of_block kv]; rfl
    have kv_2 : w4.cell? ⟨V, 2, none⟩ = some (.slice aO' nO' cO') := by rw [cell_of_block kv]; rfl
    have kv_3 : w4.cell? ⟨V, 3, none⟩ = some (.int .i64 16777216) := by rw [cell_of_block kv]; rfl
    have kv_4 : w4.cell? ⟨V, 4, none⟩ = some (.int .i64 ly) := by rw [cell_of_block kv]; rfl
    have kv_5 : w4.cell? ⟨V, 5, none⟩ = some (.slice aY' nY' cY') := by rw [cell_of_block kv]; rfl
    have hzp : p < w4.heap.size := (Array.getElem?_eq_some_iff.1 kp).1
    have hz0 : w.heap.size < w4.heap.size := (Array.getElem?_eq_some_iff.1 k0).1
    go_wp2_with fail
    have hM5 : Mods (fun k => k = p) w4 ((((((w4.setCell ⟨p, 2, none⟩ (.int .i64 0)).setCell ⟨p, 3, none⟩ (.int .i64 lo)).setCell ⟨p, 4, none⟩ (.slice aO' nO' cO')).setCell ⟨p, 5, none⟩ (.int .i64 16777216)).setCell ⟨p, 6, none⟩ (.int .i64 ly)).setCell ⟨p, 7, none⟩ (.slice aY' nY' cY')) := six_off_mods
    have kp5 : ((((((w4.setCell ⟨p, 2, none⟩ (.int .i64 0)).setCell ⟨p, 3, none⟩ (.int .i64 lo)).setCell ⟨p, 4, none⟩ (.slice aO' nO' cO')).setCell ⟨p, 5, none⟩ (.int .i64 16777216)).setCell ⟨p, 6, none⟩ (.int .i64 ly)).setCell ⟨p, 7, none⟩ (.slice aY' nY' cY')).heap[p]? = some (.cells #[.pointer (some ⟨bO, 0, none⟩), .pointer (some ⟨bY, 0, none⟩), .int .i64 0, .int .i64 lo, .slice aO' nO' cO', .int .i64 16777216, .int .i64 ly, .slice aY' nY' cY', lv] 47 (0, 0)) := six_off kp
    have k05 : ((((((w4.setCell ⟨p, 2, none⟩ (.int .i64 0)).setCell ⟨p, 3, none⟩ (.int .i64 lo)).setCell ⟨p, 4, none⟩ (.slice aO' nO' cO')).setCell ⟨p, 5, none⟩ (.int .i64 16777216)).setCell ⟨p, 6, none⟩ (.int .i64 ly)).setCell ⟨p, 7, none⟩ (.slice aY' nY' cY')).heap[w.heap.size]? = some (.cells #[.int .i64 6, .int .i64 k, .int .i64 c, .int .i64 f, .int .i64 m, .int .i64 s, .int .i64 a, .int .i64 b, .int .i64 i, .int .u64 u, .bool raw] 58 (0, 0)) := six_off_other k0 (Ne.symm hpn)
    obtain ⟨w5, hw5⟩ : ∃ w5, ((((((w4.setCell ⟨p, 2, none⟩ (.int .i64 0)).setCell ⟨p, 3, none⟩ (.int .i64 lo)).setCell ⟨p, 4, none⟩ (.slice aO' nO' cO')).setCell ⟨p, 5, none⟩ (.int .i64 16777216)).setCell ⟨p, 6, none⟩ (.int .i64 ly)).setCell ⟨p, 7, none⟩ (.slice aY' nY' cY')) = w5 := ⟨_, rfl⟩
    rw [hw5] at hM5 kp5 k05 ⊢
    clear hw5 kp_0 kp_1 kp_2 kp_3 kp_4 kp_5 kp_6 kp_7 kp_8 k0_0 k0_1 k0_2 k0_3 k0_4 k0_5 k0_6 k0_7 k0_8 k0_9 k0_10 kv_0 kv_1 kv_2 kv_3 kv_4 kv_5 kp_f kp k0 kv
    have hm5 : MemAt w5.drew bO bY lo ly x.wo x.wy gO gY := (hI.mem.below hB4).mods hM5.drew (fun k hk => Hsep.out k (.inl hk))
    have hfr := hI.mem.fresh
    have kp5_0 : w5.cell? ⟨p, 0, none⟩ = some (.pointer (some ⟨bO, 0, none⟩)) := by rw [cell_of_block kp5]; rfl
    have kp5_1 : w5.cell? ⟨p, 1, none⟩ = some (.pointer (some ⟨bY, 0, none⟩)) := by rw [cell_of_block kp5]; rfl
    have k05_9 : w5.cell? ⟨w.heap.size, 9, none⟩ = some (.int .u64 u) := by rw [cell_of_block k05]; rfl
    go_wp2_with fail
    go_region_held3 (fun w' => w'.cell? ⟨p, 0, none⟩ = some (.pointer (some ⟨bO, 0, none⟩)) ∧ w'.cell? ⟨p, 1, none⟩ = some (.pointer (some ⟨bY, 0, none⟩)) ∧ w'.cell? ⟨w.heap.size, 9, none⟩ = some (.int .u64 u)) (first | (with_reducible exact ⟨kp5_0, kp5_1, k05_9⟩) | go_keep) (first | (go_at_call 27; (with_reducible refine (hA _ hm5).mono ?_); rintro e w6 ⟨rfl, hm6, hX6⟩; have kp5_0 := mcell hX6 (show w5.drew.cell? _ = _ from kp5_0) (fun e => Hsep.out _ (.inl e) rfl); have kp5_1 := mcell hX6 (show w5.drew.cell? _ = _ from kp5_1) (fun e => Hsep.out _ (.inl e) rfl); have k05_9 := mcell hX6 (show w5.drew.cell? _ = _ from k05_9) (fun e => hfr _ (Nat.le_refl _) e)))
    clear hfr
    go_wp2
    go_ret
    exact ⟨rfl, WAt.fin hI hn hp0 hp1 Hsep.out hB4 hr4 hg1 hg2 hM5 hm6 (Mods.mk hX6.os hX6.tape hX6.output hX6.size hX6.block) kp5⟩
  · have hg1 := Hg1.out
    have hg2 := Hg2.out
    have hB3 : Below w.heap.size w w3 := bchain hb3 hBa
    have hzd : (w2.alloc (.cells #[.int .i64 0, .int .i64 0, .slice none 0 0, .int .i64 0, .int .i64 0, .slice none 0 0] 35)).drew.heap.size = w2.heap.size + 1 := World.size_alloc _ _
    rw [hzd] at hg1 hg2
    have hlt1 := fun G e => hI.lt G (.inr (.inl e))
    have hlt2 := fun G e => hI.lt G (.inr (.inr (.inl e)))
    have hr4 := hr3.mods (six_mods (j := w2.heap.size) (b0 := .int .i64 0) (b1 := .int .i64 lo) (b2 := .slice aO' nO' cO') (b3 := .int .i64 16777216) (b4 := .int .i64 ly) (b5 := .slice aY' nY' cY')) (fun G e => by rcases hg1 G e with h | h; (have := hlt1 G h; omega); omega) (fun G e => by rcases hg2 G e with h | h; (have := hlt2 G h; omega); omega)
    have hg1 : ∀ G, rO' = some G → rO = some G ∨ w.heap.size ≤ G := fun G e => (hg1 G e).imp id (fun h => by omega)
    have hg2 : ∀ G, rY' = some G → rY = some G ∨ w.heap.size ≤ G := fun G e => (hg2 G e).imp id (fun h => by omega)
    have hB4 : Below w.heap.size w ((((((w3.setCell ⟨w2.heap.size, 0, none⟩ (.int .i64 0)).setCell ⟨w2.heap.size, 1, none⟩ (.int .i64 lo)).setCell ⟨w2.heap.size, 2, none⟩ (.slice aO' nO' cO')).setCell ⟨w2.heap.size, 3, none⟩ (.int .i64 16777216)).setCell ⟨w2.heap.size, 4, none⟩ (.int .i64 ly)).setCell ⟨w2.heap.size, 5, none⟩ (.slice aY' nY' cY')) := (Mods.trans (S := fun k => w.heap.size ≤ k) (Mods.of_below hB3) six_mods (fun i hi => .inl (by omega))).below (Nat.le_refl _) (fun k hk => hk)
    have kv : ((((((w3.setCell ⟨w2.heap.size, 0, none⟩ (.int .i64 0)).setCell ⟨w2.heap.size, 1, none⟩ (.int .i64 lo)).setCell ⟨w2.heap.size, 2, none⟩ (.slice aO' nO' cO')).setCell ⟨w2.heap.size, 3, none⟩ (.int .i64 16777216)).setCell ⟨w2.heap.size, 4, none⟩ (.int .i64 ly)).setCell ⟨w2.heap.size, 5, none⟩ (.slice aY' nY' cY')).heap[w2.heap.size]? = some (.cells #[.int .i64 0, .int .i64 lo, .slice aO' nO' cO', .int .i64 16777216, .int .i64 ly, .slice aY' nY' cY'] 35 (0, 0)) := set6 kv
    have kp : ((((((w3.setCell ⟨w2.heap.size, 0, none⟩ (.int .i64 0)).setCell ⟨w2.heap.size, 1, none⟩ (.int .i64 lo)).setCell ⟨w2.heap.size, 2, none⟩ (.slice aO' nO' cO')).setCell ⟨w2.heap.size, 3, none⟩ (.int .i64 16777216)).setCell ⟨w2.heap.size, 4, none⟩ (.int .i64 ly)).setCell ⟨w2.heap.size, 5, none⟩ (.slice aY' nY' cY')).heap[p]? = _ := six_other kp hne_kp
    have k0 : ((((((w3.setCell ⟨w2.heap.size, 0, none⟩ (.int .i64 0)).setCell ⟨w2.heap.size, 1, none⟩ (.int .i64 lo)).setCell ⟨w2.heap.size, 2, none⟩ (.slice aO' nO' cO')).setCell ⟨w2.heap.size, 3, none⟩ (.int .i64 16777216)).setCell ⟨w2.heap.size, 4, none⟩ (.int .i64 ly)).setCell ⟨w2.heap.size, 5, none⟩ (.slice aY' nY' cY')).heap[w.heap.size]? = _ := six_other k0 hne_k0
    have hpV : p ≠ w2.heap.size := hne_kp
    have h0V : w.heap.size ≠ w2.heap.size := hne_k0
    clear hzd hlt1 hlt2
    have hzV := (Array.getElem?_eq_some_iff.1 kv).1
    obtain ⟨V, hV⟩ : ∃ V, w2.heap.size = V := ⟨_, rfl⟩
    obtain ⟨w4, hw4⟩ : ∃ w4, ((((((w3.setCell ⟨w2.heap.size, 0, none⟩ (.int .i64 0)).setCell ⟨w2.heap.size, 1, none⟩ (.int .i64 lo)).setCell ⟨w2.heap.size, 2, none⟩ (.slice aO' nO' cO')).setCell ⟨w2.heap.size, 3, none⟩ (.int .i64 16777216)).setCell ⟨w2.heap.size, 4, none⟩ (.int .i64 ly)).setCell ⟨w2.heap.size, 5, none⟩ (.slice aY' nY' cY')) = w4 := ⟨_, rfl⟩
    rw [hw4] at hr4 hB4 kv kp k0 hzV ⊢
    rw [hV] at kv hpV h0V hzV ⊢
    clear hw4 hV hr3 hb3 hB3 Hg1 Hg2 hBa hBb kp_0 kp_1 kp_2 kp_3 kp_4 kp_5 kp_6 kp_7 kp_8 k0_0 k0_1 k0_2 k0_3 k0_4 k0_5 k0_6 k0_7 k0_8 k0_9 k0_10 kv_f hzv kv_0 kv_1 kv_2 kv_3 kv_4 kv_5
    have kp_0 : w4.cell? ⟨p, 0, none⟩ = some (.pointer (some ⟨bO, 0, none⟩)) := by rw [cell_of_block kp]; rfl
    have kp_1 : w4.cell? ⟨p, 1, none⟩ = some (.pointer (some ⟨bY, 0, none⟩)) := by rw [cell_of_block kp]; rfl
    have kp_2 : w4.cell? ⟨p, 2, none⟩ = some (.int .i64 0) := by rw [cell_of_block kp]; rfl
    have kp_3 : w4.cell? ⟨p, 3, none⟩ = some (.int .i64 lo) := by rw [cell_of_block kp]; rfl
    have kp_4 : w4.cell? ⟨p, 4, none⟩ = some (.slice aO nO cO) := by rw [cell_of_block kp]; rfl
    have kp_5 : w4.cell? ⟨p, 5, none⟩ = some (.int .i64 16777216) := by rw [cell_of_block kp]; rfl
    have kp_6 : w4.cell? ⟨p, 6, none⟩ = some (.int .i64 ly) := by rw [cell_of_block kp]; rfl
    have kp_7 : w4.cell? ⟨p, 7, none⟩ = some (.slice aY nY cY) := by rw [cell_of_block kp]; rfl
    have kp_8 : w4.cell? ⟨p, 8, none⟩ = some (lv) := by rw [cell_of_block kp]; rfl
    have kp_f : ∀ i, w4.frozen? ⟨p, i, none⟩ = false := frozen_of_block kp
    have k0_0 : w4.cell? ⟨w.heap.size, 0, none⟩ = some (.int .i64 6) := by rw [cell_of_block k0]; rfl
    have k0_1 : w4.cell? ⟨w.heap.size, 1, none⟩ = some (.int .i64 k) := by rw [cell_of_block k0]; rfl
    have k0_2 : w4.cell? ⟨w.heap.size, 2, none⟩ = some (.int .i64 c) := by rw [cell_of_block k0]; rfl
    have k0_3 : w4.cell? ⟨w.heap.size, 3, none⟩ = some (.int .i64 f) := by rw [cell_of_block k0]; rfl
    have k0_4 : w4.cell? ⟨w.heap.size, 4, none⟩ = some (.int .i64 m) := by rw [cell_of_block k0]; rfl
    have k0_5 : w4.cell? ⟨w.heap.size, 5, none⟩ = some (.int .i64 s) := by rw [cell_of_block k0]; rfl
    have k0_6 : w4.cell? ⟨w.heap.size, 6, none⟩ = some (.int .i64 a) := by rw [cell_of_block k0]; rfl
    have k0_7 : w4.cell? ⟨w.heap.size, 7, none⟩ = some (.int .i64 b) := by rw [cell_of_block k0]; rfl
    have k0_8 : w4.cell? ⟨w.heap.size, 8, none⟩ = some (.int .i64 i) := by rw [cell_of_block k0]; rfl
    have k0_9 : w4.cell? ⟨w.heap.size, 9, none⟩ = some (.int .u64 u) := by rw [cell_of_block k0]; rfl
    have k0_10 : w4.cell? ⟨w.heap.size, 10, none⟩ = some (.bool raw) := by rw [cell_of_block k0]; rfl
    have kv_0 : w4.cell? ⟨V, 0, none⟩ = some (.int .i64 0) := by rw [cell_of_block kv]; rfl
    have kv_1 : w4.cell? ⟨V, 1, none⟩ = some (.int .i64 lo) := by rw [cell_of_block kv]; rfl
    have kv_2 : w4.cell? ⟨V, 2, none⟩ = some (.slice aO' nO' cO') := by rw [cell_of_block kv]; rfl
    have kv_3 : w4.cell? ⟨V, 3, none⟩ = some (.int .i64 16777216) := by rw [cell_of_block kv]; rfl
    have kv_4 : w4.cell? ⟨V, 4, none⟩ = some (.int .i64 ly) := by rw [cell_of_block kv]; rfl
    have kv_5 : w4.cell? ⟨V, 5, none⟩ = some (.slice aY' nY' cY') := by rw [cell_of_block kv]; rfl
    have hzp : p < w4.heap.size := (Array.getElem?_eq_some_iff.1 kp).1
    have hz0 : w.heap.size < w4.heap.size := (Array.getElem?_eq_some_iff.1 k0).1
    go_wp2_with fail
    have hM5 : Mods (fun k => k = p) w4 ((((((w4.setCell ⟨p, 2, none⟩ (.int .i64 0)).setCell ⟨p, 3, none⟩ (.int .i64 lo)).setCell ⟨p, 4, none⟩ (.slice aO' nO' cO')).setCell ⟨p, 5, none⟩ (.int .i64 16777216)).setCell ⟨p, 6, none⟩ (.int .i64 ly)).setCell ⟨p, 7, none⟩ (.slice aY' nY' cY')) := six_off_mods
    have kp5 : ((((((w4.setCell ⟨p, 2, none⟩ (.int .i64 0)).setCell ⟨p, 3, none⟩ (.int .i64 lo)).setCell ⟨p, 4, none⟩ (.slice aO' nO' cO')).setCell ⟨p, 5, none⟩ (.int .i64 16777216)).setCell ⟨p, 6, none⟩ (.int .i64 ly)).setCell ⟨p, 7, none⟩ (.slice aY' nY' cY')).heap[p]? = some (.cells #[.pointer (some ⟨bO, 0, none⟩), .pointer (some ⟨bY, 0, none⟩), .int .i64 0, .int .i64 lo, .slice aO' nO' cO', .int .i64 16777216, .int .i64 ly, .slice aY' nY' cY', lv] 47 (0, 0)) := six_off kp
    have k05 : ((((((w4.setCell ⟨p, 2, none⟩ (.int .i64 0)).setCell ⟨p, 3, none⟩ (.int .i64 lo)).setCell ⟨p, 4, none⟩ (.slice aO' nO' cO')).setCell ⟨p, 5, none⟩ (.int .i64 16777216)).setCell ⟨p, 6, none⟩ (.int .i64 ly)).setCell ⟨p, 7, none⟩ (.slice aY' nY' cY')).heap[w.heap.size]? = some (.cells #[.int .i64 6, .int .i64 k, .int .i64 c, .int .i64 f, .int .i64 m, .int .i64 s, .int .i64 a, .int .i64 b, .int .i64 i, .int .u64 u, .bool raw] 58 (0, 0)) := six_off_other k0 (Ne.symm hpn)
    obtain ⟨w5, hw5⟩ : ∃ w5, ((((((w4.setCell ⟨p, 2, none⟩ (.int .i64 0)).setCell ⟨p, 3, none⟩ (.int .i64 lo)).setCell ⟨p, 4, none⟩ (.slice aO' nO' cO')).setCell ⟨p, 5, none⟩ (.int .i64 16777216)).setCell ⟨p, 6, none⟩ (.int .i64 ly)).setCell ⟨p, 7, none⟩ (.slice aY' nY' cY')) = w5 := ⟨_, rfl⟩
    rw [hw5] at hM5 kp5 k05 ⊢
    clear hw5 kp_0 kp_1 kp_2 kp_3 kp_4 kp_5 kp_6 kp_7 kp_8 k0_0 k0_1 k0_2 k0_3 k0_4 k0_5 k0_6 k0_7 k0_8 k0_9 k0_10 kv_0 kv_1 kv_2 kv_3 kv_4 kv_5 kp_f kp k0 kv
    have hm5 : MemAt w5.drew bO bY lo ly x.wo x.wy gO gY := (hI.mem.below hB4).mods hM5.drew (fun k hk => Hsep.out k (.inl hk))
    have hfr := hI.mem.fresh
    have kp5_0 : w5.cell? ⟨p, 0, none⟩ = some (.pointer (some ⟨bO, 0, none⟩)) := by rw [cell_of_block kp5]; rfl
    have kp5_1 : w5.cell? ⟨p, 1, none⟩ = some (.pointer (some ⟨bY, 0, none⟩)) := by rw [cell_of_block kp5]; rfl
    have k05_9 : w5.cell? ⟨w.heap.size, 9, none⟩ = some (.int .u64 u) := by rw [cell_of_block k05]; rfl
    go_wp2_with fail
    go_region_held3 (fun w' => w'.cell? ⟨p, 0, none⟩ = some (.pointer (some ⟨bO, 0, none⟩)) ∧ w'.cell? ⟨p, 1, none⟩ = some (.pointer (some ⟨bY, 0, none⟩)) ∧ w'.cell? ⟨w.heap.size, 9, none⟩ = some (.int .u64 u)) (first | (with_reducible exact ⟨kp5_0, kp5_1, k05_9⟩) | go_keep) (first | (go_at_call 27; (with_reducible refine (hA _ hm5).mono ?_); rintro e w6 ⟨rfl, hm6, hX6⟩; have kp5_0 := mcell hX6 (show w5.drew.cell? _ = _ from kp5_0) (fun e => Hsep.out _ (.inl e) rfl); have kp5_1 := mcell hX6 (show w5.drew.cell? _ = _ from kp5_1) (fun e => Hsep.out _ (.inl e) rfl); have k05_9 := mcell hX6 (show w5.drew.cell? _ = _ from k05_9) (fun e => hfr _ (Nat.le_refl _) e)))
    clear hfr
    go_wp2
    go_ret
    exact ⟨rfl, WAt.fin hI hn hp0 hp1 Hsep.out hB4 hr4 hg1 hg2 hM5 hm6 (Mods.mk hX6.os hX6.tape hX6.output hX6.size hX6.block) kp5⟩
end Go.Proofs.Ytcmhgjkijegpnaa
