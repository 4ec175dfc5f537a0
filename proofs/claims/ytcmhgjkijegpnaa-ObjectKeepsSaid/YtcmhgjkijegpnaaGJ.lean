/-
  refmeshlaw07.step, kind 0, refused.
-/
import Derived.Test.YtcmhgjkijegpnaaGI
namespace Go.Proofs.Ytcmhgjkijegpnaa
open Go.RowKit
set_option linter.unusedSimpArgs false
set_option linter.unusedVariables false

set_option maxRecDepth 100000 in
set_option maxHeartbeats 4000000 in
theorem stp_0n {w : World} {n0 p : Nat} {lo ly : Int} {x : S7} (h : WAt w n0 p lo ly x) (hn : n0 ≤ w.heap.size) (k c f m s a b i u : Int) (raw : Bool) (he : alE 0 lo x.wo k c f m s ≠ 0) :
    Calls Try.prog 22 #[.pointer (some ⟨p, 0, none⟩), .agg #[.int .i64 0, .int .i64 k, .int .i64 c, .int .i64 f, .int .i64 m, .int .i64 s, .int .i64 a, .int .i64 b, .int .i64 i, .int .u64 u, .bool raw]] w (StP w n0 p lo ly ⟨alW 0 lo x.wo k c f m s, x.wy, x.l⟩) := by
  obtain ⟨bO, bY, aO, nO, cO, aY, nY, cY, lv, gO, gY, rO, rY, hp0, kp, hI, hsep⟩ := h
  have hp1 : p < w.heap.size := (Array.getElem?_eq_some_iff.1 kp).1
  have hpn : p ≠ w.heap.size := by omega
  have Hsep := Lib.hid hsep
  clear hsep
  have kp : w.heap[p]? = some (.cells #[.pointer (some ⟨bO, 0, none⟩), .pointer (some ⟨bY, 0, none⟩), .int .i64 0, .int .i64 lo, .slice aO nO cO, .int .i64 16777216, .int .i64 ly, .slice aY nY cY, lv] 47 (0, 0)) := kp
  have hat := fun W (H : Below w.heap.size w W) => wat_row (.pointer (some ⟨bO, 0, none⟩)) (.pointer (some ⟨bY, 0, none⟩)) (.int .i64 0) (.int .i64 lo) (.slice aO nO cO) (.int .i64 16777216) (.int .i64 ly) (.slice aY nY cY) 0 k c f m s a b i u raw a (row_keep hI.lst (fun G o e ho => bblock H ho))
  have hA := fun W (H : SpAt W bO 0 lo x.wo gO) => alloc_any H hI.mem.okO k c f m s
  have hR := fun W (H : RMem W aO nO cO aY nY cY lo ly x.wo x.wy rO rY) => rmalloc_O H k c f m s
  have hk2 := alOk hI.mem.okO k c f m s
  generalize atW raw x.l a = y at *
  generalize alA 0 lo x.wo k c f m s = ra at *
  generalize hws : alW 0 lo x.wo k c f m s = ws2 at *
  clear hws
  generalize alE 0 lo x.wo k c f m s = re at *
  have hre : (re == 0) = false := by simpa using he
  clear he
  go_enter Try.func22, Try.ntmps22
  go_wp2_with fail
  obtain ⟨w1, hw1⟩ : ∃ w1, (w.alloc (.cells #[.int .i64 0, .int .i64 k, .int .i64 c, .int .i64 f, .int .i64 m, .int .i64 s, .int .i64 a, .int .i64 b, .int .i64 i, .int .u64 u, .bool raw] 58)) = w1 := ⟨_, rfl⟩
  have hb1 : Below w.heap.size w w1 := by rw [← hw1]; exact balloc (Below.refl _ _) _
  have k0 : w1.heap[w.heap.size]? = some (.cells #[.int .i64 0, .int .i64 k, .int .i64 c, .int .i64 f, .int .i64 m, .int .i64 s, .int .i64 a, .int .i64 b, .int .i64 i, .int .u64 u, .bool raw] 58 (0, 0)) := by rw [← hw1]; exact alloc_get _ _
  have kp : w1.heap[p]? = some (.cells #[.pointer (some ⟨bO, 0, none⟩), .pointer (some ⟨bY, 0, none⟩), .int .i64 0, .int .i64 lo, .slice aO nO cO, .int .i64 16777216, .int .i64 ly, .slice aY nY cY, lv] 47 (0, 0)) := bblock hb1 kp
  rw [hw1]
  clear hw1
  have o_kp_0 : ∀ x, (over w1 x).cell? ⟨p, 0, none⟩ = some (.pointer (some ⟨bO, 0, none⟩)) := over_cell (by rw [cell_of_block kp]; rfl)
  have o_kp_1 : ∀ x, (over w1 x).cell? ⟨p, 1, none⟩ = some (.pointer (some ⟨bY, 0, none⟩)) := over_cell (by rw [cell_of_block kp]; rfl)
  have o_kp_2 : ∀ x, (over w1 x).cell? ⟨p, 2, none⟩ = some (.int .i64 0) := over_cell (by rw [cell_of_block kp]; rfl)
  have o_kp_3 : ∀ x, (over w1 x).cell? ⟨p, 3, none⟩ = some (.int .i64 lo) := over_cell (by rw [cell_of_block kp]; rfl)
  have o_kp_4 : ∀ x, (over w1 x).cell? ⟨p, 4, none⟩ = some (.slice aO nO cO) := over_cell (by rw [cell_of_block kp]; rfl)
  have o_kp_5 : ∀ x, (over w1 x).cell? ⟨p, 5, none⟩ = some (.int .i64 16777216) := over_cell (by rw [cell_of_block kp]; rfl)
  have o_kp_6 : ∀ x, (over w1 x).cell? ⟨p, 6, none⟩ = some (.int .i64 ly) := over_cell (by rw [cell_of_block kp]; rfl)
  have o_kp_7 : ∀ x, (over w1 x).cell? ⟨p, 7, none⟩ = some (.slice aY nY cY) := over_cell (by rw [cell_of_block kp]; rfl)
  have o_kp_8 : ∀ x, (over w1 x).cell? ⟨p, 8, none⟩ = some (lv) := over_cell (by rw [cell_of_block kp]; rfl)
  have o_k0_0 : ∀ x, (over w1 x).cell? ⟨w.heap.size, 0, none⟩ = some (.int .i64 0) := over_cell (by rw [cell_of_block k0]; rfl)
  have o_k0_1 : ∀ x, (over w1 x).cell? ⟨w.heap.size, 1, none⟩ = some (.int .i64 k) := over_cell (by rw [cell_of_block k0]; rfl)
  have o_k0_2 : ∀ x, (over w1 x).cell? ⟨w.heap.size, 2, none⟩ = some (.int .i64 c) := over_cell (by rw [cell_of_block k0]; rfl)
  have o_k0_3 : ∀ x, (over w1 x).cell? ⟨w.heap.size, 3, none⟩ = some (.int .i64 f) := over_cell (by rw [cell_of_block k0]; rfl)
  have o_k0_4 : ∀ x, (over w1 x).cell? ⟨w.heap.size, 4, none⟩ = some (.int .i64 m) := over_cell (by rw [cell_of_block k0]; rfl)
  have o_k0_5 : ∀ x, (over w1 x).cell? ⟨w.heap.size, 5, none⟩ = some (.int .i64 s) := over_cell (by rw [cell_of_block k0]; rfl)
  have o_k0_6 : ∀ x, (over w1 x).cell? ⟨w.heap.size, 6, none⟩ = some (.int .i64 a) := over_cell (by rw [cell_of_block k0]; rfl)
  have o_k0_7 : ∀ x, (over w1 x).cell? ⟨w.heap.size, 7, none⟩ = some (.int .i64 b) := over_cell (by rw [cell_of_block k0]; rfl)
  have o_k0_8 : ∀ x, (over w1 x).cell? ⟨w.heap.size, 8, none⟩ = some (.int .i64 i) := over_cell (by rw [cell_of_block k0]; rfl)
  have o_k0_9 : ∀ x, (over w1 x).cell? ⟨w.heap.size, 9, none⟩ = some (.int .u64 u) := over_cell (by rw [cell_of_block k0]; rfl)
  have o_k0_10 : ∀ x, (over w1 x).cell? ⟨w.heap.size, 10, none⟩ = some (.bool raw) := over_cell (by rw [cell_of_block k0]; rfl)
  (refine wp_region_over (by kernel_rfl) (by kernel_rfl) ?_); (repeat (go_big_quiet_step ((first | (go_at_call 21; exact calls_over (hat _ (bchain (over_below w1 _) hb1))))))); (refine wpQuiet_nil ?_)
  intro w2 hb2
  have k0 := bblock hb2 k0
  have kp := bblock hb2 kp
  have hB2 : Below w.heap.size w w2 := bchain hb2 hb1
  clear hb1 hb2 hat o_kp_0 o_kp_1 o_kp_2 o_kp_3 o_kp_4 o_kp_5 o_kp_6 o_kp_7 o_kp_8 o_k0_0 o_k0_1 o_k0_2 o_k0_3 o_k0_4 o_k0_5 o_k0_6 o_k0_7 o_k0_8 o_k0_9 o_k0_10
  have kp_0 : w2.cell? ⟨p, 0, none⟩ = some (.pointer (some ⟨bO, 0, none⟩)) := by rw [cell_of_block kp]; rfl
  have kp_1 : w2.cell? ⟨p, 1, none⟩ = some (.pointer (some ⟨bY, 0, none⟩)) := by rw [cell_of_block kp]; rfl
  have kp_2 : w2.cell? ⟨p, 2, none⟩ = some (.int .i64 0) := by rw [cell_of_block kp]; rfl
  have kp_3 : w2.cell? ⟨p, 3, none⟩ = some (.int .i64 lo) := by rw [cell_of_block kp]; rfl
  have kp_4 : w2.cell? ⟨p, 4, none⟩ = some (.slice aO nO cO) := by rw [cell_of_block kp]; rfl
  have kp_5 : w2.cell? ⟨p, 5, none⟩ = some (.int .i64 16777216) := by rw [cell_of_block kp]; rfl
  have kp_6 : w2.cell? ⟨p, 6, none⟩ = some (.int .i64 ly) := by rw [cell_of_block kp]; rfl
  have kp_7 : w2.cell? ⟨p, 7, none⟩ = some (.slice aY nY cY) := by rw [cell_of_block kp]; rfl
  have kp_8 : w2.cell? ⟨p, 8, none⟩ = some (lv) := by rw [cell_of_block kp]; rfl
  have k0_0 : w2.cell? ⟨w.heap.size, 0, none⟩ = some (.int .i64 0) := by rw [cell_of_block k0]; rfl
  have k0_1 : w2.cell? ⟨w.heap.size, 1, none⟩ = some (.int .i64 k) := by rw [cell_of_block k0]; rfl
  have k0_2 : w2.cell? ⟨w.heap.size, 2, none⟩ = some (.int .i64 c) := by rw [cell_of_block k0]; rfl
  have k0_3 : w2.cell? ⟨w.heap.size, 3, none⟩ = some (.int .i64 f) := by rw [cell_of_block k0]; rfl
  have k0_4 : w2.cell? ⟨w.heap.size, 4, none⟩ = some (.int .i64 m) := by rw [cell_of_block k0]; rfl
  have k0_5 : w2.cell? ⟨w.heap.size, 5, none⟩ = some (.int .i64 s) := by rw [cell_of_block k0]; rfl
  have k0_6 : w2.cell? ⟨w.heap.size, 6, none⟩ = some (.int .i64 a) := by rw [cell_of_block k0]; rfl
  have k0_7 : w2.cell? ⟨w.heap.size, 7, none⟩ = some (.int .i64 b) := by rw [cell_of_block k0]; rfl
  have k0_8 : w2.cell? ⟨w.heap.size, 8, none⟩ = some (.int .i64 i) := by rw [cell_of_block k0]; rfl
  have k0_9 : w2.cell? ⟨w.heap.size, 9, none⟩ = some (.int .u64 u) := by rw [cell_of_block k0]; rfl
  have k0_10 : w2.cell? ⟨w.heap.size, 10, none⟩ = some (.bool raw) := by rw [cell_of_block k0]; rfl
  go_wp2_with fail
  refine (hA _ (hI.mem.old.below hB2)).mono ?_
  rintro e w3 ⟨rfl, hnx⟩
  obtain ⟨gn, hm3, hX3, hg3⟩ := mem_old' (hI.mem.below hB2) hnx hk2
  have hM3 : Mods (MS bO bY gO gY) w w3 := Mods.trans (S := MS bO bY gO gY) (Mods.of_below hB2) hX3 (fun i hi => .inl hi)
  have hR3 := (hI.ref.below hB2).mods hX3 (fun G e => hI.rr G (.inl e)) (fun G e => hI.rr G (.inr (.inl e)))
  have kp := mblock hX3 kp (fun e => Hsep.out p (.inl e) rfl)
  have k0 := mblock hX3 k0 (hI.mem.fresh _ (Nat.le_refl _))
  have hlst3 := row_keep hI.lst (fun G o e ho => mblock hM3 ho (hI.rr G (.inr (.inr e))))
  have h2z := hB2.size
  have hw23 := hX3.size
  have hg : ∀ k, MS bO bY gn gY k → MS bO bY gO gY k ∨ w.heap.size ≤ k := by
    rintro k ((e | e) | e)
    · exact .inl (.inl (.inl e))
    · exact (hg3 k e).elim (fun h => .inl (.inl (.inr h))) (fun h => .inr (by omega))
    · exact .inl (.inr e)
  have Hg := Lib.hid hg
  have Hw3 := Lib.hid (show w.heap.size ≤ w3.heap.size by omega)
  clear hg hg3 hnx hX3 hA hw23 h2z kp_0 kp_1 kp_2 kp_3 kp_4 kp_5 kp_6 kp_7 kp_8 k0_0 k0_1 k0_2 k0_3 k0_4 k0_5 k0_6 k0_7 k0_8 k0_9 k0_10
  have kp_0 : w3.cell? ⟨p, 0, none⟩ = some (.pointer (some ⟨bO, 0, none⟩)) := by rw [cell_of_block kp]; rfl
  have kp_1 : w3.cell? ⟨p, 1, none⟩ = some (.pointer (some ⟨bY, 0, none⟩)) := by rw [cell_of_block kp]; rfl
  have kp_2 : w3.cell? ⟨p, 2, none⟩ = some (.int .i64 0) := by rw [cell_of_block kp]; rfl
  have kp_3 : w3.cell? ⟨p, 3, none⟩ = some (.int .i64 lo) := by rw [cell_of_block kp]; rfl
  have kp_4 : w3.cell? ⟨p, 4, none⟩ = some (.slice aO nO cO) := by rw [cell_of_block kp]; rfl
  have kp_5 : w3.cell? ⟨p, 5, none⟩ = some (.int .i64 16777216) := by rw [cell_of_block kp]; rfl
  have kp_6 : w3.cell? ⟨p, 6, none⟩ = some (.int .i64 ly) := by rw [cell_of_block kp]; rfl
  have kp_7 : w3.cell? ⟨p, 7, none⟩ = some (.slice aY nY cY) := by rw [cell_of_block kp]; rfl
  have kp_8 : w3.cell? ⟨p, 8, none⟩ = some (lv) := by rw [cell_of_block kp]; rfl
  have k0_0 : w3.cell? ⟨w.heap.size, 0, none⟩ = some (.int .i64 0) := by rw [cell_of_block k0]; rfl
  have k0_1 : w3.cell? ⟨w.heap.size, 1, none⟩ = some (.int .i64 k) := by rw [cell_of_block k0]; rfl
  have k0_2 : w3.cell? ⟨w.heap.size, 2, none⟩ = some (.int .i64 c) := by rw [cell_of_block k0]; rfl
  have k0_3 : w3.cell? ⟨w.heap.size, 3, none⟩ = some (.int .i64 f) := by rw [cell_of_block k0]; rfl
  have k0_4 : w3.cell? ⟨w.heap.size, 4, none⟩ = some (.int .i64 m) := by rw [cell_of_block k0]; rfl
  have k0_5 : w3.cell? ⟨w.heap.size, 5, none⟩ = some (.int .i64 s) := by rw [cell_of_block k0]; rfl
  have k0_6 : w3.cell? ⟨w.heap.size, 6, none⟩ = some (.int .i64 a) := by rw [cell_of_block k0]; rfl
  have k0_7 : w3.cell? ⟨w.heap.size, 7, none⟩ = some (.int .i64 b) := by rw [cell_of_block k0]; rfl
  have k0_8 : w3.cell? ⟨w.heap.size, 8, none⟩ = some (.int .i64 i) := by rw [cell_of_block k0]; rfl
  have k0_9 : w3.cell? ⟨w.heap.size, 9, none⟩ = some (.int .u64 u) := by rw [cell_of_block k0]; rfl
  have k0_10 : w3.cell? ⟨w.heap.size, 10, none⟩ = some (.bool raw) := by rw [cell_of_block k0]; rfl
  have hBa : Below w3.heap.size w3 (w3.alloc (.cells #[.int .i64 0, .int .i64 0, .slice none 0 0, .int .i64 0, .int .i64 0, .slice none 0 0] 35)).drew := (balloc (Below.refl _ _) _).drew
  have hBb : Below w3.heap.size w3 w3.drew := (Below.refl _ _).drew
  have hRa := hR3.below hBa
  have hRb := hR3.below hBb
  have hw2p : w.heap.size ≤ w3.heap.size := Hw3.out
  have hwz : w.heap.size < w3.heap.size := (Array.getElem?_eq_some_iff.1 k0).1
  have hwp : p < w3.heap.size := (Array.getElem?_eq_some_iff.1 kp).1
  have hne_k0 : w.heap.size ≠ w3.heap.size := by omega
  have hne_kp : p ≠ w3.heap.size := by omega
  go_wp2_with fail
  go_region_held3 (fun w' => w'.cell? ⟨p, 2, none⟩ = some (.int .i64 0) ∧ w'.cell? ⟨p, 3, none⟩ = some (.int .i64 lo) ∧ w'.cell? ⟨p, 4, none⟩ = some (.slice aO nO cO) ∧ w'.cell? ⟨p, 5, none⟩ = some (.int .i64 16777216) ∧ w'.cell? ⟨p, 6, none⟩ = some (.int .i64 ly) ∧ w'.cell? ⟨p, 7, none⟩ = some (.slice aY nY cY) ∧ w'.cell? ⟨w.heap.size, 0, none⟩ = some (.int .i64 0) ∧ w'.cell? ⟨w.heap.size, 1, none⟩ = some (.int .i64 k) ∧ w'.cell? ⟨w.heap.size, 2, none⟩ = some (.int .i64 c) ∧ w'.cell? ⟨w.heap.size, 3, none⟩ = some (.int .i64 f) ∧ w'.cell? ⟨w.heap.size, 4, none⟩ = some (.int .i64 m) ∧ w'.cell? ⟨w.heap.size, 5, none⟩ = some (.int .i64 s)) (first | (with_reducible exact ⟨kp_2, kp_3, kp_4, kp_5, kp_6, kp_7, k0_0, k0_1, k0_2, k0_3, k0_4, k0_5⟩) | (with_reducible exact ⟨six_cell kp_2 hne_kp, six_cell kp_3 hne_kp, six_cell kp_4 hne_kp, six_cell kp_5 hne_kp, six_cell kp_6 hne_kp, six_cell kp_7 hne_kp, six_cell k0_0 hne_k0, six_cell k0_1 hne_k0, six_cell k0_2 hne_k0, six_cell k0_3 hne_k0, six_cell k0_4 hne_k0, six_cell k0_5 hne_k0⟩) | go_keep) (first | (go_at_call 14; (with_reducible refine (hR _ hRa).mono ?_); rintro e w4 ⟨aO', nO', cO', aY', nY', cY', rO', rY', rfl, hr3, hg1, hg2, hb3⟩; have Hg1 := Lib.hid hg1; have Hg2 := Lib.hid hg2; clear hg1 hg2; have kp_2 := bcellv hb3 (show (w3.alloc (.cells #[.int .i64 0, .int .i64 0, .slice none 0 0, .int .i64 0, .int .i64 0, .slice none 0 0] 35)).drew.cell? _ = _ from bcellv (balloc (Below.refl _ w3) _) kp_2); have kp_3 := bcellv hb3 (show (w3.alloc (.cells #[.int .i64 0, .int .i64 0, .slice none 0 0, .int .i64 0, .int .i64 0, .slice none 0 0] 35)).drew.cell? _ = _ from bcellv (balloc (Below.refl _ w3) _) kp_3); have kp_4 := bcellv hb3 (show (w3.alloc (.cells #[.int .i64 0, .int .i64 0, .slice none 0 0, .int .i64 0, .int .i64 0, .slice none 0 0] 35)).drew.cell? _ = _ from bcellv (balloc (Below.refl _ w3) _) kp_4); have kp_5 := bcellv hb3 (show (w3.alloc (.cells #[.int .i64 0, .int .i64 0, .slice none 0 0, .int .i64 0, .int .i64 0, .slice none 0 0] 35)).drew.cell? _ = _ from bcellv (balloc (Below.refl _ w3) _) kp_5); have kp_6 := bcellv hb3 (show (w3.alloc (.cells #[.int .i64 0, .int .i64 0, .slice none 0 0, .int .i64 0, .int .i64 0, .slice none 0 0] 35)).drew.cell? _ = _ from bcellv (balloc (Below.refl _ w3) _) kp_6); have kp_7 := bcellv hb3 (show (w3.alloc (.cells #[.int .i64 0, .int .i64 0, .slice none 0 0, .int .i64 0, .int .i64 0, .slice none 0 0] 35)).drew.cell? _ = _ from bcellv (balloc (Below.refl _ w3) _) kp_7); have k0_0 := bcellv hb3 (show (w3.alloc (.cells #[.int .i64 0, .int .i64 0, .slice none 0 0, .int .i64 0, .int .i64 0, .slice none 0 0] 35)).drew.cell? _ = _ from bcellv (balloc (Below.refl _ w3) _) k0_0); have k0_1 := bcellv hb3 (show (w3.alloc (.cells #[.int .i64 0, .int .i64 0, .slice none 0 0, .int .i64 0, .int .i64 0, .slice none 0 0] 35)).drew.cell? _ = _ from bcellv (balloc (Below.refl _ w3) _) k0_1); have k0_2 := bcellv hb3 (show (w3.alloc (.cells #[.int .i64 0, .int .i64 0, .slice none 0 0, .int .i64 0, .int .i64 0, .slice none 0 0] 35)).drew.cell? _ = _ from bcellv (balloc (Below.refl _ w3) _) k0_2); have k0_3 := bcellv hb3 (show (w3.alloc (.cells #[.int .i64 0, .int .i64 0, .slice none 0 0, .int .i64 0, .int .i64 0, .slice none 0 0] 35)).drew.cell? _ = _ from bcellv (balloc (Below.refl _ w3) _) k0_3); have k0_4 := bcellv hb3 (show (w3.alloc (.cells #[.int .i64 0, .int .i64 0, .slice none 0 0, .int .i64 0, .int .i64 0, .slice none 0 0] 35)).drew.cell? _ = _ from bcellv (balloc (Below.refl _ w3) _) k0_4); have k0_5 := bcellv hb3 (show (w3.alloc (.cells #[.int .i64 0, .int .i64 0, .slice none 0 0, .int .i64 0, .int .i64 0, .slice none 0 0] 35)).drew.cell? _ = _ from bcellv (balloc (Below.refl _ w3) _) k0_5); have kp := bblock hb3 (show (w3.alloc (.cells #[.int .i64 0, .int .i64 0, .slice none 0 0, .int .i64 0, .int .i64 0, .slice none 0 0] 35)).drew.heap[_]? = _ from alloc_lt _ kp); have k0 := bblock hb3 (show (w3.alloc (.cells #[.int .i64 0, .int .i64 0, .slice none 0 0, .int .i64 0, .int .i64 0, .slice none 0 0] 35)).drew.heap[_]? = _ from alloc_lt _ k0); have kv := bblock hb3 (show (w3.alloc (.cells #[.int .i64 0, .int .i64 0, .slice none 0 0, .int .i64 0, .int .i64 0, .slice none 0 0] 35)).drew.heap[_]? = _ from alloc_get w3 _); have kv_f : ∀ i, w4.frozen? ⟨w3.heap.size, i, none⟩ = false := frozen_of_block kv; have hzv : w3.heap.size < w4.heap.size := (Array.getElem?_eq_some_iff.1 kv).1; have kv_0 : w4.cell? ⟨w3.heap.size, 0, none⟩ = some (.int .i64 0) := (by rw [cell_of_block kv]; rfl); have kv_1 : w4.cell? ⟨w3.heap.size, 1, none⟩ = some (.int .i64 0) := (by rw [cell_of_block kv]; rfl); have kv_2 : w4.cell? ⟨w3.heap.size, 2, none⟩ = some (.slice none 0 0) := (by rw [cell_of_block kv]; rfl); have kv_3 : w4.cell? ⟨w3.heap.size, 3, none⟩ = some (.int .i64 0) := (by rw [cell_of_block kv]; rfl); have kv_4 : w4.cell? ⟨w3.heap.size, 4, none⟩ = some (.int .i64 0) := (by rw [cell_of_block kv]; rfl); have kv_5 : w4.cell? ⟨w3.heap.size, 5, none⟩ = some (.slice none 0 0) := (by rw [cell_of_block kv]; rfl)) | (go_at_call 14; (with_reducible refine (hR _ hRb).mono ?_); rintro e w4 ⟨aO', nO', cO', aY', nY', cY', rO', rY', rfl, hr3, hg1, hg2, hb3⟩; have Hg1 := Lib.hid hg1; have Hg2 := Lib.hid hg2; clear hg1 hg2; have kp_2 := bcellv hb3 (show w3.drew.cell? _ = _ from kp_2); have kp_3 := bcellv hb3 (show w3.drew.cell? _ = _ from kp_3); have kp_4 := bcellv hb3 (show w3.drew.cell? _ = _ from kp_4); have kp_5 := bcellv hb3 (show w3.drew.cell? _ = _ from kp_5); have kp_6 := bcellv hb3 (show w3.drew.cell? _ = _ from kp_6); have kp_7 := bcellv hb3 (show w3.drew.cell? _ = _ from kp_7); have k0_0 := bcellv hb3 (show w3.drew.cell? _ = _ from k0_0); have k0_1 := bcellv hb3 (show w3.drew.cell? _ = _ from k0_1); have k0_2 := bcellv hb3 (show w3.drew.cell? _ = _ from k0_2); have k0_3 := bcellv hb3 (show w3.drew.cell? _ = _ from k0_3); have k0_4 := bcellv hb3 (show w3.drew.cell? _ = _ from k0_4); have k0_5 := bcellv hb3 (show w3.drew.cell? _ = _ from k0_5); have kp := bblock hb3 (show w3.drew.heap[_]? = _ from kp); have k0 := bblock hb3 (show w3.drew.heap[_]? = _ from k0)))
  all_goals clear hR hR3 hRa hRb
  · have hg1 := Hg1.out
    have hg2 := Hg2.out
    have hz3 : w3.heap.size ≤ w4.heap.size := hb3.size
    have hB3 : Below w3.heap.size w3 w4 := bchain hb3 hBb
    have hg1 : ∀ G, rO' = some G → rO = some G ∨ w3.heap.size ≤ G := fun G e => (hg1 G e).imp id (fun h => by have : w3.drew.heap.size = w3.heap.size := rfl; omega)
    have hg2 : ∀ G, rY' = some G → rY = some G ∨ w3.heap.size ≤ G := fun G e => (hg2 G e).imp id (fun h => by have : w3.drew.heap.size = w3.heap.size := rfl; omega)
    have hB4 : Below w3.heap.size w3 (w4.alloc (.cells #[.int .i64 0, .int .i64 lo, .slice aO' nO' cO', .int .i64 16777216, .int .i64 ly, .slice aY' nY' cY'] 35)) := hB3.alloc hB3.size _
    have hr4 := hr3.below (balloc (Below.refl _ w4) (.cells #[.int .i64 0, .int .i64 lo, .slice aO' nO' cO', .int .i64 16777216, .int .i64 ly, .slice aY' nY' cY'] 35))
    have kv : (w4.alloc (.cells #[.int .i64 0, .int .i64 lo, .slice aO' nO' cO', .int .i64 16777216, .int .i64 ly, .slice aY' nY' cY'] 35)).heap[w4.heap.size]? = some (.cells #[.int .i64 0, .int .i64 lo, .slice aO' nO' cO', .int .i64 16777216, .int .i64 ly, .slice aY' nY' cY'] 35 (0, 0)) := alloc_get _ _
    have kp : (w4.alloc (.cells #[.int .i64 0, .int .i64 lo, .slice aO' nO' cO', .int .i64 16777216, .int .i64 ly, .slice aY' nY' cY'] 35)).heap[p]? = _ := alloc_lt _ kp
    have k0 : (w4.alloc (.cells #[.int .i64 0, .int .i64 lo, .slice aO' nO' cO', .int .i64 16777216, .int .i64 ly, .slice aY' nY' cY'] 35)).heap[w.heap.size]? = _ := alloc_lt _ k0
    have hpV : p ≠ w4.heap.size := by omega
    have h0V : w.heap.size ≠ w4.heap.size := by omega
    have hzV := (Array.getElem?_eq_some_iff.1 kv).1
    obtain ⟨V, hV⟩ : ∃ V, w4.heap.size = V := ⟨_, rfl⟩
    obtain ⟨w5, hw4⟩ : ∃ w5, (w4.alloc (.cells #[.int .i64 0, .int .i64 lo, .slice aO' nO' cO', .int .i64 16777216, .int .i64 ly, .slice aY' nY' cY'] 35)) = w5 := ⟨_, rfl⟩
    rw [hw4] at hr4 hB4 kv kp k0 hzV ⊢
    rw [hV] at kv hpV h0V hzV ⊢
    clear hw4 hV hr3 hb3 hB3 Hg1 Hg2 hBa hBb kp_0 kp_1 kp_2 kp_3 kp_4 kp_5 kp_6 kp_7 kp_8 k0_0 k0_1 k0_2 k0_3 k0_4 k0_5 k0_6 k0_7 k0_8 k0_9 k0_10
    have kp_0 : w5.cell? ⟨p, 0, none⟩ = some (.pointer (some ⟨bO, 0, none⟩)) := by rw [cell_of_block kp]; rfl
    have kp_1 : w5.cell? ⟨p, 1, none⟩ = some (.pointer (some ⟨bY, 0, none⟩)) := by rw [cell_of_block kp]; rfl
    have kp_2 : w5.cell? ⟨p, 2, none⟩ = some (.int .i64 0) := by rw [cell_of_block kp]; rfl
    have kp_3 : w5.cell? ⟨p, 3, none⟩ = some (.int .i64 lo) := by rw [cell_of_block kp]; rfl
    have kp_4 : w5.cell? ⟨p, 4, none⟩ = some (.slice aO nO cO) := by rw [cell_of_block kp]; rfl
    have kp_5 : w5.cell? ⟨p, 5, none⟩ = some (.int .i64 16777216) := by rw [cell_of_block kp]; rfl
    have kp_6 : w5.cell? ⟨p, 6, none⟩ = some (.int .i64 ly) := by rw [cell_of_block kp]; rfl
    have kp_7 : w5.cell? ⟨p, 7, none⟩ = some (.slice aY nY cY) := by rw [cell_of_block kp]; rfl
    have kp_8 : w5.cell? ⟨p, 8, none⟩ = some (lv) := by rw [cell_of_block kp]; rfl
    have kp_f : ∀ i, w5.frozen? ⟨p, i, none⟩ = false := frozen_of_block kp
    have k0_0 : w5.cell? ⟨w.heap.size, 0, none⟩ = some (.int .i64 0) := by rw [cell_of_block k0]; rfl
    have k0_1 : w5.cell? ⟨w.heap.size, 1, none⟩ = some (.int .i64 k) := by rw [cell_of_block k0]; rfl
    have k0_2 : w5.cell? ⟨w.heap.size, 2, none⟩ = some (.int .i64 c) := by rw [cell_of_block k0]; rfl
    have k0_3 : w5.cell? ⟨w.heap.size, 3, none⟩ = some (.int .i64 f) := by rw [cell_of_block k0]; rfl
    have k0_4 : w5.cell? ⟨w.heap.size, 4, none⟩ = some (.int .i64 m) := by rw [cell_of_block k0]; rfl
    have k0_5 : w5.cell? ⟨w.heap.size, 5, none⟩ = some (.int .i64 s) := by rw [cell_of_block k0]; rfl
    have k0_6 : w5.cell? ⟨w.heap.size, 6, none⟩ = some (.int .i64 a) := by rw [cell_of_block k0]; rfl
    have k0_7 : w5.cell? ⟨w.heap.size, 7, none⟩ = some (.int .i64 b) := by rw [cell_of_block k0]; rfl
    have k0_8 : w5.cell? ⟨w.heap.size, 8, none⟩ = some (.int .i64 i) := by rw [cell_of_block k0]; rfl
    have k0_9 : w5.cell? ⟨w.heap.size, 9, none⟩ = some (.int .u64 u) := by rw [cell_of_block k0]; rfl
    have k0_10 : w5.cell? ⟨w.heap.size, 10, none⟩ = some (.bool raw) := by rw [cell_of_block k0]; rfl
    have kv_0 : w5.cell? ⟨V, 0, none⟩ = some (.int .i64 0) := by rw [cell_of_block kv]; rfl
    have kv_1 : w5.cell? ⟨V, 1, none⟩ = some (.int .i64 lo) := by rw [cell_of_block kv]; rfl
    have kv_2 : w5.cell? ⟨V, 2, none⟩ = some (.slice aO' nO' cO') := by rw [cell_of_block kv]; rfl
    have kv_3 : w5.cell? ⟨V, 3, none⟩ = some (.int .i64 16777216) := by rw [cell_of_block kv]; rfl
    have kv_4 : w5.cell? ⟨V, 4, none⟩ = some (.int .i64 ly) := by rw [cell_of_block kv]; rfl
    have kv_5 : w5.cell? ⟨V, 5, none⟩ = some (.slice aY' nY' cY') := by rw [cell_of_block kv]; rfl
    have hzp : p < w5.heap.size := (Array.getElem?_eq_some_iff.1 kp).1
    have hz0 : w.heap.size < w5.heap.size := (Array.getElem?_eq_some_iff.1 k0).1
    have hM5 : Mods (fun k => k = p) w5 ((((((w5.setCell ⟨p, 2, none⟩ (.int .i64 0)).setCell ⟨p, 3, none⟩ (.int .i64 lo)).setCell ⟨p, 4, none⟩ (.slice aO' nO' cO')).setCell ⟨p, 5, none⟩ (.int .i64 16777216)).setCell ⟨p, 6, none⟩ (.int .i64 ly)).setCell ⟨p, 7, none⟩ (.slice aY' nY' cY')) := six_off_mods
    have kp5 : ((((((w5.setCell ⟨p, 2, none⟩ (.int .i64 0)).setCell ⟨p, 3, none⟩ (.int .i64 lo)).setCell ⟨p, 4, none⟩ (.slice aO' nO' cO')).setCell ⟨p, 5, none⟩ (.int .i64 16777216)).setCell ⟨p, 6, none⟩ (.int .i64 ly)).setCell ⟨p, 7, none⟩ (.slice aY' nY' cY')).heap[p]? = some (.cells #[.pointer (some ⟨bO, 0, none⟩), .pointer (some ⟨bY, 0, none⟩), .int .i64 0, .int .i64 lo, .slice aO' nO' cO', .int .i64 16777216, .int .i64 ly, .slice aY' nY' cY', lv] 47 (0, 0)) := six_off kp
    have hlst6 : World.ownsRow ((((((w5.setCell ⟨p, 2, none⟩ (.int .i64 0)).setCell ⟨p, 3, none⟩ (.int .i64 lo)).setCell ⟨p, 4, none⟩ (.slice aO' nO' cO')).setCell ⟨p, 5, none⟩ (.int .i64 16777216)).setCell ⟨p, 6, none⟩ (.int .i64 ly)).setCell ⟨p, 7, none⟩ (.slice aY' nY' cY')) n0 3 1 lv x.l.length (x.l.map (Value.int .i64)) := row_keep hlst3 (fun G o e ho => mblock hM5 (bblock hB4 ho) (Hsep.out G (.inr (.inr (.inr e)))))
    go_wp2
    go_ret
    exact ⟨rfl, WAt.finA (l' := x.l) hI hn hp0 hp1 Hsep.out hM3 hm3 Hg.out hB4 hr4 hg1 hg2 (hM5.mono (fun k e => .inl e)) hlst6 (fun G e => .inl e) kp5⟩
  · have hg1 := Hg1.out
    have hg2 := Hg2.out
    have hB3 : Below w3.heap.size w3 w4 := bchain hb3 hBa
    have hzd : (w3.alloc (.cells #[.int .i64 0, .int .i64 0, .slice none 0 0, .int .i64 0, .int .i64 0, .slice none 0 0] 35)).drew.heap.size = w3.heap.size + 1 := World.size_alloc _ _
    rw [hzd] at hg1 hg2
    have hw33 := Hw3.out
    have hlt1 := fun G e => hI.lt G (.inr (.inl e))
    have hlt2 := fun G e => hI.lt G (.inr (.inr (.inl e)))
    have hr4 := hr3.mods (six_mods (j := w3.heap.size) (b0 := .int .i64 0) (b1 := .int .i64 lo) (b2 := .slice aO' nO' cO') (b3 := .int .i64 16777216) (b4 := .int .i64 ly) (b5 := .slice aY' nY' cY')) (fun G e => by rcases hg1 G e with h | h; (have := hlt1 G h; omega); omega) (fun G e => by rcases hg2 G e with h | h; (have := hlt2 G h; omega); omega)
    have hg1 : ∀ G, rO' = some G → rO = some G ∨ w3.heap.size ≤ G := fun G e => (hg1 G e).imp id (fun h => by omega)
    have hg2 : ∀ G, rY' = some G → rY = some G ∨ w3.heap.size ≤ G := fun G e => (hg2 G e).imp id (fun h => by omega)
    have hB4 : Below w3.heap.size w3 ((((((w4.setCell ⟨w3.heap.size, 0, none⟩ (.int .i64 0)).setCell ⟨w3.heap.size, 1, none⟩ (.int .i64 lo)).setCell ⟨w3.heap.size, 2, none⟩ (.slice aO' nO' cO')).setCell ⟨w3.heap.size, 3, none⟩ (.int .i64 16777216)).setCell ⟨w3.heap.size, 4, none⟩ (.int .i64 ly)).setCell ⟨w3.heap.size, 5, none⟩ (.slice aY' nY' cY')) := (Mods.trans (S := fun k => w3.heap.size ≤ k) (Mods.of_below hB3) six_mods (fun i hi => .inl (by omega))).below (Nat.le_refl _) (fun k hk => hk)
    have kv : ((((((w4.setCell ⟨w3.heap.size, 0, none⟩ (.int .i64 0)).setCell ⟨w3.heap.size, 1, none⟩ (.int .i64 lo)).setCell ⟨w3.heap.size, 2, none⟩ (.slice aO' nO' cO')).setCell ⟨w3.heap.size, 3, none⟩ (.int .i64 16777216)).setCell ⟨w3.heap.size, 4, none⟩ (.int .i64 ly)).setCell ⟨w3.heap.size, 5, none⟩ (.slice aY' nY' cY')).heap[w3.heap.size]? = some (.cells #[.int .i64 0, .int .i64 lo, .slice aO' nO' cO', .int .i64 16777216, .int .i64 ly, .slice aY' nY' cY'] 35 (0, 0)) := set6 kv
    have kp : ((((((w4.setCell ⟨w3.heap.size, 0, none⟩ (.int .i64 0)).setCell ⟨w3.heap.size, 1, none⟩ (.int .i64 lo)).setCell ⟨w3.heap.size, 2, none⟩ (.slice aO' nO' cO')).setCell ⟨w3.heap.size, 3, none⟩ (.int .i64 16777216)).setCell ⟨w3.heap.size, 4, none⟩ (.int .i64 ly)).setCell ⟨w3.heap.size, 5, none⟩ (.slice aY' nY' cY')).heap[p]? = _ := six_other kp hne_kp
    have k0 : ((((((w4.setCell ⟨w3.heap.size, 0, none⟩ (.int .i64 0)).setCell ⟨w3.heap.size, 1, none⟩ (.int .i64 lo)).setCell ⟨w3.heap.size, 2, none⟩ (.slice aO' nO' cO')).setCell ⟨w3.heap.size, 3, none⟩ (.int .i64 16777216)).setCell ⟨w3.heap.size, 4, none⟩ (.int .i64 ly)).setCell ⟨w3.heap.size, 5, none⟩ (.slice aY' nY' cY')).heap[w.heap.size]? = _ := six_other k0 hne_k0
    have hpV : p ≠ w3.heap.size := hne_kp
    have h0V : w.heap.size ≠ w3.heap.size := hne_k0
    clear hzd hlt1 hlt2
    have hzV := (Array.getElem?_eq_some_iff.1 kv).1
    obtain ⟨V, hV⟩ : ∃ V, w3.heap.size = V := ⟨_, rfl⟩
    obtain ⟨w5, hw4⟩ : ∃ w5, ((((((w4.setCell ⟨w3.heap.size, 0, none⟩ (.int .i64 0)).setCell ⟨w3.heap.size, 1, none⟩ (.int .i64 lo)).setCell ⟨w3.heap.size, 2, none⟩ (.slice aO' nO' cO')).setCell ⟨w3.heap.size, 3, none⟩ (.int .i64 16777216)).setCell ⟨w3.heap.size, 4, none⟩ (.int .i64 ly)).setCell ⟨w3.heap.size, 5, none⟩ (.slice aY' nY' cY')) = w5 := ⟨_, rfl⟩
    rw [hw4] at hr4 hB4 kv kp k0 hzV ⊢
    rw [hV] at kv hpV h0V hzV ⊢
    clear hw4 hV hr3 hb3 hB3 Hg1 Hg2 hBa hBb kp_0 kp_1 kp_2 kp_3 kp_4 kp_5 kp_6 kp_7 kp_8 k0_0 k0_1 k0_2 k0_3 k0_4 k0_5 k0_6 k0_7 k0_8 k0_9 k0_10 kv_f hzv kv_0 kv_1 kv_2 kv_3 kv_4 kv_5
    have kp_0 : w5.cell? ⟨p, 0, none⟩ = some (.pointer (some ⟨bO, 0, none⟩)) := by rw [cell_of_block kp]; rfl
    have kp_1 : w5.cell? ⟨p, 1, none⟩ = some (.pointer (some ⟨bY, 0, none⟩)) := by rw [cell_of_block kp]; rfl
    have kp_2 : w5.cell? ⟨p, 2, none⟩ = some (.int .i64 0) := by rw [cell_of_block kp]; rfl
    have kp_3 : w5.cell? ⟨p, 3, none⟩ = some (.int .i64 lo) := by rw [cell_of_block kp]; rfl
    have kp_4 : w5.cell? ⟨p, 4, none⟩ = some (.slice aO nO cO) := by rw [cell_of_block kp]; rfl
    have kp_5 : w5.cell? ⟨p, 5, none⟩ = some (.int .i64 16777216) := by rw [cell_of_block kp]; rfl
    have kp_6 : w5.cell? ⟨p, 6, none⟩ = some (.int .i64 ly) := by rw [cell_of_block kp]; rfl
    have kp_7 : w5.cell? ⟨p, 7, none⟩ = some (.slice aY nY cY) := by rw [cell_of_block kp]; rfl
    have kp_8 : w5.cell? ⟨p, 8, none⟩ = some (lv) := by rw [cell_of_block kp]; rfl
    have kp_f : ∀ i, w5.frozen? ⟨p, i, none⟩ = false := frozen_of_block kp
    have k0_0 : w5.cell? ⟨w.heap.size, 0, none⟩ = some (.int .i64 0) := by rw [cell_of_block k0]; rfl
    have k0_1 : w5.cell? ⟨w.heap.size, 1, none⟩ = some (.int .i64 k) := by rw [cell_of_block k0]; rfl
    have k0_2 : w5.cell? ⟨w.heap.size, 2, none⟩ = some (.int .i64 c) := by rw [cell_of_block k0]; rfl
    have k0_3 : w5.cell? ⟨w.heap.size, 3, none⟩ = some (.int .i64 f) := by rw [cell_of_block k0]; rfl
    have k0_4 : w5.cell? ⟨w.heap.size, 4, none⟩ = some (.int .i64 m) := by rw [cell_of_block k0]; rfl
    have k0_5 : w5.cell? ⟨w.heap.size, 5, none⟩ = some (.int .i64 s) := by rw [cell_of_block k0]; rfl
    have k0_6 : w5.cell? ⟨w.heap.size, 6, none⟩ = some (.int .i64 a) := by rw [cell_of_block k0]; rfl
    have k0_7 : w5.cell? ⟨w.heap.size, 7, none⟩ = some (.int .i64 b) := by rw [cell_of_block k0]; rfl
    have k0_8 : w5.cell? ⟨w.heap.size, 8, none⟩ = some (.int .i64 i) := by rw [cell_of_block k0]; rfl
    have k0_9 : w5.cell? ⟨w.heap.size, 9, none⟩ = some (.int .u64 u) := by rw [cell_of_block k0]; rfl
    have k0_10 : w5.cell? ⟨w.heap.size, 10, none⟩ = some (.bool raw) := by rw [cell_of_block k0]; rfl
    have kv_0 : w5.cell? ⟨V, 0, none⟩ = some (.int .i64 0) := by rw [cell_of_block kv]; rfl
    have kv_1 : w5.cell? ⟨V, 1, none⟩ = some (.int .i64 lo) := by rw [cell_of_block kv]; rfl
    have kv_2 : w5.cell? ⟨V, 2, none⟩ = some (.slice aO' nO' cO') := by rw [cell_of_block kv]; rfl
    have kv_3 : w5.cell? ⟨V, 3, none⟩ = some (.int .i64 16777216) := by rw [cell_of_block kv]; rfl
    have kv_4 : w5.cell? ⟨V, 4, none⟩ = some (.int .i64 ly) := by rw [cell_of_block kv]; rfl
    have kv_5 : w5.cell? ⟨V, 5, none⟩ = some (.slice aY' nY' cY') := by rw [cell_of_block kv]; rfl
    have hzp : p < w5.heap.size := (Array.getElem?_eq_some_iff.1 kp).1
    have hz0 : w.heap.size < w5.heap.size := (Array.getElem?_eq_some_iff.1 k0).1
    have hM5 : Mods (fun k => k = p) w5 ((((((w5.setCell ⟨p, 2, none⟩ (.int .i64 0)).setCell ⟨p, 3, none⟩ (.int .i64 lo)).setCell ⟨p, 4, none⟩ (.slice aO' nO' cO')).setCell ⟨p, 5, none⟩ (.int .i64 16777216)).setCell ⟨p, 6, none⟩ (.int .i64 ly)).setCell ⟨p, 7, none⟩ (.slice aY' nY' cY')) := six_off_mods
    have kp5 : ((((((w5.setCell ⟨p, 2, none⟩ (.int .i64 0)).setCell ⟨p, 3, none⟩ (.int .i64 lo)).setCell ⟨p, 4, none⟩ (.slice aO' nO' cO')).setCell ⟨p, 5, none⟩ (.int .i64 16777216)).setCell ⟨p, 6, none⟩ (.int .i64 ly)).setCell ⟨p, 7, none⟩ (.slice aY' nY' cY')).heap[p]? = some (.cells #[.pointer (some ⟨bO, 0, none⟩), .pointer (some ⟨bY, 0, none⟩), .int .i64 0, .int .i64 lo, .slice aO' nO' cO', .int .i64 16777216, .int .i64 ly, .slice aY' nY' cY', lv] 47 (0, 0)) := six_off kp
    have hlst6 : World.ownsRow ((((((w5.setCell ⟨p, 2, none⟩ (.int .i64 0)).setCell ⟨p, 3, none⟩ (.int .i64 lo)).setCell ⟨p, 4, none⟩ (.slice aO' nO' cO')).setCell ⟨p, 5, none⟩ (.int .i64 16777216)).setCell ⟨p, 6, none⟩ (.int .i64 ly)).setCell ⟨p, 7, none⟩ (.slice aY' nY' cY')) n0 3 1 lv x.l.length (x.l.map (Value.int .i64)) := row_keep hlst3 (fun G o e ho => mblock hM5 (bblock hB4 ho) (Hsep.out G (.inr (.inr (.inr e)))))
    go_wp2
    go_ret
    exact ⟨rfl, WAt.finA (l' := x.l) hI hn hp0 hp1 Hsep.out hM3 hm3 Hg.out hB4 hr4 hg1 hg2 (hM5.mono (fun k e => .inl e)) hlst6 (fun G e => .inl e) kp5⟩
end Go.Proofs.Ytcmhgjkijegpnaa
namespace Go.Proofs.Ytcmhgjkijegpnaa
open Go.RowKit
set_option linter.unusedSimpArgs false
set_option linter.unusedVariables false

set_option maxRecDepth 100000 in
set_option maxHeartbeats 4000000 in
theorem stp_0y {w : World} {n0 p : Nat} {lo ly : Int} {x : S7} (h : WAt w n0 p lo ly x) (hn : n0 ≤ w.heap.size) (k c f m s a b i u : Int) (raw : Bool) (he : alE 0 lo x.wo k c f m s = 0) (hll : x.l.length ≤ 1000000) :
    Calls Try.prog 22 #[.pointer (some ⟨p, 0, none⟩), .agg #[.int .i64 0, .int .i64 k, .int .i64 c, .int .i64 f, .int .i64 m, .int .i64 s, .int .i64 a, .int .i64 b, .int .i64 i, .int .u64 u, .bool raw]] w (StP w n0 p lo ly ⟨alW 0 lo x.wo k c f m s, x.wy, x.l ++ [alA 0 lo x.wo k c f m s]⟩) := by
  obtain ⟨bO, bY, aO, nO, cO, aY, nY, cY, lv, gO, gY, rO, rY, hp0, kp, hI, hsep⟩ := h
  have hp1 : p < w.heap.size := (Array.getElem?_eq_some_iff.1 kp).1
  have hpn : p ≠ w.heap.size := by omega
  have Hsep := Lib.hid hsep
  clear hsep
  have kp : w.heap[p]? = some (.cells #[.pointer (some ⟨bO, 0, none⟩), .pointer (some ⟨bY, 0, none⟩), .int .i64 0, .int .i64 lo, .slice aO nO cO, .int .i64 16777216, .int .i64 ly, .slice aY nY cY, lv] 47 (0, 0)) := kp
  have hat := fun W (H : Below w.heap.size w W) => wat_row (.pointer (some ⟨bO, 0, none⟩)) (.pointer (some ⟨bY, 0, none⟩)) (.int .i64 0) (.int .i64 lo) (.slice aO nO cO) (.int .i64 16777216) (.int .i64 ly) (.slice aY nY cY) 0 k c f m s a b i u raw a (row_keep hI.lst (fun G o e ho => bblock H ho))
  have hA := fun W (H : SpAt W bO 0 lo x.wo gO) => alloc_any H hI.mem.okO k c f m s
  have hR := fun W (H : RMem W aO nO cO aY nY cY lo ly x.wo x.wy rO rY) => rmalloc_O H k c f m s
  have hk2 := alOk hI.mem.okO k c f m s
  generalize atW raw x.l a = y at *
  generalize alA 0 lo x.wo k c f m s = ra at *
  generalize hws : alW 0 lo x.wo k c f m s = ws2 at *
  clear hws
  generalize alE 0 lo x.wo k c f m s = re at *
  subst he
  go_enter Try.func22, Try.ntmps22
  go_wp2_with fail
  obtain ⟨w1, hw1⟩ : ∃ w1, (w.alloc (.cells #[.int .i64 0, .int .i64 k, .int .i64 c, .int .i64 f, .int .i64 m, .int .i64 s, .int .i64 a, .int .i64 b, .int .i64 i, .int .u64 u, .bool raw] 58)) = w1 := ⟨_, rfl⟩
  have hb1 : Below w.heap.size w w1 := by rw [← hw1]; exact balloc (Below.refl _ _) _
  have k0 : w1.heap[w.heap.size]? = some (.cells #[.int .i64 0, .int .i64 k, .int .i64 c, .int .i64 f, .int .i64 m, .int .i64 s, .int .i64 a, .int .i64 b, .int .i64 i, .int .u64 u, .bool raw] 58 (0, 0)) := by rw [← hw1]; exact alloc_get _ _
  have kp : w1.heap[p]? = some (.cells #[.pointer (some ⟨bO, 0, none⟩), .pointer (some ⟨bY, 0, none⟩), .int .i64 0, .int .i64 lo, .slice aO nO cO, .int .i64 16777216, .int .i64 ly, .slice aY nY cY, lv] 47 (0, 0)) := bblock hb1 kp
  rw [hw1]
  clear hw1
  have o_kp_0 : ∀ x, (over w1 x).cell? ⟨p, 0, none⟩ = some (.pointer (some ⟨bO, 0, none⟩)) := over_cell (by rw [cell_of_block kp]; rfl)
  have o_kp_1 : ∀ x, (over w1 x).cell? ⟨p, 1, none⟩ = some (.pointer (some ⟨bY, 0, none⟩)) := over_cell (by rw [cell_of_block kp]; rfl)
  have o_kp_2 : ∀ x, (over w1 x).cell? ⟨p, 2, none⟩ = some (.int .i64 0) := over_cell (by rw [cell_of_block kp]; rfl)
  have o_kp_3 : ∀ x, (over w1 x).cell? ⟨p, 3, none⟩ = some (.int .i64 lo) := over_cell (by rw [cell_of_block kp]; rfl)
  have o_kp_4 : ∀ x, (over w1 x).cell? ⟨p, 4, none⟩ = some (.slice aO nO cO) := over_cell (by rw [cell_of_block kp]; rfl)
  have o_kp_5 : ∀ x, (over w1 x).cell? ⟨p, 5, none⟩ = some (.int .i64 16777216) := over_cell (by rw [cell_of_block kp]; rfl)
  have o_kp_6 : ∀ x, (over w1 x).cell? ⟨p, 6, none⟩ = some (.int .i64 ly) := over_cell (by rw [cell_of_block kp]; rfl)
  have o_kp_7 : ∀ x, (over w1 x).cell? ⟨p, 7, none⟩ = some (.slice aY nY cY) := over_cell (by rw [cell_of_block kp]; rfl)
  have o_kp_8 : ∀ x, (over w1 x).cell? ⟨p, 8, none⟩ = some (lv) := over_cell (by rw [cell_of_block kp]; rfl)
  have o_k0_0 : ∀ x, (over w1 x).cell? ⟨w.heap.size, 0, none⟩ = some (.int .i64 0) := over_cell (by rw [cell_of_block k0]; rfl)
  have o_k0_1 : ∀ x, (over w1 x).cell? ⟨w.heap.size, 1, none⟩ = some (.int .i64 k) := over_cell (by rw [cell_of_block k0]; rfl)
  have o_k0_2 : ∀ x, (over w1 x).cell? ⟨w.heap.size, 2, none⟩ = some (.int .i64 c) := over_cell (by rw [cell_of_block k0]; rfl)
  have o_k0_3 : ∀ x, (over w1 x).cell? ⟨w.heap.size, 3, none⟩ = some (.int .i64 f) := over_cell (by rw [cell_of_block k0]; rfl)
  have o_k0_4 : ∀ x, (over w1 x).cell? ⟨w.heap.size, 4, none⟩ = some (.int .i64 m) := over_cell (by rw [cell_of_block k0]; rfl)
  have o_k0_5 : ∀ x, (over w1 x).cell? ⟨w.heap.size, 5, none⟩ = some (.int .i64 s) := over_cell (by rw [cell_of_block k0]; rfl)
  have o_k0_6 : ∀ x, (over w1 x).cell? ⟨w.heap.size, 6, none⟩ = some (.int .i64 a) := over_cell (by rw [cell_of_block k0]; rfl)
  have o_k0_7 : ∀ x, (over w1 x).cell? ⟨w.heap.size, 7, none⟩ = some (.int .i64 b) := over_cell (by rw [cell_of_block k0]; rfl)
  have o_k0_8 : ∀ x, (over w1 x).cell? ⟨w.heap.size, 8, none⟩ = some (.int .i64 i) := over_cell (by rw [cell_of_block k0]; rfl)
  have o_k0_9 : ∀ x, (over w1 x).cell? ⟨w.heap.size, 9, none⟩ = some (.int .u64 u) := over_cell (by rw [cell_of_block k0]; rfl)
  have o_k0_10 : ∀ x, (over w1 x).cell? ⟨w.heap.size, 10, none⟩ = some (.bool raw) := over_cell (by rw [cell_of_block k0]; rfl)
  (refine wp_region_over (by kernel_rfl) (by kernel_rfl) ?_); (repeat (go_big_quiet_step ((first | (go_at_call 21; exact calls_over (hat _ (bchain (over_below w1 _) hb1))))))); (refine wpQuiet_nil ?_)
  intro w2 hb2
  have k0 := bblock hb2 k0
  have kp := bblock hb2 kp
  have hB2 : Below w.heap.size w w2 := bchain hb2 hb1
  clear hb1 hb2 hat o_kp_0 o_kp_1 o_kp_2 o_kp_3 o_kp_4 o_kp_5 o_kp_6 o_kp_7 o_kp_8 o_k0_0 o_k0_1 o_k0_2 o_k0_3 o_k0_4 o_k0_5 o_k0_6 o_k0_7 o_k0_8 o_k0_9 o_k0_10
  have kp_0 : w2.cell? ⟨p, 0, none⟩ = some (.pointer (some ⟨bO, 0, none⟩)) := by rw [cell_of_block kp]; rfl
  have kp_1 : w2.cell? ⟨p, 1, none⟩ = some (.pointer (some ⟨bY, 0, none⟩)) := by rw [cell_of_block kp]; rfl
  have kp_2 : w2.cell? ⟨p, 2, none⟩ = some (.int .i64 0) := by rw [cell_of_block kp]; rfl
  have kp_3 : w2.cell? ⟨p, 3, none⟩ = some (.int .i64 lo) := by rw [cell_of_block kp]; rfl
  have kp_4 : w2.cell? ⟨p, 4, none⟩ = some (.slice aO nO cO) := by rw [cell_of_block kp]; rfl
  have kp_5 : w2.cell? ⟨p, 5, none⟩ = some (.int .i64 16777216) := by rw [cell_of_block kp]; rfl
  have kp_6 : w2.cell? ⟨p, 6, none⟩ = some (.int .i64 ly) := by rw [cell_of_block kp]; rfl
  have kp_7 : w2.cell? ⟨p, 7, none⟩ = some (.slice aY nY cY) := by rw [cell_of_block kp]; rfl
  have kp_8 : w2.cell? ⟨p, 8, none⟩ = some (lv) := by rw [cell_of_block kp]; rfl
  have k0_0 : w2.cell? ⟨w.heap.size, 0, none⟩ = some (.int .i64 0) := by rw [cell_of_block k0]; rfl
  have k0_1 : w2.cell? ⟨w.heap.size, 1, none⟩ = some (.int .i64 k) := by rw [cell_of_block k0]; rfl
  have k0_2 : w2.cell? ⟨w.heap.size, 2, none⟩ = some (.int .i64 c) := by rw [cell_of_block k0]; rfl
  have k0_3 : w2.cell? ⟨w.heap.size, 3, none⟩ = some (.int .i64 f) := by rw [cell_of_block k0]; rfl
  have k0_4 : w2.cell? ⟨w.heap.size, 4, none⟩ = some (.int .i64 m) := by rw [cell_of_block k0]; rfl
  have k0_5 : w2.cell? ⟨w.heap.size, 5, none⟩ = some (.int .i64 s) := by rw [cell_of_block k0]; rfl
  have k0_6 : w2.cell? ⟨w.heap.size, 6, none⟩ = some (.int .i64 a) := by rw [cell_of_block k0]; rfl
  have k0_7 : w2.cell? ⟨w.heap.size, 7, none⟩ = some (.int .i64 b) := by rw [cell_of_block k0]; rfl
  have k0_8 : w2.cell? ⟨w.heap.size, 8, none⟩ = some (.int .i64 i) := by rw [cell_of_block k0]; rfl
  have k0_9 : w2.cell? ⟨w.heap.size, 9, none⟩ = some (.int .u64 u) := by rw [cell_of_block k0]; rfl
  have k0_10 : w2.cell? ⟨w.heap.size, 10, none⟩ = some (.bool raw) := by rw [cell_of_block k0]; rfl
  go_wp2_with fail
  refine (hA _ (hI.mem.old.below hB2)).mono ?_
  rintro e w3 ⟨rfl, hnx⟩
  obtain ⟨gn, hm3, hX3, hg3⟩ := mem_old' (hI.mem.below hB2) hnx hk2
  have hM3 : Mods (MS bO bY gO gY) w w3 := Mods.trans (S := MS bO bY gO gY) (Mods.of_below hB2) hX3 (fun i hi => .inl hi)
  have hR3 := (hI.ref.below hB2).mods hX3 (fun G e => hI.rr G (.inl e)) (fun G e => hI.rr G (.inr (.inl e)))
  have kp := mblock hX3 kp (fun e => Hsep.out p (.inl e) rfl)
  have k0 := mblock hX3 k0 (hI.mem.fresh _ (Nat.le_refl _))
  have hlst3 := row_keep hI.lst (fun G o e ho => mblock hM3 ho (hI.rr G (.inr (.inr e))))
  have h2z := hB2.size
  have hw23 := hX3.size
  have hg : ∀ k, MS bO bY gn gY k → MS bO bY gO gY k ∨ w.heap.size ≤ k := by
    rintro k ((e | e) | e)
    · exact .inl (.inl (.inl e))
    · exact (hg3 k e).elim (fun h => .inl (.inl (.inr h))) (fun h => .inr (by omega))
    · exact .inl (.inr e)
  have Hg := Lib.hid hg
  have Hw3 := Lib.hid (show w.heap.size ≤ w3.heap.size by omega)
  clear hg hg3 hnx hX3 hA hw23 h2z kp_0 kp_1 kp_2 kp_3 kp_4 kp_5 kp_6 kp_7 kp_8 k0_0 k0_1 k0_2 k0_3 k0_4 k0_5 k0_6 k0_7 k0_8 k0_9 k0_10
  have kp_0 : w3.cell? ⟨p, 0, none⟩ = some (.pointer (some ⟨bO, 0, none⟩)) := by rw [cell_of_block kp]; rfl
  have kp_1 : w3.cell? ⟨p, 1, none⟩ = some (.pointer (some ⟨bY, 0, none⟩)) := by rw [cell_of_block kp]; rfl
  have kp_2 : w3.cell? ⟨p, 2, none⟩ = some (.int .i64 0) := by rw [cell_of_block kp]; rfl
  have kp_3 : w3.cell? ⟨p, 3, none⟩ = some (.int .i64 lo) := by rw [cell_of_block kp]; rfl
  have kp_4 : w3.cell? ⟨p, 4, none⟩ = some (.slice aO nO cO) := by rw [cell_of_block kp]; rfl
  have kp_5 : w3.cell? ⟨p, 5, none⟩ = some (.int .i64 16777216) := by rw [cell_of_block kp]; rfl
  have kp_6 : w3.cell? ⟨p, 6, none⟩ = some (.int .i64 ly) := by rw [cell_of_block kp]; rfl
  have kp_7 : w3.cell? ⟨p, 7, none⟩ = some (.slice aY nY cY) := by rw [cell_of_block kp]; rfl
  have kp_8 : w3.cell? ⟨p, 8, none⟩ = some (lv) := by rw [cell_of_block kp]; rfl
  have k0_0 : w3.cell? ⟨w.heap.size, 0, none⟩ = some (.int .i64 0) := by rw [cell_of_block k0]; rfl
  have k0_1 : w3.cell? ⟨w.heap.size, 1, none⟩ = some (.int .i64 k) := by rw [cell_of_block k0]; rfl
  have k0_2 : w3.cell? ⟨w.heap.size, 2, none⟩ = some (.int .i64 c) := by rw [cell_of_block k0]; rfl
  have k0_3 : w3.cell? ⟨w.heap.size, 3, none⟩ = some (.int .i64 f) := by rw [cell_of_block k0]; rfl
  have k0_4 : w3.cell? ⟨w.heap.size, 4, none⟩ = some (.int .i64 m) := by rw [cell_of_block k0]; rfl
  have k0_5 : w3.cell? ⟨w.heap.size, 5, none⟩ = some (.int .i64 s) := by rw [cell_of_block k0]; rfl
  have k0_6 : w3.cell? ⟨w.heap.size, 6, none⟩ = some (.int .i64 a) := by rw [cell_of_block k0]; rfl
  have k0_7 : w3.cell? ⟨w.heap.size, 7, none⟩ = some (.int .i64 b) := by rw [cell_of_block k0]; rfl
  have k0_8 : w3.cell? ⟨w.heap.size, 8, none⟩ = some (.int .i64 i) := by rw [cell_of_block k0]; rfl
  have k0_9 : w3.cell? ⟨w.heap.size, 9, none⟩ = some (.int .u64 u) := by rw [cell_of_block k0]; rfl
  have k0_10 : w3.cell? ⟨w.heap.size, 10, none⟩ = some (.bool raw) := by rw [cell_of_block k0]; rfl
  have hBa : Below w3.heap.size w3 (w3.alloc (.cells #[.int .i64 0, .int .i64 0, .slice none 0 0, .int .i64 0, .int .i64 0, .slice none 0 0] 35)).drew := (balloc (Below.refl _ _) _).drew
  have hBb : Below w3.heap.size w3 w3.drew := (Below.refl _ _).drew
  have hRa := hR3.below hBa
  have hRb := hR3.below hBb
  have hw2p : w.heap.size ≤ w3.heap.size := Hw3.out
  have hwz : w.heap.size < w3.heap.size := (Array.getElem?_eq_some_iff.1 k0).1
  have hwp : p < w3.heap.size := (Array.getElem?_eq_some_iff.1 kp).1
  have hne_k0 : w.heap.size ≠ w3.heap.size := by omega
  have hne_kp : p ≠ w3.heap.size := by omega
  go_wp2_with fail
  go_region_held3 (fun w' => w'.cell? ⟨p, 2, none⟩ = some (.int .i64 0) ∧ w'.cell? ⟨p, 3, none⟩ = some (.int .i64 lo) ∧ w'.cell? ⟨p, 4, none⟩ = some (.slice aO nO cO) ∧ w'.cell? ⟨p, 5, none⟩ = some (.int .i64 16777216) ∧ w'.cell? ⟨p, 6, none⟩ = some (.int .i64 ly) ∧ w'.cell? ⟨p, 7, none⟩ = some (.slice aY nY cY) ∧ w'.cell? ⟨w.heap.size, 0, none⟩ = some (.int .i64 0) ∧ w'.cell? ⟨w.heap.size, 1, none⟩ = some (.int .i64 k) ∧ w'.cell? ⟨w.heap.size, 2, none⟩ = some (.int .i64 c) ∧ w'.cell? ⟨w.heap.size, 3, none⟩ = some (.int .i64 f) ∧ w'.cell? ⟨w.heap.size, 4, none⟩ = some (.int .i64 m) ∧ w'.cell? ⟨w.heap.size, 5, none⟩ = some (.int .i64 s)) (first | (with_reducible exact ⟨kp_2, kp_3, kp_4, kp_5, kp_6, kp_7, k0_0, k0_1, k0_2, k0_3, k0_4, k0_5⟩) | (with_reducible exact ⟨six_cell kp_2 hne_kp, six_cell kp_3 hne_kp, six_cell kp_4 hne_kp, six_cell kp_5 hne_kp, six_cell kp_6 hne_kp, six_cell kp_7 hne_kp, six_cell k0_0 hne_k0, six_cell k0_1 hne_k0, six_cell k0_2 hne_k0, six_cell k0_3 hne_k0, six_cell k0_4 hne_k0, six_cell k0_5 hne_k0⟩) | go_keep) (first | (go_at_call 14; (with_reducible refine (hR _ hRa).mono ?_); rintro e w4 ⟨aO', nO', cO', aY', nY', cY', rO', rY', rfl, hr3, hg1, hg2, hb3⟩; have Hg1 := Lib.hid hg1; have Hg2 := Lib.hid hg2; clear hg1 hg2; have kp_2 := bcellv hb3 (show (w3.alloc (.cells #[.int .i64 0, .int .i64 0, .slice none 0 0, .int .i64 0, .int .i64 0, .slice none 0 0] 35)).drew.cell? _ = _ from bcellv (balloc (Below.refl _ w3) _) kp_2); have kp_3 := bcellv hb3 (show (w3.alloc (.cells #[.int .i64 0, .int .i64 0, .slice none 0 0, .int .i64 0, .int .i64 0, .slice none 0 0] 35)).drew.cell? _ = _ from bcellv (balloc (Below.refl _ w3) _) kp_3); have kp_4 := bcellv hb3 (show (w3.alloc (.cells #[.int .i64 0, .int .i64 0, .slice none 0 0, .int .i64 0, .int .i64 0, .slice none 0 0] 35)).drew.cell? _ = _ from bcellv (balloc (Below.refl _ w3) _) kp_4); have kp_5 := bcellv hb3 (show (w3.alloc (.cells #[.int .i64 0, .int .i64 0, .slice none 0 0, .int .i64 0, .int .i64 0, .slice none 0 0] 35)).drew.cell? _ = _ from bcellv (balloc (Below.refl _ w3) _) kp_5); have kp_6 := bcellv hb3 (show (w3.alloc (.cells #[.int .i64 0, .int .i64 0, .slice none 0 0, .int .i64 0, .int .i64 0, .slice none 0 0] 35)).drew.cell? _ = _ from bcellv (balloc (Below.refl _ w3) _) kp_6); have kp_7 := bcellv hb3 (show (w3.alloc (.cells #[.int .i64 0, .int .i64 0, .slice none 0 0, .int .i64 0, .int .i64 0, .slice none 0 0] 35)).drew.cell? _ = _ from bcellv (balloc (Below.refl _ w3) _) kp_7); have k0_0 := bcellv hb3 (show (w3.alloc (.cells #[.int .i64 0, .int .i64 0, .slice none 0 0, .int .i64 0, .int .i64 0, .slice none 0 0] 35)).drew.cell? _ = _ from bcellv (balloc (Below.refl _ w3) _) k0_0); have k0_1 := bcellv hb3 (show (w3.alloc (.cells #[.int .i64 0, .int .i64 0, .slice none 0 0, .int .i64 0, .int .i64 0, .slice none 0 0] 35)).drew.cell? _ = _ from bcellv (balloc (Below.refl _ w3) _) k0_1); have k0_2 := bcellv hb3 (show (w3.alloc (.cells #[.int .i64 0, .int .i64 0, .slice none 0 0, .int .i64 0, .int .i64 0, .slice none 0 0] 35)).drew.cell? _ = _ from bcellv (balloc (Below.refl _ w3) _) k0_2); have k0_3 := bcellv hb3 (show (w3.alloc (.cells #[.int .i64 0, .int .i64 0, .slice none 0 0, .int .i64 0, .int .i64 0, .slice none 0 0] 35)).drew.cell? _ = _ from bcellv (balloc (Below.refl _ w3) _) k0_3); have k0_4 := bcellv hb3 (show (w3.alloc (.cells #[.int .i64 0, .int .i64 0, .slice none 0 0, .int .i64 0, .int .i64 0, .slice none 0 0] 35)).drew.cell? _ = _ from bcellv (balloc (Below.refl _ w3) _) k0_4); have k0_5 := bcellv hb3 (show (w3.alloc (.cells #[.int .i64 0, .int .i64 0, .slice none 0 0, .int .i64 0, .int .i64 0, .slice none 0 0] 35)).drew.cell? _ = _ from bcellv (balloc (Below.refl _ w3) _) k0_5); have kp := bblock hb3 (show (w3.alloc (.cells #[.int .i64 0, .int .i64 0, .slice none 0 0, .int .i64 0, .int .i64 0, .slice none 0 0] 35)).drew.heap[_]? = _ from alloc_lt _ kp); have k0 := bblock hb3 (show (w3.alloc (.cells #[.int .i64 0, .int .i64 0, .slice none 0 0, .int .i64 0, .int .i64 0, .slice none 0 0] 35)).drew.heap[_]? = _ from alloc_lt _ k0); have kv := bblock hb3 (show (w3.alloc (.cells #[.int .i64 0, .int .i64 0, .slice none 0 0, .int .i64 0, .int .i64 0, .slice none 0 0] 35)).drew.heap[_]? = _ from alloc_get w3 _); have kv_f : ∀ i, w4.frozen? ⟨w3.heap.size, i, none⟩ = false := frozen_of_block kv; have hzv : w3.heap.size < w4.heap.size := (Array.getElem?_eq_some_iff.1 kv).1; have kv_0 : w4.cell? ⟨w3.heap.size, 0, none⟩ = some (.int .i64 0) := (by rw [cell_of_block kv]; rfl); have kv_1 : w4.cell? ⟨w3.heap.size, 1, none⟩ = some (.int .i64 0) := (by rw [cell_of_block kv]; rfl); have kv_2 : w4.cell? ⟨w3.heap.size, 2, none⟩ = some (.slice none 0 0) := (by rw [cell_of_block kv]; rfl); have kv_3 : w4.cell? ⟨w3.heap.size, 3, none⟩ = some (.int .i64 0) := (by rw [cell_of_block kv]; rfl); have kv_4 : w4.cell? ⟨w3.heap.size, 4, none⟩ = some (.int .i64 0) := (by rw [cell_of_block kv]; rfl); have kv_5 : w4.cell? ⟨w3.heap.size, 5, none⟩ = some (.slice none 0 0) := (by rw [cell_of_block kv]; rfl)) | (go_at_call 14; (with_reducible refine (hR _ hRb).mono ?_); rintro e w4 ⟨aO', nO', cO', aY', nY', cY', rO', rY', rfl, hr3, hg1, hg2, hb3⟩; have Hg1 := Lib.hid hg1; have Hg2 := Lib.hid hg2; clear hg1 hg2; have kp_2 := bcellv hb3 (show w3.drew.cell? _ = _ from kp_2); have kp_3 := bcellv hb3 (show w3.drew.cell? _ = _ from kp_3); have kp_4 := bcellv hb3 (show w3.drew.cell? _ = _ from kp_4); have kp_5 := bcellv hb3 (show w3.drew.cell? _ = _ from kp_5); have kp_6 := bcellv hb3 (show w3.drew.cell? _ = _ from kp_6); have kp_7 := bcellv hb3 (show w3.drew.cell? _ = _ from kp_7); have k0_0 := bcellv hb3 (show w3.drew.cell? _ = _ from k0_0); have k0_1 := bcellv hb3 (show w3.drew.cell? _ = _ from k0_1); have k0_2 := bcellv hb3 (show w3.drew.cell? _ = _ from k0_2); have k0_3 := bcellv hb3 (show w3.drew.cell? _ = _ from k0_3); have k0_4 := bcellv hb3 (show w3.drew.cell? _ = _ from k0_4); have k0_5 := bcellv hb3 (show w3.drew.cell? _ = _ from k0_5); have kp := bblock hb3 (show w3.drew.heap[_]? = _ from kp); have k0 := bblock hb3 (show w3.drew.heap[_]? = _ from k0)))
  all_goals clear hR hR3 hRa hRb
  · have hg1 := Hg1.out
    have hg2 := Hg2.out
    have hz3 : w3.heap.size ≤ w4.heap.size := hb3.size
    have hB3 : Below w3.heap.size w3 w4 := bchain hb3 hBb
    have hg1 : ∀ G, rO' = some G → rO = some G ∨ w3.heap.size ≤ G := fun G e => (hg1 G e).imp id (fun h => by have : w3.drew.heap.size = w3.heap.size := rfl; omega)
    have hg2 : ∀ G, rY' = some G → rY = some G ∨ w3.heap.size ≤ G := fun G e => (hg2 G e).imp id (fun h => by have : w3.drew.heap.size = w3.heap.size := rfl; omega)
    have hB4 : Below w3.heap.size w3 (w4.alloc (.cells #[.int .i64 0, .int .i64 lo, .slice aO' nO' cO', .int .i64 16777216, .int .i64 ly, .slice aY' nY' cY'] 35)) := hB3.alloc hB3.size _
    have hr4 := hr3.below (balloc (Below.refl _ w4) (.cells #[.int .i64 0, .int .i64 lo, .slice aO' nO' cO', .int .i64 16777216, .int .i64 ly, .slice aY' nY' cY'] 35))
    have kv : (w4.alloc (.cells #[.int .i64 0, .int .i64 lo, .slice aO' nO' cO', .int .i64 16777216, .int .i64 ly, .slice aY' nY' cY'] 35)).heap[w4.heap.size]? = some (.cells #[.int .i64 0, .int .i64 lo, .slice aO' nO' cO', .int .i64 16777216, .int .i64 ly, .slice aY' nY' cY'] 35 (0, 0)) := alloc_get _ _
    have kp : (w4.alloc (.cells #[.int .i64 0, .int .i64 lo, .slice aO' nO' cO', .int .i64 16777216, .int .i64 ly, .slice aY' nY' cY'] 35)).heap[p]? = _ := alloc_lt _ kp
    have k0 : (w4.alloc (.cells #[.int .i64 0, .int .i64 lo, .slice aO' nO' cO', .int .i64 16777216, .int .i64 ly, .slice aY' nY' cY'] 35)).heap[w.heap.size]? = _ := alloc_lt _ k0
    have hpV : p ≠ w4.heap.size := by omega
    have h0V : w.heap.size ≠ w4.heap.size := by omega
    have hzV := (Array.getElem?_eq_some_iff.1 kv).1
    obtain ⟨V, hV⟩ : ∃ V, w4.heap.size = V := ⟨_, rfl⟩
    obtain ⟨w5, hw4⟩ : ∃ w5, (w4.alloc (.cells #[.int .i64 0, .int .i64 lo, .slice aO' nO' cO', .int .i64 16777216, .int .i64 ly, .slice aY' nY' cY'] 35)) = w5 := ⟨_, rfl⟩
    rw [hw4] at hr4 hB4 kv kp k0 hzV ⊢
    rw [hV] at kv hpV h0V hzV ⊢
    clear hw4 hV hr3 hb3 hB3 Hg1 Hg2 hBa hBb kp_0 kp_1 kp_2 kp_3 kp_4 kp_5 kp_6 kp_7 kp_8 k0_0 k0_1 k0_2 k0_3 k0_4 k0_5 k0_6 k0_7 k0_8 k0_9 k0_10
    have kp_0 : w5.cell? ⟨p, 0, none⟩ = some (.pointer (some ⟨bO, 0, none⟩)) := by rw [cell_of_block kp]; rfl
    have kp_1 : w5.cell? ⟨p, 1, none⟩ = some (.pointer (some ⟨bY, 0, none⟩)) := by rw [cell_of_block kp]; rfl
    have kp_2 : w5.cell? ⟨p, 2, none⟩ = some (.int .i64 0) := by rw [cell_of_block kp]; rfl
    have kp_3 : w5.cell? ⟨p, 3, none⟩ = some (.int .i64 lo) := by rw [cell_of_block kp]; rfl
    have kp_4 : w5.cell? ⟨p, 4, none⟩ = some (.slice aO nO cO) := by rw [cell_of_block kp]; rfl
    have kp_5 : w5.cell? ⟨p, 5, none⟩ = some (.int .i64 16777216) := by rw [cell_of_block kp]; rfl
    have kp_6 : w5.cell? ⟨p, 6, none⟩ = some (.int .i64 ly) := by rw [cell_of_block kp]; rfl
    have kp_7 : w5.cell? ⟨p, 7, none⟩ = some (.slice aY nY cY) := by rw [cell_of_block kp]; rfl
    have kp_8 : w5.cell? ⟨p, 8, none⟩ = some (lv) := by rw [cell_of_block kp]; rfl
    have kp_f : ∀ i, w5.frozen? ⟨p, i, none⟩ = false := frozen_of_block kp
    have k0_0 : w5.cell? ⟨w.heap.size, 0, none⟩ = some (.int .i64 0) := by rw [cell_of_block k0]; rfl
    have k0_1 : w5.cell? ⟨w.heap.size, 1, none⟩ = some (.int .i64 k) := by rw [cell_of_block k0]; rfl
    have k0_2 : w5.cell? ⟨w.heap.size, 2, none⟩ = some (.int .i64 c) := by rw [cell_of_block k0]; rfl
    have k0_3 : w5.cell? ⟨w.heap.size, 3, none⟩ = some (.int .i64 f) := by rw [cell_of_block k0]; rfl
    have k0_4 : w5.cell? ⟨w.heap.size, 4, none⟩ = some (.int .i64 m) := by rw [cell_of_block k0]; rfl
    have k0_5 : w5.cell? ⟨w.heap.size, 5, none⟩ = some (.int .i64 s) := by rw [cell_of_block k0]; rfl
    have k0_6 : w5.cell? ⟨w.heap.size, 6, none⟩ = some (.int .i64 a) := by rw [cell_of_block k0]; rfl
    have k0_7 : w5.cell? ⟨w.heap.size, 7, none⟩ = some (.int .i64 b) := by rw [cell_of_block k0]; rfl
    have k0_8 : w5.cell? ⟨w.heap.size, 8, none⟩ = some (.int .i64 i) := by rw [cell_of_block k0]; rfl
    have k0_9 : w5.cell? ⟨w.heap.size, 9, none⟩ = some (.int .u64 u) := by rw [cell_of_block k0]; rfl
    have k0_10 : w5.cell? ⟨w.heap.size, 10, none⟩ = some (.bool raw) := by rw [cell_of_block k0]; rfl
    have kv_0 : w5.cell? ⟨V, 0, none⟩ = some (.int .i64 0) := by rw [cell_of_block kv]; rfl
    have kv_1 : w5.cell? ⟨V, 1, none⟩ = some (.int .i64 lo) := by rw [cell_of_block kv]; rfl
    have kv_2 : w5.cell? ⟨V, 2, none⟩ = some (.slice aO' nO' cO') := by rw [cell_of_block kv]; rfl
    have kv_3 : w5.cell? ⟨V, 3, none⟩ = some (.int .i64 16777216) := by rw [cell_of_block kv]; rfl
    have kv_4 : w5.cell? ⟨V, 4, none⟩ = some (.int .i64 ly) := by rw [cell_of_block kv]; rfl
    have kv_5 : w5.cell? ⟨V, 5, none⟩ = some (.slice aY' nY' cY') := by rw [cell_of_block kv]; rfl
    have hzp : p < w5.heap.size := (Array.getElem?_eq_some_iff.1 kp).1
    have hz0 : w.heap.size < w5.heap.size := (Array.getElem?_eq_some_iff.1 k0).1
    go_upto_region 11 with fail
    have hM5 : Mods (fun k => k = p) w5 ((((((w5.setCell ⟨p, 2, none⟩ (.int .i64 0)).setCell ⟨p, 3, none⟩ (.int .i64 lo)).setCell ⟨p, 4, none⟩ (.slice aO' nO' cO')).setCell ⟨p, 5, none⟩ (.int .i64 16777216)).setCell ⟨p, 6, none⟩ (.int .i64 ly)).setCell ⟨p, 7, none⟩ (.slice aY' nY' cY')) := six_off_mods
    have kp5 : ((((((w5.setCell ⟨p, 2, none⟩ (.int .i64 0)).setCell ⟨p, 3, none⟩ (.int .i64 lo)).setCell ⟨p, 4, none⟩ (.slice aO' nO' cO')).setCell ⟨p, 5, none⟩ (.int .i64 16777216)).setCell ⟨p, 6, none⟩ (.int .i64 ly)).setCell ⟨p, 7, none⟩ (.slice aY' nY' cY')).heap[p]? = some (.cells #[.pointer (some ⟨bO, 0, none⟩), .pointer (some ⟨bY, 0, none⟩), .int .i64 0, .int .i64 lo, .slice aO' nO' cO', .int .i64 16777216, .int .i64 ly, .slice aY' nY' cY', lv] 47 (0, 0)) := six_off kp
    have hlst6 : World.ownsRow ((((((w5.setCell ⟨p, 2, none⟩ (.int .i64 0)).setCell ⟨p, 3, none⟩ (.int .i64 lo)).setCell ⟨p, 4, none⟩ (.slice aO' nO' cO')).setCell ⟨p, 5, none⟩ (.int .i64 16777216)).setCell ⟨p, 6, none⟩ (.int .i64 ly)).setCell ⟨p, 7, none⟩ (.slice aY' nY' cY')) n0 3 1 lv x.l.length (x.l.map (Value.int .i64)) := row_keep hlst3 (fun G o e ho => mblock hM5 (bblock hB4 ho) (Hsep.out G (.inr (.inr (.inr e)))))
    obtain ⟨w6, hw6⟩ : ∃ w6, ((((((w5.setCell ⟨p, 2, none⟩ (.int .i64 0)).setCell ⟨p, 3, none⟩ (.int .i64 lo)).setCell ⟨p, 4, none⟩ (.slice aO' nO' cO')).setCell ⟨p, 5, none⟩ (.int .i64 16777216)).setCell ⟨p, 6, none⟩ (.int .i64 ly)).setCell ⟨p, 7, none⟩ (.slice aY' nY' cY')) = w6 := ⟨_, rfl⟩
    rw [hw6] at hM5 kp5 hlst6 ⊢
    clear hw6 kp_0 kp_1 kp_2 kp_3 kp_4 kp_5 kp_6 kp_7 kp_8 k0_0 k0_1 k0_2 k0_3 k0_4 k0_5 k0_6 k0_7 k0_8 k0_9 k0_10 kv_0 kv_1 kv_2 kv_3 kv_4 kv_5 kp_f kp k0 kv
    obtain ⟨i0, hi, hiz0, hiz1, hiz2⟩ := info_parts int7_info
    have hml : maxLen = 9223372036854775807 := rfl
    have hc8 : w6.cell? ⟨p, 8, none⟩ = some lv := by rw [cell_of_block kp5]; rfl
    have hp6 : p < w6.heap.size := (Array.getElem?_eq_some_iff.1 kp5).1
    have hz5p : n0 ≤ w6.heap.size := by omega
    have hz56 : w5.heap.size ≤ w6.heap.size := hM5.size
    have hrow : (w6.alloc (.cells #[.int .i64 ra] 3)).ownsRow n0 3 1 lv x.l.length (x.l.map (Value.int .i64)) := hlst6.alloc _
    have Kp5 := Lib.hid kp5
    go_wp2_with (at_builtin; refine wpList_append_lies _ rfl _ _ 45 rfl n0 3 i0 (.int .i64 0) 1 8 Try.underlying45 hi hiz0 hiz1 hiz2 rfl (by decide) _ _ _ rfl hrow ⟨w6.heap.size, 0, none⟩ 1 1 [.int .i64 ra] rfl rfl (cell_one_new _ _ _) (by simp [Value.oneCell']) (by omega) (by omega) (by omega) (by simp; omega) (w6.heap.size + 1) (by simp) ?_; intro g7 c7 w7 hown7 hgr7 hat7 hlt7; have kp7 := (hgr7.block p (by simp; omega) (fun e => Hsep.out p (.inr (.inr (.inr e.symm))) rfl)).trans (alloc_lt _ Kp5.out); have kp7_f : ∀ i, w7.frozen? ⟨p, i, none⟩ = false := frozen_of_block kp7; have kp7_8 : w7.cell? ⟨p, 8, none⟩ = some lv := (by rw [cell_of_block kp7]; rfl); have hp7 : p < w7.heap.size := (Array.getElem?_eq_some_iff.1 kp7).1)
    go_ret
    have hz67 : w6.heap.size ≤ w7.heap.size := by have := hgr7.size; simp at this; omega
    have hv7 : ∀ G, (Value.slice (some ⟨g7, 0, none⟩) (x.l.length + 1) c7).ownBlock = some G → lv.ownBlock = some G ∨ w5.heap.size ≤ G := fun G e => by
      simp only [Value.ownBlock, Option.some.injEq] at e
      subst e
      rcases hat7 with h | h
      · exact .inl h
      · exact .inr (by omega)
    have hMz : Mods (fun k => k = p ∨ lv.ownBlock = some k) w5 (w7.setCell ⟨p, 8, none⟩ (.slice (some ⟨g7, 0, none⟩) (x.l.length + 1) c7)) := by
      refine Mods.setCell ?_ (.inl (.inl rfl)) _
      refine Mods.trans (S1 := fun k => lv.ownBlock = some k) (Mods.alloc (hM5.mono (fun k e => .inl e)) (.cells #[.int .i64 ra] 3)) (mods_grown hgr7) (fun i hi => .inl (.inr hi))
    have hlz := row_keep (w' := w7.setCell ⟨p, 8, none⟩ (.slice (some ⟨g7, 0, none⟩) (x.l.length + 1) c7)) (lst_snoc hown7) (fun G o e ho => set_other ho (fun hq => by
      subst hq
      rcases hv7 G e with h | h
      · exact Hsep.out G (.inr (.inr (.inr h))) rfl
      · omega))
    exact ⟨rfl, WAt.finA (l' := x.l ++ [ra]) (lv' := .slice (some ⟨g7, 0, none⟩) (x.l.length + 1) c7) hI hn hp0 hp1 Hsep.out hM3 hm3 Hg.out hB4 hr4 hg1 hg2 hMz hlz hv7 (block_set kp7)⟩
  · have hg1 := Hg1.out
    have hg2 := Hg2.out
    have hB3 : Below w3.heap.size w3 w4 := bchain hb3 hBa
    have hzd : (w3.alloc (.cells #[.int .i64 0, .int .i64 0, .slice none 0 0, .int .i64 0, .int .i64 0, .slice none 0 0] 35)).drew.heap.size = w3.heap.size + 1 := World.size_alloc _ _
    rw [hzd] at hg1 hg2
    have hw33 := Hw3.out
    have hlt1 := fun G e => hI.lt G (.inr (.inl e))
    have hlt2 := fun G e => hI.lt G (.inr (.inr (.inl e)))
    have hr4 := hr3.mods (six_mods (j := w3.heap.size) (b0 := .int .i64 0) (b1 := .int .i64 lo) (b2 := .slice aO' nO' cO') (b3 := .int .i64 16777216) (b4 := .int .i64 ly) (b5 := .slice aY' nY' cY')) (fun G e => by rcases hg1 G e with h | h; (have := hlt1 G h; omega); omega) (fun G e => by rcases hg2 G e with h | h; (have := hlt2 G h; omega); omega)
    have hg1 : ∀ G, rO' = some G → rO = some G ∨ w3.heap.size ≤ G := fun G e => (hg1 G e).imp id (fun h => by omega)
    have hg2 : ∀ G, rY' = some G → rY = some G ∨ w3.heap.size ≤ G := fun G e => (hg2 G e).imp id (fun h => by omega)
    have hB4 : Below w3.heap.size w3 ((((((w4.setCell ⟨w3.heap.size, 0, none⟩ (.int .i64 0)).setCell ⟨w3.heap.size, 1, none⟩ (.int .i64 lo)).setCell ⟨w3.heap.size, 2, none⟩ (.slice aO' nO' cO')).setCell ⟨w3.heap.size, 3, none⟩ (.int .i64 16777216)).setCell ⟨w3.heap.size, 4, none⟩ (.int .i64 ly)).setCell ⟨w3.heap.size, 5, none⟩ (.slice aY' nY' cY')) := (Mods.trans (S := fun k => w3.heap.size ≤ k) (Mods.of_below hB3) six_mods (fun i hi => .inl (by omega))).below (Nat.le_refl _) (fun k hk => hk)
    have kv : ((((((w4.setCell ⟨w3.heap.size, 0, none⟩ (.int .i64 0)).setCell ⟨w3.heap.size, 1, none⟩ (.int .i64 lo)).setCell ⟨w3.heap.size, 2, none⟩ (.slice aO' nO' cO')).setCell ⟨w3.heap.size, 3, none⟩ (.int .i64 16777216)).setCell ⟨w3.heap.size, 4, none⟩ (.int .i64 ly)).setCell ⟨w3.heap.size, 5, none⟩ (.slice aY' nY' cY')).heap[w3.heap.size]? = some (.cells #[.int .i64 0, .int .i64 lo, .slice aO' nO' cO', .int .i64 16777216, .int .i64 ly, .slice aY' nY' cY'] 35 (0, 0)) := set6 kv
    have kp : ((((((w4.setCell ⟨w3.heap.size, 0, none⟩ (.int .i64 0)).setCell ⟨w3.heap.size, 1, none⟩ (.int .i64 lo)).setCell ⟨w3.heap.size, 2, none⟩ (.slice aO' nO' cO')).setCell ⟨w3.heap.size, 3, none⟩ (.int .i64 16777216)).setCell ⟨w3.heap.size, 4, none⟩ (.int .i64 ly)).setCell ⟨w3.heap.size, 5, none⟩ (.slice aY' nY' cY')).heap[p]? = _ := six_other kp hne_kp
    have k0 : ((((((w4.setCell ⟨w3.heap.size, 0, none⟩ (.int .i64 0)).setCell ⟨w3.heap.size, 1, none⟩ (.int .i64 lo)).setCell ⟨w3.heap.size, 2, none⟩ (.slice aO' nO' cO')).setCell ⟨w3.heap.size, 3, none⟩ (.int .i64 16777216)).setCell ⟨w3.heap.size, 4, none⟩ (.int .i64 ly)).setCell ⟨w3.heap.size, 5, none⟩ (.slice aY' nY' cY')).heap[w.heap.size]? = _ := six_other k0 hne_k0
    have hpV : p ≠ w3.heap.size := hne_kp
    have h0V : w.heap.size ≠ w3.heap.size := hne_k0
    clear hzd hlt1 hlt2
    have hzV := (Array.getElem?_eq_some_iff.1 kv).1
    obtain ⟨V, hV⟩ : ∃ V, w3.heap.size = V := ⟨_, rfl⟩
    obtain ⟨w5, hw4⟩ : ∃ w5, ((((((w4.setCell ⟨w3.heap.size, 0, none⟩ (.int .i64 0)).setCell ⟨w3.heap.size, 1, none⟩ (.int .i64 lo)).setCell ⟨w3.heap.size, 2, none⟩ (.slice aO' nO' cO')).setCell ⟨w3.heap.size, 3, none⟩ (.int .i64 16777216)).setCell ⟨w3.heap.size, 4, none⟩ (.int .i64 ly)).setCell ⟨w3.heap.size, 5, none⟩ (.slice aY' nY' cY')) = w5 := ⟨_, rfl⟩
    rw [hw4] at hr4 hB4 kv kp k0 hzV ⊢
    rw [hV] at kv hpV h0V hzV ⊢
    clear hw4 hV hr3 hb3 hB3 Hg1 Hg2 hBa hBb kp_0 kp_1 kp_2 kp_3 kp_4 kp_5 kp_6 kp_7 kp_8 k0_0 k0_1 k0_2 k0_3 k0_4 k0_5 k0_6 k0_7 k0_8 k0_9 k0_10 kv_f hzv kv_0 kv_1 kv_2 kv_3 kv_4 kv_5
    have kp_0 : w5.cell? ⟨p, 0, none⟩ = some (.pointer (some ⟨bO, 0, none⟩)) := by rw [cell_of_block kp]; rfl
    have kp_1 : w5.cell? ⟨p, 1, none⟩ = some (.pointer (some ⟨bY, 0, none⟩)) := by rw [cell_of_block kp]; rfl
    have kp_2 : w5.cell? ⟨p, 2, none⟩ = some (.int .i64 0) := by rw [cell_of_block kp]; rfl
    have kp_3 : w5.cell? ⟨p, 3, none⟩ = some (.int .i64 lo) := by rw [cell_of_block kp]; rfl
    have kp_4 : w5.cell? ⟨p, 4, none⟩ = some (.slice aO nO cO) := by rw [cell_of_block kp]; rfl
    have kp_5 : w5.cell? ⟨p, 5, none⟩ = some (.int .i64 16777216) := by rw [cell_of_block kp]; rfl
    have kp_6 : w5.cell? ⟨p, 6, none⟩ = some (.int .i64 ly) := by rw [cell_of_block kp]; rfl
    have kp_7 : w5.cell? ⟨p, 7, none⟩ = some (.slice aY nY cY) := by rw [cell_of_block kp]; rfl
    have kp_8 : w5.cell? ⟨p, 8, none⟩ = some (lv) := by rw [cell_of_block kp]; rfl
    have kp_f : ∀ i, w5.frozen? ⟨p, i, none⟩ = false := frozen_of_block kp
    have k0_0 : w5.cell? ⟨w.heap.size, 0, none⟩ = some (.int .i64 0) := by rw [cell_of_block k0]; rfl
    have k0_1 : w5.cell? ⟨w.heap.size, 1, none⟩ = some (.int .i64 k) := by rw [cell_of_block k0]; rfl
    have k0_2 : w5.cell? ⟨w.heap.size, 2, none⟩ = some (.int .i64 c) := by rw [cell_of_block k0]; rfl
    have k0_3 : w5.cell? ⟨w.heap.size, 3, none⟩ = some (.int .i64 f) := by rw [cell_of_block k0]; rfl
    have k0_4 : w5.cell? ⟨w.heap.size, 4, none⟩ = some (.int .i64 m) := by rw [cell_of_block k0]; rfl
    have k0_5 : w5.cell? ⟨w.heap.size, 5, none⟩ = some (.int .i64 s) := by rw [cell_of_block k0]; rfl
    have k0_6 : w5.cell? ⟨w.heap.size, 6, none⟩ = some (.int .i64 a) := by rw [cell_of_block k0]; rfl
    have k0_7 : w5.cell? ⟨w.heap.size, 7, none⟩ = some (.int .i64 b) := by rw [cell_of_block k0]; rfl
    have k0_8 : w5.cell? ⟨w.heap.size, 8, none⟩ = some (.int .i64 i) := by rw [cell_of_block k0]; rfl
    have k0_9 : w5.cell? ⟨w.heap.size, 9, none⟩ = some (.int .u64 u) := by rw [cell_of_block k0]; rfl
    have k0_10 : w5.cell? ⟨w.heap.size, 10, none⟩ = some (.bool raw) := by rw [cell_of_block k0]; rfl
    have kv_0 : w5.cell? ⟨V, 0, none⟩ = some (.int .i64 0) := by rw [cell_of_block kv]; rfl
    have kv_1 : w5.cell? ⟨V, 1, none⟩ = some (.int .i64 lo) := by rw [cell_of_block kv]; rfl
    have kv_2 : w5.cell? ⟨V, 2, none⟩ = some (.slice aO' nO' cO') := by rw [cell_of_block kv]; rfl
    have kv_3 : w5.cell? ⟨V, 3, none⟩ = some (.int .i64 16777216) := by rw [cell_of_block kv]; rfl
    have kv_4 : w5.cell? ⟨V, 4, none⟩ = some (.int .i64 ly) := by rw [cell_of_block kv]; rfl
    have kv_5 : w5.cell? ⟨V, 5, none⟩ = some (.slice aY' nY' cY') := by rw [cell_of_block kv]; rfl
    have hzp : p < w5.heap.size := (Array.getElem?_eq_some_iff.1 kp).1
    have hz0 : w.heap.size < w5.heap.size := (Array.getElem?_eq_some_iff.1 k0).1
    go_upto_region 11 with fail
    have hM5 : Mods (fun k => k = p) w5 ((((((w5.setCell ⟨p, 2, none⟩ (.int .i64 0)).setCell ⟨p, 3, none⟩ (.int .i64 lo)).setCell ⟨p, 4, none⟩ (.slice aO' nO' cO')).setCell ⟨p, 5, none⟩ (.int .i64 16777216)).setCell ⟨p, 6, none⟩ (.int .i64 ly)).setCell ⟨p, 7, none⟩ (.slice aY' nY' cY')) := six_off_mods
    have kp5 : ((((((w5.setCell ⟨p, 2, none⟩ (.int .i64 0)).setCell ⟨p, 3, none⟩ (.int .i64 lo)).setCell ⟨p, 4, none⟩ (.slice aO' nO' cO')).setCell ⟨p, 5, none⟩ (.int .i64 16777216)).setCell ⟨p, 6, none⟩ (.int .i64 ly)).setCell ⟨p, 7, none⟩ (.slice aY' nY' cY')).heap[p]? = some (.cells #[.pointer (some ⟨bO, 0, none⟩), .pointer (some ⟨bY, 0, none⟩), .int .i64 0, .int .i64 lo, .slice aO' nO' cO', .int .i64 16777216, .int .i64 ly, .slice aY' nY' cY', lv] 47 (0, 0)) := six_off kp
    have hlst6 : World.ownsRow ((((((w5.setCell ⟨p, 2, none⟩ (.int .i64 0)).setCell ⟨p, 3, none⟩ (.int .i64 lo)).setCell ⟨p, 4, none⟩ (.slice aO' nO' cO')).setCell ⟨p, 5, none⟩ (.int .i64 16777216)).setCell ⟨p, 6, none⟩ (.int .i64 ly)).setCell ⟨p, 7, none⟩ (.slice aY' nY' cY')) n0 3 1 lv x.l.length (x.l.map (Value.int .i64)) := row_keep hlst3 (fun G o e ho => mblock hM5 (bblock hB4 ho) (Hsep.out G (.inr (.inr (.inr e)))))
    obtain ⟨w6, hw6⟩ : ∃ w6, ((((((w5.setCell ⟨p, 2, none⟩ (.int .i64 0)).setCell ⟨p, 3, none⟩ (.int .i64 lo)).setCell ⟨p, 4, none⟩ (.slice aO' nO' cO')).setCell ⟨p, 5, none⟩ (.int .i64 16777216)).setCell ⟨p, 6, none⟩ (.int .i64 ly)).setCell ⟨p, 7, none⟩ (.slice aY' nY' cY')) = w6 := ⟨_, rfl⟩
    rw [hw6] at hM5 kp5 hlst6 ⊢
    clear hw6 kp_0 kp_1 kp_2 kp_3 kp_4 kp_5 kp_6 kp_7 kp_8 k0_0 k0_1 k0_2 k0_3 k0_4 k0_5 k0_6 k0_7 k0_8 k0_9 k0_10 kv_0 kv_1 kv_2 kv_3 kv_4 kv_5 kp_f kp k0 kv
    obtain ⟨i0, hi, hiz0, hiz1, hiz2⟩ := info_parts int7_info
    have hml : maxLen = 9223372036854775807 := rfl
    have hc8 : w6.cell? ⟨p, 8, none⟩ = some lv := by rw [cell_of_block kp5]; rfl
    have hp6 : p < w6.heap.size := (Array.getElem?_eq_some_iff.1 kp5).1
    have hz5p : n0 ≤ w6.heap.size := by omega
    have hz56 : w5.heap.size ≤ w6.heap.size := hM5.size
    have hrow : (w6.alloc (.cells #[.int .i64 ra] 3)).ownsRow n0 3 1 lv x.l.length (x.l.map (Value.int .i64)) := hlst6.alloc _
    have Kp5 := Lib.hid kp5
    go_wp2_with (at_builtin; refine wpList_append_lies _ rfl _ _ 45 rfl n0 3 i0 (.int .i64 0) 1 8 Try.underlying45 hi hiz0 hiz1 hiz2 rfl (by decide) _ _ _ rfl hrow ⟨w6.heap.size, 0, none⟩ 1 1 [.int .i64 ra] rfl rfl (cell_one_new _ _ _) (by simp [Value.oneCell']) (by omega) (by omega) (by omega) (by simp; omega) (w6.heap.size + 1) (by simp) ?_; intro g7 c7 w7 hown7 hgr7 hat7 hlt7; have kp7 := (hgr7.block p (by simp; omega) (fun e => Hsep.out p (.inr (.inr (.inr e.symm))) rfl)).trans (alloc_lt _ Kp5.out); have kp7_f : ∀ i, w7.frozen? ⟨p, i, none⟩ = false := frozen_of_block kp7; have kp7_8 : w7.cell? ⟨p, 8, none⟩ = some lv := (by rw [cell_of_block kp7]; rfl); have hp7 : p < w7.heap.size := (Array.getElem?_eq_some_iff.1 kp7).1)
    go_ret
    have hz67 : w6.heap.size ≤ w7.heap.size := by have := hgr7.size; simp at this; omega
    have hv7 : ∀ G, (Value.slice (some ⟨g7, 0, none⟩) (x.l.length + 1) c7).ownBlock = some G → lv.ownBlock = some G ∨ w5.heap.size ≤ G := fun G e => by
      simp only [Value.ownBlock, Option.some.injEq] at e
      subst e
      rcases hat7 with h | h
      · exact .inl h
      · exact .inr (by omega)
    have hMz : Mods (fun k => k = p ∨ lv.ownBlock = some k) w5 (w7.setCell ⟨p, 8, none⟩ (.slice (some ⟨g7, 0, none⟩) (x.l.length + 1) c7)) := by
      refine Mods.setCell ?_ (.inl (.inl rfl)) _
      refine Mods.trans (S1 := fun k => lv.ownBlock = some k) (Mods.alloc (hM5.mono (fun k e => .inl e)) (.cells #[.int .i64 ra] 3)) (mods_grown hgr7) (fun i hi => .inl (.inr hi))
    have hlz := row_keep (w' := w7.setCell ⟨p, 8, none⟩ (.slice (some ⟨g7, 0, none⟩) (x.l.length + 1) c7)) (lst_snoc hown7) (fun G o e ho => set_other ho (fun hq => by
      subst hq
      rcases hv7 G e with h | h
      · exact Hsep.out G (.inr (.inr (.inr h))) rfl
      · omega))
    exact ⟨rfl, WAt.finA (l' := x.l ++ [ra]) (lv' := .slice (some ⟨g7, 0, none⟩) (x.l.length + 1) c7) hI hn hp0 hp1 Hsep.out hM3 hm3 Hg.out hB4 hr4 hg1 hg2 hMz hlz hv7 (block_set kp7)⟩
end Go.Proofs.Ytcmhgjkijegpnaa
