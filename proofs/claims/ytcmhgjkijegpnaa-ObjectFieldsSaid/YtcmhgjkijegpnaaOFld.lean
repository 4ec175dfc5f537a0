/-
  refmeshlaw07.ObjectFields.
-/
import Derived.Test.YtcmhgjkijegpnaaGO
import Derived.Test.YtcmhgjkijegpnaaGH
namespace Go.Proofs.Ytcmhgjkijegpnaa
open Go.RowKit
set_option linter.unusedSimpArgs false
set_option linter.unusedVariables false

theorem row_open7 {w : World} {n0 : Nat} {t : TypeId} {v : Value} {n : Nat} {xs : List Value} (h : w.ownsRow n0 t 1 v n xs) (hn : 0 < n) : ∃ G cap, v = .slice (some ⟨G, 0, none⟩) n cap ∧ n0 ≤ G ∧ G < w.heap.size ∧ n ≤ cap ∧ cap ≤ 9223372036854775807 ∧ ∀ i x, xs[i]? = some x → w.cell? ⟨G, i, none⟩ = some x := by
  obtain ⟨h1, h2⟩ := h
  rcases h2 with ⟨_, h0⟩ | ⟨g, cap, cur, rfl, hb, hh, hc, hm, hs, ht⟩
  · omega
  · refine ⟨g, cap, rfl, hb, (Array.getElem?_eq_some_iff.1 hh).1, hc, hm, fun i x hx => ?_⟩
    have hi : i < xs.length := (List.getElem?_eq_some_iff.1 hx).1
    rw [cell_of_block hh, ← Array.getElem?_toList]
    have e : (cur.toList.take (n * 1))[i]? = xs[i]? := by rw [ht]
    rw [List.getElem?_take_of_lt (by omega)] at e
    rw [e, hx]
theorem wrds_row {w : World} {B n : Nat} {v : Value} {xs : List Int} (hn : xs.length = n) (h : w.ownsRow B 56 1 v n (xs.map (Value.int .u64))) : WrdsV w v xs := by
  subst hn
  exact WrdsV.of_row h
theorem wrds_same {w : World} {v1 v2 : Value} {xs : List Int} (h1 : WrdsV w v1 xs) (h2 : WrdsV w v2 xs) : Calls Try.prog 25 #[v1, v2] w fun e w' => e = .returned (.bool true) ∧ Below w.heap.size w w' := by
  have := wrds_any h1 h2
  rwa [decide_eq_true (Eq.refl xs)] at this

set_option maxRecDepth 100000 in
set_option maxHeartbeats 8000000 in
theorem ofld_any (a : Option Addr) (l : List Op7) (cap : Nat) (na pi pu : Int) (hna : 0 ≤ na ∧ na ≤ 255) (hpu : U64 pu) (hcap : l.length ≤ cap) (hc63 : cap ≤ 9223372036854775807) (w : World) (hops : Ops7 w a l) :
    Calls Try.prog 7 #[.slice a l.length cap, .int .u8 na, .int .i64 pi, .int .u64 pu] w fun e w' => e = .returned (.bool true) ∧ Below w.heap.size w w' := by
  have ha := awake7
  by_cases h : 20 < l.length
  · have hd : decide (20 < l.length) = true := by simpa using h
    clear hops
    generalize l.length = n at *
    go_enter Try.func7, Try.ntmps7
    go_wp2_with fail
    refine (ha _).mono ?_
    rintro e w1 ⟨rfl, hb1⟩
    go_wp2
    go_ret
    exact ⟨rfl, by (repeat (first | exact Below.refl _ _ | assumption | refine Below.drew ?_ | refine below_drewN ?_ _ | refine balloc ?_ _ | refine Below.setCell ?_ (by first | (simp; done) | (simp; omega) | omega) _ | refine bchain (by assumption) ?_))⟩
  · have hB := fun W (H : Below w.heap.size w W) => built7_any a l cap false hcap hc63 (by omega) W (hops.below H)
    have hd : decide (20 < l.length) = false := by simpa using h
    have hXl := run7_len 200 16777416 false l ⟨[], [], []⟩
    simp only [List.length_nil] at hXl
    have hX24 : (run7 200 16777416 false ⟨[], [], []⟩ l).l.length ≤ 24 := by omega
    have hV := inv_run l _ inv_start
    clear hops hXl
    generalize run7 200 16777416 false ⟨[], [], []⟩ l = X at *
    generalize l.length = n at *
    go_enter Try.func7, Try.ntmps7
    go_wp2_with fail
    refine (ha _).mono ?_
    rintro e w1 ⟨rfl, hb1⟩
    have hw1 : Below w.heap.size w w1 := by (repeat (first | exact Below.refl _ _ | assumption | refine Below.drew ?_ | refine below_drewN ?_ _ | refine balloc ?_ _ | refine Below.setCell ?_ (by first | (simp; done) | (simp; omega) | omega) _ | refine bchain (by assumption) ?_))
    go_wp2_with fail
    refine (hB _ hw1).mono ?_
    rintro e w2 ⟨bO, bY, aO, nO, cO, aY, nY, cY, lv, gO, gY, rO, rY, rfl, hI, hb2⟩
    obtain ⟨A, lc, rfl, hL, hlc, hlc63⟩ := lst_of_row hI.lst
    unfold wcs
    have hw2 := bchain hb2 hw1
    have hMS : ∀ k, MS bO bY gO gY k → w.heap.size ≤ k := fun k hk => Nat.le_trans hw1.size (hI.ms k hk)
    clear hB hb1 hb2 hw1 ha hd
    go_upto_region 8 with fail
    have kx : (w2.alloc (.cells #[.pointer (some ⟨bO, 0, none⟩), .pointer (some ⟨bY, 0, none⟩), .int .i64 0, .int .i64 200, .slice aO nO cO, .int .i64 16777216, .int .i64 16777416, .slice aY nY cY, .slice A X.l.length lc] 47)).heap[w2.heap.size]? = some (.cells #[.pointer (some ⟨bO, 0, none⟩), .pointer (some ⟨bY, 0, none⟩), .int .i64 0, .int .i64 200, .slice aO nO cO, .int .i64 16777216, .int .i64 16777416, .slice aY nY cY, .slice A X.l.length lc] 47 (0, 0)) := alloc_get _ _
    have hI3 := hI.below (balloc (Below.refl _ w2) (.cells #[.pointer (some ⟨bO, 0, none⟩), .pointer (some ⟨bY, 0, none⟩), .int .i64 0, .int .i64 200, .slice aO nO cO, .int .i64 16777216, .int .i64 16777416, .slice aY nY cY, .slice A X.l.length lc] 47))
    have hpS : ∀ G, MS bO bY gO gY G ∨ rO = some G ∨ rY = some G ∨ (Value.slice A X.l.length lc).ownBlock = some G → G ≠ w2.heap.size := fun G e => Nat.ne_of_lt (hI.lt G e)
    have hw3 : Below w.heap.size w (w2.alloc (.cells #[.pointer (some ⟨bO, 0, none⟩), .pointer (some ⟨bY, 0, none⟩), .int .i64 0, .int .i64 200, .slice aO nO cO, .int .i64 16777216, .int .i64 16777416, .slice aY nY cY, .slice A X.l.length lc] 47)) := hw2.alloc hw2.size _
    obtain ⟨p, hp⟩ : ∃ p, w2.heap.size = p := ⟨_, rfl⟩
    have hp0 : w.heap.size ≤ p := by rw [← hp]; exact hw2.size
    obtain ⟨w3, hw3e⟩ : ∃ w3, (w2.alloc (.cells #[.pointer (some ⟨bO, 0, none⟩), .pointer (some ⟨bY, 0, none⟩), .int .i64 0, .int .i64 200, .slice aO nO cO, .int .i64 16777216, .int .i64 16777416, .slice aY nY cY, .slice A X.l.length lc] 47)) = w3 := ⟨_, rfl⟩
    rw [hw3e] at kx hI3 hw3 ⊢
    rw [hp] at kx hpS ⊢
    have hL := hI3.lst
    have HpS := Lib.hid hpS
    clear hw3e hp hI hw2 hL hpS
    have kx_0 : w3.cell? ⟨p, 0, none⟩ = some (.pointer (some ⟨bO, 0, none⟩)) := by rw [cell_of_block kx]; rfl
    have kx_1 : w3.cell? ⟨p, 1, none⟩ = some (.pointer (some ⟨bY, 0, none⟩)) := by rw [cell_of_block kx]; rfl
    have kx_2 : w3.cell? ⟨p, 2, none⟩ = some (.int .i64 0) := by rw [cell_of_block kx]; rfl
    have kx_3 : w3.cell? ⟨p, 3, none⟩ = some (.int .i64 200) := by rw [cell_of_block kx]; rfl
    have kx_4 : w3.cell? ⟨p, 4, none⟩ = some (.slice aO nO cO) := by rw [cell_of_block kx]; rfl
    have kx_5 : w3.cell? ⟨p, 5, none⟩ = some (.int .i64 16777216) := by rw [cell_of_block kx]; rfl
    have kx_6 : w3.cell? ⟨p, 6, none⟩ = some (.int .i64 16777416) := by rw [cell_of_block kx]; rfl
    have kx_7 : w3.cell? ⟨p, 7, none⟩ = some (.slice aY nY cY) := by rw [cell_of_block kx]; rfl
    have kx_8 : w3.cell? ⟨p, 8, none⟩ = some (.slice A X.l.length lc) := by rw [cell_of_block kx]; rfl
    obtain ⟨na, rfl⟩ := Int.eq_ofNat_of_zero_le hna.1
    rcases hM : X.l.length with _ | m
    · rw [hM] at kx_8
      go_wp2
      go_ret
      exact ⟨rfl, by (repeat (first | exact Below.refl _ _ | assumption | refine Below.drew ?_ | refine below_drewN ?_ _ | refine balloc ?_ _ | refine Below.setCell ?_ (by first | (simp; done) | (simp; omega) | omega) _ | refine bchain (by assumption) ?_))⟩
    obtain ⟨G, ya, rfl, hya, qa⟩ := lst_pick (n := na) hI3.lst hM
    have hlaw := field_law hV hya pi pu
    have hmm := hI3.mem
    rw [hM] at kx kx_8 hX24 hlc
    clear hI3 hV hya hM
    obtain ⟨e1, ⟨ebd0, ebd⟩, e2, e3, e4⟩ := hlaw
    have hH1 := fun W (H : MemAt W bO bY 200 16777416 X.wo X.wy gO gY) => mhdr_any H ya
    have hW1 := fun W (H : MemAt W bO bY 200 16777416 X.wo X.wy gO gY) => words7_row H
    have hS1 := fun W (H : MemAt W bO bY 200 16777416 X.wo X.wy gO gY) => msetf_any H ya pi pu hpu
    rw [e1] at hH1
    have hhf := (HE_bd e1).2.1
    generalize HK X.wo X.wy ya = hk at *
    generalize HC X.wo X.wy ya = hc at *
    generalize HF X.wo X.wy ya = hf at *
    have hm0 : MemAt w3 bO bY 200 16777416 X.wo X.wy gO gY := hmm
    have hM0 : Mods (MS bO bY gO gY) w3 w3 := Mods.refl _ _
    have hn0 := hm0.fresh
    have hps : ¬ MS bO bY gO gY p := fun e => HpS.out p (.inl e) rfl
    clear hmm HpS
    have hq0 : ∀ z : Nat, ((z : Int) % ((m : Int) + 1)) = ((z % (m + 1) : Nat) : Int) := fun z => by rw [Int.natCast_emod]; rfl
    have ta := hq0 na
    have la : na % (m + 1) < m + 1 := Nat.mod_lt _ (by omega)
    generalize na % (m + 1) = ia at *
    have wa : IntKind.i64.wrap (ia : Int) = (ia : Int) := IntWalk.i64_in _ (by omega)
    have ca : IntKind.i64.wrap (na : Int) = (na : Int) := IntWalk.i64_in _ (by omega)
    have sa : ((ia : Int)).toNat = ia := by omega
    have va : (ia : Int) < (m : Int) + 1 := by omega
    clear hq0
    by_cases es : hk = 3 ∨ hk = 4
    · obtain ⟨f1, f2, f3⟩ := e2 es
      rw [f1, f2, f3] at hS1
      clear e2 e3 e4 f1 f2 f3
      rcases es with rfl | rfl
      · have hs3 : w3.heap.size ≤ w3.heap.size := Nat.le_refl _
        have hm3 := hm0
        have hM3 := hM0
        have hB3 : Below w3.heap.size w3 w3 := Below.refl _ _
        go_wp2_with fail
        have o_kx_0 : ∀ x, (over w3 x).cell? ⟨p, 0, none⟩ = some (.pointer (some ⟨bO, 0, none⟩)) := over_cell (by rw [cell_of_block kx]; rfl)
        have o_kx_1 : ∀ x, (over w3 x).cell? ⟨p, 1, none⟩ = some (.pointer (some ⟨bY, 0, none⟩)) := over_cell (by rw [cell_of_block kx]; rfl)
        have o_kx_2 : ∀ x, (over w3 x).cell? ⟨p, 2, none⟩ = some (.int .i64 0) := over_cell (by rw [cell_of_block kx]; rfl)
        have o_kx_3 : ∀ x, (over w3 x).cell? ⟨p, 3, none⟩ = some (.int .i64 200) := over_cell (by rw [cell_of_block kx]; rfl)
        have o_kx_4 : ∀ x, (over w3 x).cell? ⟨p, 4, none⟩ = some (.slice aO nO cO) := over_cell (by rw [cell_of_block kx]; rfl)
        have o_kx_5 : ∀ x, (over w3 x).cell? ⟨p, 5, none⟩ = some (.int .i64 16777216) := over_cell (by rw [cell_of_block kx]; rfl)
        have o_kx_6 : ∀ x, (over w3 x).cell? ⟨p, 6, none⟩ = some (.int .i64 16777416) := over_cell (by rw [cell_of_block kx]; rfl)
        have o_kx_7 : ∀ x, (over w3 x).cell? ⟨p, 7, none⟩ = some (.slice aY nY cY) := over_cell (by rw [cell_of_block kx]; rfl)
        have o_kx_8 : ∀ x, (over w3 x).cell? ⟨p, 8, none⟩ = some (.slice (some ⟨G, 0, none⟩) (m + 1) lc) := over_cell (by rw [cell_of_block kx]; rfl)
        have o_a : ∀ x, (over w3 x).cell? ⟨G, ia, none⟩ = some (.int .i64 ya) := over_cell (qa)
        (refine wp_region_over (by kernel_rfl) (by kernel_rfl) ?_); (repeat (go_big_quiet_step ((fail)))); (refine wpQuiet_nil ?_)
        intro w4 hb4
        clear o_kx_0 o_kx_1 o_kx_2 o_kx_3 o_kx_4 o_kx_5 o_kx_6 o_kx_7 o_kx_8 o_a
        have hB4 : Below w3.heap.size w3 w4 := by (repeat (first | exact Below.refl _ _ | assumption | refine Below.drew ?_ | refine below_drewN ?_ _ | refine balloc ?_ _ | refine Below.setCell ?_ (by first | (simp; done) | (simp; omega) | omega) _ | refine bchain (by assumption) ?_))
        have kx := bblock hB4 kx
        have hM4 := Mods.chain hB4 hM3
        have hm4 := hm3.below hB4
        have hs4 : w3.heap.size ≤ w4.heap.size := hM4.size
        have hz_kx : p < w4.heap.size := (Array.getElem?_eq_some_iff.1 kx).1
        clear hB4 hm3 hM3 hb4
        clear kx_0 kx_1 kx_2 kx_3 kx_4 kx_5 kx_6 kx_7 kx_8
        have kx_0 : w4.cell? ⟨p, 0, none⟩ = some (.pointer (some ⟨bO, 0, none⟩)) := by rw [cell_of_block kx]; rfl
        have kx_1 : w4.cell? ⟨p, 1, none⟩ = some (.pointer (some ⟨bY, 0, none⟩)) := by rw [cell_of_block kx]; rfl
        have kx_2 : w4.cell? ⟨p, 2, none⟩ = some (.int .i64 0) := by rw [cell_of_block kx]; rfl
        have kx_3 : w4.cell? ⟨p, 3, none⟩ = some (.int .i64 200) := by rw [cell_of_block kx]; rfl
        have kx_4 : w4.cell? ⟨p, 4, none⟩ = some (.slice aO nO cO) := by rw [cell_of_block kx]; rfl
        have kx_5 : w4.cell? ⟨p, 5, none⟩ = some (.int .i64 16777216) := by rw [cell_of_block kx]; rfl
        have kx_6 : w4.cell? ⟨p, 6, none⟩ = some (.int .i64 16777416) := by rw [cell_of_block kx]; rfl
        have kx_7 : w4.cell? ⟨p, 7, none⟩ = some (.slice aY nY cY) := by rw [cell_of_block kx]; rfl
        have kx_8 : w4.cell? ⟨p, 8, none⟩ = some (.slice (some ⟨G, 0, none⟩) (m + 1) lc) := by rw [cell_of_block kx]; rfl
        go_wp2_with fail
        refine (hH1 _ (hm4.below (by (repeat (first | exact Below.refl _ _ | assumption | refine Below.drew ?_ | refine below_drewN ?_ _ | refine balloc ?_ _ | refine Below.setCell ?_ (by first | (simp; done) | (simp; omega) | omega) _ | refine bchain (by assumption) ?_))))).mono ?_
        rintro e w5 ⟨rfl, hb5⟩
        have hB5 : Below w4.heap.size w4 w5 := by (repeat (first | exact Below.refl _ _ | assumption | refine Below.drew ?_ | refine below_drewN ?_ _ | refine balloc ?_ _ | refine Below.setCell ?_ (by first | (simp; done) | (simp; omega) | omega) _ | refine bchain (by assumption) ?_))
        have kx := bblock hB5 kx
        have hM5 := Mods.chain hB5 hM4
        have hm5 := hm4.below hB5
        have hs5 : w3.heap.size ≤ w5.heap.size := hM5.size
        clear hz_kx
        have hz_kx : p < w5.heap.size := (Array.getElem?_eq_some_iff.1 kx).1
        clear hB5 hm4 hM4 hb5
        clear kx_0 kx_1 kx_2 kx_3 kx_4 kx_5 kx_6 kx_7 kx_8
        have kx_0 : w5.cell? ⟨p, 0, none⟩ = some (.pointer (some ⟨bO, 0, none⟩)) := by rw [cell_of_block kx]; rfl
        have kx_1 : w5.cell? ⟨p, 1, none⟩ = some (.pointer (some ⟨bY, 0, none⟩)) := by rw [cell_of_block kx]; rfl
        have kx_2 : w5.cell? ⟨p, 2, none⟩ = some (.int .i64 0) := by rw [cell_of_block kx]; rfl
        have kx_3 : w5.cell? ⟨p, 3, none⟩ = some (.int .i64 200) := by rw [cell_of_block kx]; rfl
        have kx_4 : w5.cell? ⟨p, 4, none⟩ = some (.slice aO nO cO) := by rw [cell_of_block kx]; rfl
        have kx_5 : w5.cell? ⟨p, 5, none⟩ = some (.int .i64 16777216) := by rw [cell_of_block kx]; rfl
        have kx_6 : w5.cell? ⟨p, 6, none⟩ = some (.int .i64 16777416) := by rw [cell_of_block kx]; rfl
        have kx_7 : w5.cell? ⟨p, 7, none⟩ = some (.slice aY nY cY) := by rw [cell_of_block kx]; rfl
        have kx_8 : w5.cell? ⟨p, 8, none⟩ = some (.slice (some ⟨G, 0, none⟩) (m + 1) lc) := by rw [cell_of_block kx]; rfl
        go_wp2_with fail
        refine (hW1 _ (hm5.below (by (repeat (first | exact Below.refl _ _ | assumption | refine Below.drew ?_ | refine below_drewN ?_ _ | refine balloc ?_ _ | refine Below.setCell ?_ (by first | (simp; done) | (simp; omega) | omega) _ | refine bchain (by assumption) ?_))))).mono ?_
        rintro e w6 ⟨vb, rfl, hvb, hb6⟩
        have hB6 : Below w5.heap.size w5 w6 := by (repeat (first | exact Below.refl _ _ | assumption | refine Below.drew ?_ | refine below_drewN ?_ _ | refine balloc ?_ _ | refine Below.setCell ?_ (by first | (simp; done) | (simp; omega) | omega) _ | refine bchain (by assumption) ?_))
        have kx := bblock hB6 kx
        have kh : w6.heap[w5.heap.size]? = some (.cells #[.int .i64 3, .int .i64 hc, .int .i64 hf] 23 (0, 0)) := bblock hb6 (by repeat (first | exact alloc_at _ (by simp) | refine alloc_lt _ ?_))
        have hM6 := Mods.chain hB6 hM5
        have hm6 := hm5.below hB6
        have hs6 : w3.heap.size ≤ w6.heap.size := hM6.size
        clear hz_kx
        have hz_kx : p < w6.heap.size := (Array.getElem?_eq_some_iff.1 kx).1
        have hz_kh : w5.heap.size < w6.heap.size := (Array.getElem?_eq_some_iff.1 kh).1
        clear hB6 hm5 hM5 hb6
        clear kx_0 kx_1 kx_2 kx_3 kx_4 kx_5 kx_6 kx_7 kx_8
        have kx_0 : w6.cell? ⟨p, 0, none⟩ = some (.pointer (some ⟨bO, 0, none⟩)) := by rw [cell_of_block kx]; rfl
        have kx_1 : w6.cell? ⟨p, 1, none⟩ = some (.pointer (some ⟨bY, 0, none⟩)) := by rw [cell_of_block kx]; rfl
        have kx_2 : w6.cell? ⟨p, 2, none⟩ = some (.int .i64 0) := by rw [cell_of_block kx]; rfl
        have kx_3 : w6.cell? ⟨p, 3, none⟩ = some (.int .i64 200) := by rw [cell_of_block kx]; rfl
        have kx_4 : w6.cell? ⟨p, 4, none⟩ = some (.slice aO nO cO) := by rw [cell_of_block kx]; rfl
        have kx_5 : w6.cell? ⟨p, 5, none⟩ = some (.int .i64 16777216) := by rw [cell_of_block kx]; rfl
        have kx_6 : w6.cell? ⟨p, 6, none⟩ = some (.int .i64 16777416) := by rw [cell_of_block kx]; rfl
        have kx_7 : w6.cell? ⟨p, 7, none⟩ = some (.slice aY nY cY) := by rw [cell_of_block kx]; rfl
        have kx_8 : w6.cell? ⟨p, 8, none⟩ = some (.slice (some ⟨G, 0, none⟩) (m + 1) lc) := by rw [cell_of_block kx]; rfl
        have kh_0 : w6.cell? ⟨w5.heap.size, 0, none⟩ = some (.int .i64 3) := by rw [cell_of_block kh]; rfl
        have kh_1 : w6.cell? ⟨w5.heap.size, 1, none⟩ = some (.int .i64 hc) := by rw [cell_of_block kh]; rfl
        have kh_2 : w6.cell? ⟨w5.heap.size, 2, none⟩ = some (.int .i64 hf) := by rw [cell_of_block kh]; rfl
        have hvb := row_base7 hvb (Nat.le_trans hs5 (show Below w5.heap.size w5 _ from by (repeat (first | exact Below.refl _ _ | assumption | refine Below.drew ?_ | refine below_drewN ?_ _ | refine balloc ?_ _ | refine Below.setCell ?_ (by first | (simp; done) | (simp; omega) | omega) _ | refine bchain (by assumption) ?_))).size)
        go_wp2_with fail
        refine (hS1 _ (hm6.below (by (repeat (first | exact Below.refl _ _ | assumption | refine Below.drew ?_ | refine below_drewN ?_ _ | refine balloc ?_ _ | refine Below.setCell ?_ (by first | (simp; done) | (simp; omega) | omega) _ | refine bchain (by assumption) ?_))))).mono ?_
        rintro e w7 ⟨rfl, hm7, hX7⟩
        have kx := mblock hX7 (bblock (show Below w6.heap.size w6 _ from by (repeat (first | exact Below.refl _ _ | assumption | refine Below.drew ?_ | refine below_drewN ?_ _ | refine balloc ?_ _ | refine Below.setCell ?_ (by first | (simp; done) | (simp; omega) | omega) _ | refine bchain (by assumption) ?_))) kx) hps
        have kh := mblock hX7 (bblock (show Below w6.heap.size w6 _ from by (repeat (first | exact Below.refl _ _ | assumption | refine Below.drew ?_ | refine below_drewN ?_ _ | refine balloc ?_ _ | refine Below.setCell ?_ (by first | (simp; done) | (simp; omega) | omega) _ | refine bchain (by assumption) ?_))) kh) (hn0 _ (by omega))
        have hvb := row_keep (row_below7 hvb (show Below w6.heap.size w6 _ from by (repeat (first | exact Below.refl _ _ | assumption | refine Below.drew ?_ | refine below_drewN ?_ _ | refine balloc ?_ _ | refine Below.setCell ?_ (by first | (simp; done) | (simp; omega) | omega) _ | refine bchain (by assumption) ?_)))) (fun G o e ho => mblock hX7 ho (hn0 G (row_lt hvb G e).2))
        have hM7 := (Mods.chain (show Below w6.heap.size w6 _ from by (repeat (first | exact Below.refl _ _ | assumption | refine Below.drew ?_ | refine below_drewN ?_ _ | refine balloc ?_ _ | refine Below.setCell ?_ (by first | (simp; done) | (simp; omega) | omega) _ | refine bchain (by assumption) ?_))) hM6).trans hX7 (fun i hi => .inl hi)
        have hs7 : w3.heap.size ≤ w7.heap.size := hM7.size
        clear hz_kx hz_kh
        have hz_kx : p < w7.heap.size := (Array.getElem?_eq_some_iff.1 kx).1
        have hz_kh : w5.heap.size < w7.heap.size := (Array.getElem?_eq_some_iff.1 kh).1
        clear hm6 hM6 hX7
        clear kx_0 kx_1 kx_2 kx_3 kx_4 kx_5 kx_6 kx_7 kx_8 kh_0 kh_1 kh_2
        have kx_0 : w7.cell? ⟨p, 0, none⟩ = some (.pointer (some ⟨bO, 0, none⟩)) := by rw [cell_of_block kx]; rfl
        have kx_1 : w7.cell? ⟨p, 1, none⟩ = some (.pointer (some ⟨bY, 0, none⟩)) := by rw [cell_of_block kx]; rfl
        have kx_2 : w7.cell? ⟨p, 2, none⟩ = some (.int .i64 0) := by rw [cell_of_block kx]; rfl
        have kx_3 : w7.cell? ⟨p, 3, none⟩ = some (.int .i64 200) := by rw [cell_of_block kx]; rfl
        have kx_4 : w7.cell? ⟨p, 4, none⟩ = some (.slice aO nO cO) := by rw [cell_of_block kx]; rfl
        have kx_5 : w7.cell? ⟨p, 5, none⟩ = some (.int .i64 16777216) := by rw [cell_of_block kx]; rfl
        have kx_6 : w7.cell? ⟨p, 6, none⟩ = some (.int .i64 16777416) := by rw [cell_of_block kx]; rfl
        have kx_7 : w7.cell? ⟨p, 7, none⟩ = some (.slice aY nY cY) := by rw [cell_of_block kx]; rfl
        have kx_8 : w7.cell? ⟨p, 8, none⟩ = some (.slice (some ⟨G, 0, none⟩) (m + 1) lc) := by rw [cell_of_block kx]; rfl
        have kh_0 : w7.cell? ⟨w5.heap.size, 0, none⟩ = some (.int .i64 3) := by rw [cell_of_block kh]; rfl
        have kh_1 : w7.cell? ⟨w5.heap.size, 1, none⟩ = some (.int .i64 hc) := by rw [cell_of_block kh]; rfl
        have kh_2 : w7.cell? ⟨w5.heap.size, 2, none⟩ = some (.int .i64 hf) := by rw [cell_of_block kh]; rfl
        go_wp2_with fail
        refine (hW1 _ (hm7.below (by (repeat (first | exact Below.refl _ _ | assumption | refine Below.drew ?_ | refine below_drewN ?_ _ | refine balloc ?_ _ | refine Below.setCell ?_ (by first | (simp; done) | (simp; omega) | omega) _ | refine bchain (by assumption) ?_))))).mono ?_
        rintro e w8 ⟨vc, rfl, hvc, hb8⟩
        have hB8 : Below w7.heap.size w7 w8 := by (repeat (first | exact Below.refl _ _ | assumption | refine Below.drew ?_ | refine below_drewN ?_ _ | refine balloc ?_ _ | refine Below.setCell ?_ (by first | (simp; done) | (simp; omega) | omega) _ | refine bchain (by assumption) ?_))
        have kx := bblock hB8 kx
        have kh := bblock hB8 kh
        have hvb := row_below7 hvb hB8
        have hM8 := Mods.chain hB8 hM7
        have hm8 := hm7.below hB8
        have hs8 : w3.heap.size ≤ w8.heap.size := hM8.size
        clear hz_kx hz_kh
        have hz_kx : p < w8.heap.size := (Array.getElem?_eq_some_iff.1 kx).1
        have hz_kh : w5.heap.size < w8.heap.size := (Array.getElem?_eq_some_iff.1 kh).1
        clear hB8 hm7 hM7 hb8
        clear kx_0 kx_1 kx_2 kx_3 kx_4 kx_5 kx_6 kx_7 kx_8 kh_0 kh_1 kh_2
        have kx_0 : w8.cell? ⟨p, 0, none⟩ = some (.pointer (some ⟨bO, 0, none⟩)) := by rw [cell_of_block kx]; rfl
        have kx_1 : w8.cell? ⟨p, 1, none⟩ = some (.pointer (some ⟨bY, 0, none⟩)) := by rw [cell_of_block kx]; rfl
        have kx_2 : w8.cell? ⟨p, 2, none⟩ = some (.int .i64 0) := by rw [cell_of_block kx]; rfl
        have kx_3 : w8.cell? ⟨p, 3, none⟩ = some (.int .i64 200) := by rw [cell_of_block kx]; rfl
        have kx_4 : w8.cell? ⟨p, 4, none⟩ = some (.slice aO nO cO) := by rw [cell_of_block kx]; rfl
        have kx_5 : w8.cell? ⟨p, 5, none⟩ = some (.int .i64 16777216) := by rw [cell_of_block kx]; rfl
        have kx_6 : w8.cell? ⟨p, 6, none⟩ = some (.int .i64 16777416) := by rw [cell_of_block kx]; rfl
        have kx_7 : w8.cell? ⟨p, 7, none⟩ = some (.slice aY nY cY) := by rw [cell_of_block kx]; rfl
        have kx_8 : w8.cell? ⟨p, 8, none⟩ = some (.slice (some ⟨G, 0, none⟩) (m + 1) lc) := by rw [cell_of_block kx]; rfl
        have kh_0 : w8.cell? ⟨w5.heap.size, 0, none⟩ = some (.int .i64 3) := by rw [cell_of_block kh]; rfl
        have kh_1 : w8.cell? ⟨w5.heap.size, 1, none⟩ = some (.int .i64 hc) := by rw [cell_of_block kh]; rfl
        have kh_2 : w8.cell? ⟨w5.heap.size, 2, none⟩ = some (.int .i64 hf) := by rw [cell_of_block kh]; rfl
        have hwd := fun W (H : Below w8.heap.size w8 W) => wrds_any ((WrdsV.of_row hvb).below H) ((WrdsV.of_row hvc).below H)
        rw [decide_eq_true (Eq.refl (X.wo ++ X.wy))] at hwd
        go_wp2_with fail
        refine (hwd _ (by (repeat (first | exact Below.refl _ _ | assumption | refine Below.drew ?_ | refine below_drewN ?_ _ | refine balloc ?_ _ | refine Below.setCell ?_ (by first | (simp; done) | (simp; omega) | omega) _ | refine bchain (by assumption) ?_)))).mono ?_
        rintro e w9 ⟨rfl, hb9⟩
        have hB9 : Below w8.heap.size w8 w9 := by (repeat (first | exact Below.refl _ _ | assumption | refine Below.drew ?_ | refine below_drewN ?_ _ | refine balloc ?_ _ | refine Below.setCell ?_ (by first | (simp; done) | (simp; omega) | omega) _ | refine bchain (by assumption) ?_))
        have kx := bblock hB9 kx
        have kh := bblock hB9 kh
        have hvb := row_below7 hvb hB9
        have hM9 := Mods.chain hB9 hM8
        have hm9 := hm8.below hB9
        have hs9 : w3.heap.size ≤ w9.heap.size := hM9.size
        clear hz_kx hz_kh
        have hz_kx : p < w9.heap.size := (Array.getElem?_eq_some_iff.1 kx).1
        have hz_kh : w5.heap.size < w9.heap.size := (Array.getElem?_eq_some_iff.1 kh).1
        clear hB9 hm8 hM8 hb9
        clear kx_0 kx_1 kx_2 kx_3 kx_4 kx_5 kx_6 kx_7 kx_8 kh_0 kh_1 kh_2
        have kx_0 : w9.cell? ⟨p, 0, none⟩ = some (.pointer (some ⟨bO, 0, none⟩)) := by rw [cell_of_block kx]; rfl
        have kx_1 : w9.cell? ⟨p, 1, none⟩ = some (.pointer (some ⟨bY, 0, none⟩)) := by rw [cell_of_block kx]; rfl
        have kx_2 : w9.cell? ⟨p, 2, none⟩ = some (.int .i64 0) := by rw [cell_of_block kx]; rfl
        have kx_3 : w9.cell? ⟨p, 3, none⟩ = some (.int .i64 200) := by rw [cell_of_block kx]; rfl
        have kx_4 : w9.cell? ⟨p, 4, none⟩ = some (.slice aO nO cO) := by rw [cell_of_block kx]; rfl
        have kx_5 : w9.cell? ⟨p, 5, none⟩ = some (.int .i64 16777216) := by rw [cell_of_block kx]; rfl
        have kx_6 : w9.cell? ⟨p, 6, none⟩ = some (.int .i64 16777416) := by rw [cell_of_block kx]; rfl
        have kx_7 : w9.cell? ⟨p, 7, none⟩ = some (.slice aY nY cY) := by rw [cell_of_block kx]; rfl
        have kx_8 : w9.cell? ⟨p, 8, none⟩ = some (.slice (some ⟨G, 0, none⟩) (m + 1) lc) := by rw [cell_of_block kx]; rfl
        have kh_0 : w9.cell? ⟨w5.heap.size, 0, none⟩ = some (.int .i64 3) := by rw [cell_of_block kh]; rfl
        have kh_1 : w9.cell? ⟨w5.heap.size, 1, none⟩ = some (.int .i64 hc) := by rw [cell_of_block kh]; rfl
        have kh_2 : w9.cell? ⟨w5.heap.size, 2, none⟩ = some (.int .i64 hf) := by rw [cell_of_block kh]; rfl
        go_wp2
        go_ret
        exact ⟨rfl, hw3.trans ((Mods.chain (show Below w9.heap.size w9 _ from by (repeat (first | exact Below.refl _ _ | assumption | refine Below.drew ?_ | refine below_drewN ?_ _ | refine balloc ?_ _ | refine Below.setCell ?_ (by first | (simp; done) | (simp; omega) | omega) _ | refine bchain (by assumption) ?_))) hM9).below hw3.size hMS)⟩
      · have hs3 : w3.heap.size ≤ w3.heap.size := Nat.le_refl _
        have hm3 := hm0
        have hM3 := hM0
        have hB3 : Below w3.heap.size w3 w3 := Below.refl _ _
        go_wp2_with fail
        have o_kx_0 : ∀ x, (over w3 x).cell? ⟨p, 0, none⟩ = some (.pointer (some ⟨bO, 0, none⟩)) := over_cell (by rw [cell_of_block kx]; rfl)
        have o_kx_1 : ∀ x, (over w3 x).cell? ⟨p, 1, none⟩ = some (.pointer (some ⟨bY, 0, none⟩)) := over_cell (by rw [cell_of_block kx]; rfl)
        have o_kx_2 : ∀ x, (over w3 x).cell? ⟨p, 2, none⟩ = some (.int .i64 0) := over_cell (by rw [cell_of_block kx]; rfl)
        have o_kx_3 : ∀ x, (over w3 x).cell? ⟨p, 3, none⟩ = some (.int .i64 200) := over_cell (by rw [cell_of_block kx]; rfl)
        have o_kx_4 : ∀ x, (over w3 x).cell? ⟨p, 4, none⟩ = some (.slice aO nO cO) := over_cell (by rw [cell_of_block kx]; rfl)
        have o_kx_5 : ∀ x, (over w3 x).cell? ⟨p, 5, none⟩ = some (.int .i64 16777216) := over_cell (by rw [cell_of_block kx]; rfl)
        have o_kx_6 : ∀ x, (over w3 x).cell? ⟨p, 6, none⟩ = some (.int .i64 16777416) := over_cell (by rw [cell_of_block kx]; rfl)
        have o_kx_7 : ∀ x, (over w3 x).cell? ⟨p, 7, none⟩ = some (.slice aY nY cY) := over_cell (by rw [cell_of_block kx]; rfl)
        have o_kx_8 : ∀ x, (over w3 x).cell? ⟨p, 8, none⟩ = some (.slice (some ⟨G, 0, none⟩) (m + 1) lc) := over_cell (by rw [cell_of_block kx]; rfl)
        have o_a : ∀ x, (over w3 x).cell? ⟨G, ia, none⟩ = some (.int .i64 ya) := over_cell (qa)
        (refine wp_region_over (by kernel_rfl) (by kernel_rfl) ?_); (repeat (go_big_quiet_step ((fail)))); (refine wpQuiet_nil ?_)
        intro w4 hb4
        clear o_kx_0 o_kx_1 o_kx_2 o_kx_3 o_kx_4 o_kx_5 o_kx_6 o_kx_7 o_kx_8 o_a
        have hB4 : Below w3.heap.size w3 w4 := by (repeat (first | exact Below.refl _ _ | assumption | refine Below.drew ?_ | refine below_drewN ?_ _ | refine balloc ?_ _ | refine Below.setCell ?_ (by first | (simp; done) | (simp; omega) | omega) _ | refine bchain (by assumption) ?_))
        have kx := bblock hB4 kx
        have hM4 := Mods.chain hB4 hM3
        have hm4 := hm3.below hB4
        have hs4 : w3.heap.size ≤ w4.heap.size := hM4.size
        have hz_kx : p < w4.heap.size := (Array.getElem?_eq_some_iff.1 kx).1
        clear hB4 hm3 hM3 hb4
        clear kx_0 kx_1 kx_2 kx_3 kx_4 kx_5 kx_6 kx_7 kx_8
        have kx_0 : w4.cell? ⟨p, 0, none⟩ = some (.pointer (some ⟨bO, 0, none⟩)) := by rw [cell_of_block kx]; rfl
        have kx_1 : w4.cell? ⟨p, 1, none⟩ = some (.pointer (some ⟨bY, 0, none⟩)) := by rw [cell_of_block kx]; rfl
        have kx_2 : w4.cell? ⟨p, 2, none⟩ = some (.int .i64 0) := by rw [cell_of_block kx]; rfl
        have kx_3 : w4.cell? ⟨p, 3, none⟩ = some (.int .i64 200) := by rw [cell_of_block kx]; rfl
        have kx_4 : w4.cell? ⟨p, 4, none⟩ = some (.slice aO nO cO) := by rw [cell_of_block kx]; rfl
        have kx_5 : w4.cell? ⟨p, 5, none⟩ = some (.int .i64 16777216) := by rw [cell_of_block kx]; rfl
        have kx_6 : w4.cell? ⟨p, 6, none⟩ = some (.int .i64 16777416) := by rw [cell_of_block kx]; rfl
        have kx_7 : w4.cell? ⟨p, 7, none⟩ = some (.slice aY nY cY) := by rw [cell_of_block kx]; rfl
        have kx_8 : w4.cell? ⟨p, 8, none⟩ = some (.slice (some ⟨G, 0, none⟩) (m + 1) lc) := by rw [cell_of_block kx]; rfl
        go_wp2_with fail
        refine (hH1 _ (hm4.below (by (repeat (first | exact Below.refl _ _ | assumption | refine Below.drew ?_ | refine below_drewN ?_ _ | refine balloc ?_ _ | refine Below.setCell ?_ (by first | (simp; done) | (simp; omega) | omega) _ | refine bchain (by assumption) ?_))))).mono ?_
        rintro e w5 ⟨rfl, hb5⟩
        have hB5 : Below w4.heap.size w4 w5 := by (repeat (first | exact Below.refl _ _ | assumption | refine Below.drew ?_ | refine below_drewN ?_ _ | refine balloc ?_ _ | refine Below.setCell ?_ (by first | (simp; done) | (simp; omega) | omega) _ | refine bchain (by assumption) ?_))
        have kx := bblock hB5 kx
        have hM5 := Mods.chain hB5 hM4
        have hm5 := hm4.below hB5
        have hs5 : w3.heap.size ≤ w5.heap.size := hM5.size
        clear hz_kx
        have hz_kx : p < w5.heap.size := (Array.getElem?_eq_some_iff.1 kx).1
        clear hB5 hm4 hM4 hb5
        clear kx_0 kx_1 kx_2 kx_3 kx_4 kx_5 kx_6 kx_7 kx_8
        have kx_0 : w5.cell? ⟨p, 0, none⟩ = some (.pointer (some ⟨bO, 0, none⟩)) := by rw [cell_of_block kx]; rfl
        have kx_1 : w5.cell? ⟨p, 1, none⟩ = some (.pointer (some ⟨bY, 0, none⟩)) := by rw [cell_of_block kx]; rfl
        have kx_2 : w5.cell? ⟨p, 2, none⟩ = some (.int .i64 0) := by rw [cell_of_block kx]; rfl
        have kx_3 : w5.cell? ⟨p, 3, none⟩ = some (.int .i64 200) := by rw [cell_of_block kx]; rfl
        have kx_4 : w5.cell? ⟨p, 4, none⟩ = some (.slice aO nO cO) := by rw [cell_of_block kx]; rfl
        have kx_5 : w5.cell? ⟨p, 5, none⟩ = some (.int .i64 16777216) := by rw [cell_of_block kx]; rfl
        have kx_6 : w5.cell? ⟨p, 6, none⟩ = some (.int .i64 16777416) := by rw [cell_of_block kx]; rfl
        have kx_7 : w5.cell? ⟨p, 7, none⟩ = some (.slice aY nY cY) := by rw [cell_of_block kx]; rfl
        have kx_8 : w5.cell? ⟨p, 8, none⟩ = some (.slice (some ⟨G, 0, none⟩) (m + 1) lc) := by rw [cell_of_block kx]; rfl
        go_wp2_with fail
        refine (hW1 _ (hm5.below (by (repeat (first | exact Below.refl _ _ | assumption | refine Below.drew ?_ | refine below_drewN ?_ _ | refine balloc ?_ _ | refine Below.setCell ?_ (by first | (simp; done) | (simp; omega) | omega) _ | refine bchain (by assumption) ?_))))).mono ?_
        rintro e w6 ⟨vb, rfl, hvb, hb6⟩
        have hB6 : Below w5.heap.size w5 w6 := by (repeat (first | exact Below.refl _ _ | assumption | refine Below.drew ?_ | refine below_drewN ?_ _ | refine balloc ?_ _ | refine Below.setCell ?_ (by first | (simp; done) | (simp; omega) | omega) _ | refine bchain (by assumption) ?_))
        have kx := bblock hB6 kx
        have kh : w6.heap[w5.heap.size]? = some (.cells #[.int .i64 4, .int .i64 hc, .int .i64 hf] 23 (0, 0)) := bblock hb6 (by repeat (first | exact alloc_at _ (by simp) | refine alloc_lt _ ?_))
        have hM6 := Mods.chain hB6 hM5
        have hm6 := hm5.below hB6
        have hs6 : w3.heap.size ≤ w6.heap.size := hM6.size
        clear hz_kx
        have hz_kx : p < w6.heap.size := (Array.getElem?_eq_some_iff.1 kx).1
        have hz_kh : w5.heap.size < w6.heap.size := (Array.getElem?_eq_some_iff.1 kh).1
        clear hB6 hm5 hM5 hb6
        clear kx_0 kx_1 kx_2 kx_3 kx_4 kx_5 kx_6 kx_7 kx_8
        have kx_0 : w6.cell? ⟨p, 0, none⟩ = some (.pointer (some ⟨bO, 0, none⟩)) := by rw [cell_of_block kx]; rfl
        have kx_1 : w6.cell? ⟨p, 1, none⟩ = some (.pointer (some ⟨bY, 0, none⟩)) := by rw [cell_of_block kx]; rfl
        have kx_2 : w6.cell? ⟨p, 2, none⟩ = some (.int .i64 0) := by rw [cell_of_block kx]; rfl
        have kx_3 : w6.cell? ⟨p, 3, none⟩ = some (.int .i64 200) := by rw [cell_of_block kx]; rfl
        have kx_4 : w6.cell? ⟨p, 4, none⟩ = some (.slice aO nO cO) := by rw [cell_of_block kx]; rfl
        have kx_5 : w6.cell? ⟨p, 5, none⟩ = some (.int .i64 16777216) := by rw [cell_of_block kx]; rfl
        have kx_6 : w6.cell? ⟨p, 6, none⟩ = some (.int .i64 16777416) := by rw [cell_of_block kx]; rfl
        have kx_7 : w6.cell? ⟨p, 7, none⟩ = some (.slice aY nY cY) := by rw [cell_of_block kx]; rfl
        have kx_8 : w6.cell? ⟨p, 8, none⟩ = some (.slice (some ⟨G, 0, none⟩) (m + 1) lc) := by rw [cell_of_block kx]; rfl
        have kh_0 : w6.cell? ⟨w5.heap.size, 0, none⟩ = some (.int .i64 4) := by rw [cell_of_block kh]; rfl
        have kh_1 : w6.cell? ⟨w5.heap.size, 1, none⟩ = some (.int .i64 hc) := by rw [cell_of_block kh]; rfl
        have kh_2 : w6.cell? ⟨w5.heap.size, 2, none⟩ = some (.int .i64 hf) := by rw [cell_of_block kh]; rfl
        have hvb := row_base7 hvb (Nat.le_trans hs5 (show Below w5.heap.size w5 _ from by (repeat (first | exact Below.refl _ _ | assumption | refine Below.drew ?_ | refine below_drewN ?_ _ | refine balloc ?_ _ | refine Below.setCell ?_ (by first | (simp; done) | (simp; omega) | omega) _ | refine bchain (by assumption) ?_))).size)
        go_wp2_with fail
        refine (hS1 _ (hm6.below (by (repeat (first | exact Below.refl _ _ | assumption | refine Below.drew ?_ | refine below_drewN ?_ _ | refine balloc ?_ _ | refine Below.setCell ?_ (by first | (simp; done) | (simp; omega) | omega) _ | refine bchain (by assumption) ?_))))).mono ?_
        rintro e w7 ⟨rfl, hm7, hX7⟩
        have kx := mblock hX7 (bblock (show Below w6.heap.size w6 _ from by (repeat (first | exact Below.refl _ _ | assumption | refine Below.drew ?_ | refine below_drewN ?_ _ | refine balloc ?_ _ | refine Below.setCell ?_ (by first | (simp; done) | (simp; omega) | omega) _ | refine bchain (by assumption) ?_))) kx) hps
        have kh := mblock hX7 (bblock (show Below w6.heap.size w6 _ from by (repeat (first | exact Below.refl _ _ | assumption | refine Below.drew ?_ | refine below_drewN ?_ _ | refine balloc ?_ _ | refine Below.setCell ?_ (by first | (simp; done) | (simp; omega) | omega) _ | refine bchain (by assumption) ?_))) kh) (hn0 _ (by omega))
        have hvb := row_keep (row_below7 hvb (show Below w6.heap.size w6 _ from by (repeat (first | exact Below.refl _ _ | assumption | refine Below.drew ?_ | refine below_drewN ?_ _ | refine balloc ?_ _ | refine Below.setCell ?_ (by first | (simp; done) | (simp; omega) | omega) _ | refine bchain (by assumption) ?_)))) (fun G o e ho => mblock hX7 ho (hn0 G (row_lt hvb G e).2))
        have hM7 := (Mods.chain (show Below w6.heap.size w6 _ from by (repeat (first | exact Below.refl _ _ | assumption | refine Below.drew ?_ | refine below_drewN ?_ _ | refine balloc ?_ _ | refine Below.setCell ?_ (by first | (simp; done) | (simp; omega) | omega) _ | refine bchain (by assumption) ?_))) hM6).trans hX7 (fun i hi => .inl hi)
        have hs7 : w3.heap.size ≤ w7.heap.size := hM7.size
        clear hz_kx hz_kh
        have hz_kx : p < w7.heap.size := (Array.getElem?_eq_some_iff.1 kx).1
        have hz_kh : w5.heap.size < w7.heap.size := (Array.getElem?_eq_some_iff.1 kh).1
        clear hm6 hM6 hX7
        clear kx_0 kx_1 kx_2 kx_3 kx_4 kx_5 kx_6 kx_7 kx_8 kh_0 kh_1 kh_2
        have kx_0 : w7.cell? ⟨p, 0, none⟩ = some (.pointer (some ⟨bO, 0, none⟩)) := by rw [cell_of_block kx]; rfl
        have kx_1 : w7.cell? ⟨p, 1, none⟩ = some (.pointer (some ⟨bY, 0, none⟩)) := by rw [cell_of_block kx]; rfl
        have kx_2 : w7.cell? ⟨p, 2, none⟩ = some (.int .i64 0) := by rw [cell_of_block kx]; rfl
        have kx_3 : w7.cell? ⟨p, 3, none⟩ = some (.int .i64 200) := by rw [cell_of_block kx]; rfl
        have kx_4 : w7.cell? ⟨p, 4, none⟩ = some (.slice aO nO cO) := by rw [cell_of_block kx]; rfl
        have kx_5 : w7.cell? ⟨p, 5, none⟩ = some (.int .i64 16777216) := by rw [cell_of_block kx]; rfl
        have kx_6 : w7.cell? ⟨p, 6, none⟩ = some (.int .i64 16777416) := by rw [cell_of_block kx]; rfl
        have kx_7 : w7.cell? ⟨p, 7, none⟩ = some (.slice aY nY cY) := by rw [cell_of_block kx]; rfl
        have kx_8 : w7.cell? ⟨p, 8, none⟩ = some (.slice (some ⟨G, 0, none⟩) (m + 1) lc) := by rw [cell_of_block kx]; rfl
        have kh_0 : w7.cell? ⟨w5.heap.size, 0, none⟩ = some (.int .i64 4) := by rw [cell_of_block kh]; rfl
        have kh_1 : w7.cell? ⟨w5.heap.size, 1, none⟩ = some (.int .i64 hc) := by rw [cell_of_block kh]; rfl
        have kh_2 : w7.cell? ⟨w5.heap.size, 2, none⟩ = some (.int .i64 hf) := by rw [cell_of_block kh]; rfl
        go_wp2_with fail
        refine (hW1 _ (hm7.below (by (repeat (first | exact Below.refl _ _ | assumption | refine Below.drew ?_ | refine below_drewN ?_ _ | refine balloc ?_ _ | refine Below.setCell ?_ (by first | (simp; done) | (simp; omega) | omega) _ | refine bchain (by assumption) ?_))))).mono ?_
        rintro e w8 ⟨vc, rfl, hvc, hb8⟩
        have hB8 : Below w7.heap.size w7 w8 := by (repeat (first | exact Below.refl _ _ | assumption | refine Below.drew ?_ | refine below_drewN ?_ _ | refine balloc ?_ _ | refine Below.setCell ?_ (by first | (simp; done) | (simp; omega) | omega) _ | refine bchain (by assumption) ?_))
        have kx := bblock hB8 kx
        have kh := bblock hB8 kh
        have hvb := row_below7 hvb hB8
        have hM8 := Mods.chain hB8 hM7
        have hm8 := hm7.below hB8
        have hs8 : w3.heap.size ≤ w8.heap.size := hM8.size
        clear hz_kx hz_kh
        have hz_kx : p < w8.heap.size := (Array.getElem?_eq_some_iff.1 kx).1
        have hz_kh : w5.heap.size < w8.heap.size := (Array.getElem?_eq_some_iff.1 kh).1
        clear hB8 hm7 hM7 hb8
        clear kx_0 kx_1 kx_2 kx_3 kx_4 kx_5 kx_6 kx_7 kx_8 kh_0 kh_1 kh_2
        have kx_0 : w8.cell? ⟨p, 0, none⟩ = some (.pointer (some ⟨bO, 0, none⟩)) := by rw [cell_of_block kx]; rfl
        have kx_1 : w8.cell? ⟨p, 1, none⟩ = some (.pointer (some ⟨bY, 0, none⟩)) := by rw [cell_of_block kx]; rfl
        have kx_2 : w8.cell? ⟨p, 2, none⟩ = some (.int .i64 0) := by rw [cell_of_block kx]; rfl
        have kx_3 : w8.cell? ⟨p, 3, none⟩ = some (.int .i64 200) := by rw [cell_of_block kx]; rfl
        have kx_4 : w8.cell? ⟨p, 4, none⟩ = some (.slice aO nO cO) := by rw [cell_of_block kx]; rfl
        have kx_5 : w8.cell? ⟨p, 5, none⟩ = some (.int .i64 16777216) := by rw [cell_of_block kx]; rfl
        have kx_6 : w8.cell? ⟨p, 6, none⟩ = some (.int .i64 16777416) := by rw [cell_of_block kx]; rfl
        have kx_7 : w8.cell? ⟨p, 7, none⟩ = some (.slice aY nY cY) := by rw [cell_of_block kx]; rfl
        have kx_8 : w8.cell? ⟨p, 8, none⟩ = some (.slice (some ⟨G, 0, none⟩) (m + 1) lc) := by rw [cell_of_block kx]; rfl
        have kh_0 : w8.cell? ⟨w5.heap.size, 0, none⟩ = some (.int .i64 4) := by rw [cell_of_block kh]; rfl
        have kh_1 : w8.cell? ⟨w5.heap.size, 1, none⟩ = some (.int .i64 hc) := by rw [cell_of_block kh]; rfl
        have kh_2 : w8.cell? ⟨w5.heap.size, 2, none⟩ = some (.int .i64 hf) := by rw [cell_of_block kh]; rfl
        have hwd := fun W (H : Below w8.heap.size w8 W) => wrds_any ((WrdsV.of_row hvb).below H) ((WrdsV.of_row hvc).below H)
        rw [decide_eq_true (Eq.refl (X.wo ++ X.wy))] at hwd
        go_wp2_with fail
        refine (hwd _ (by (repeat (first | exact Below.refl _ _ | assumption | refine Below.drew ?_ | refine below_drewN ?_ _ | refine balloc ?_ _ | refine Below.setCell ?_ (by first | (simp; done) | (simp; omega) | omega) _ | refine bchain (by assumption) ?_)))).mono ?_
        rintro e w9 ⟨rfl, hb9⟩
        have hB9 : Below w8.heap.size w8 w9 := by (repeat (first | exact Below.refl _ _ | assumption | refine Below.drew ?_ | refine below_drewN ?_ _ | refine balloc ?_ _ | refine Below.setCell ?_ (by first | (simp; done) | (simp; omega) | omega) _ | refine bchain (by assumption) ?_))
        have kx := bblock hB9 kx
        have kh := bblock hB9 kh
        have hvb := row_below7 hvb hB9
        have hM9 := Mods.chain hB9 hM8
        have hm9 := hm8.below hB9
        have hs9 : w3.heap.size ≤ w9.heap.size := hM9.size
        clear hz_kx hz_kh
        have hz_kx : p < w9.heap.size := (Array.getElem?_eq_some_iff.1 kx).1
        have hz_kh : w5.heap.size < w9.heap.size := (Array.getElem?_eq_some_iff.1 kh).1
        clear hB9 hm8 hM8 hb9
        clear kx_0 kx_1 kx_2 kx_3 kx_4 kx_5 kx_6 kx_7 kx_8 kh_0 kh_1 kh_2
        have kx_0 : w9.cell? ⟨p, 0, none⟩ = some (.pointer (some ⟨bO, 0, none⟩)) := by rw [cell_of_block kx]; rfl
        have kx_1 : w9.cell? ⟨p, 1, none⟩ = some (.pointer (some ⟨bY, 0, none⟩)) := by rw [cell_of_block kx]; rfl
        have kx_2 : w9.cell? ⟨p, 2, none⟩ = some (.int .i64 0) := by rw [cell_of_block kx]; rfl
        have kx_3 : w9.cell? ⟨p, 3, none⟩ = some (.int .i64 200) := by rw [cell_of_block kx]; rfl
        have kx_4 : w9.cell? ⟨p, 4, none⟩ = some (.slice aO nO cO) := by rw [cell_of_block kx]; rfl
        have kx_5 : w9.cell? ⟨p, 5, none⟩ = some (.int .i64 16777216) := by rw [cell_of_block kx]; rfl
        have kx_6 : w9.cell? ⟨p, 6, none⟩ = some (.int .i64 16777416) := by rw [cell_of_block kx]; rfl
        have kx_7 : w9.cell? ⟨p, 7, none⟩ = some (.slice aY nY cY) := by rw [cell_of_block kx]; rfl
        have kx_8 : w9.cell? ⟨p, 8, none⟩ = some (.slice (some ⟨G, 0, none⟩) (m + 1) lc) := by rw [cell_of_block kx]; rfl
        have kh_0 : w9.cell? ⟨w5.heap.size, 0, none⟩ = some (.int .i64 4) := by rw [cell_of_block kh]; rfl
        have kh_1 : w9.cell? ⟨w5.heap.size, 1, none⟩ = some (.int .i64 hc) := by rw [cell_of_block kh]; rfl
        have kh_2 : w9.cell? ⟨w5.heap.size, 2, none⟩ = some (.int .i64 hf) := by rw [cell_of_block kh]; rfl
        go_wp2
        go_ret
        exact ⟨rfl, hw3.trans ((Mods.chain (show Below w9.heap.size w9 _ from by (repeat (first | exact Below.refl _ _ | assumption | refine Below.drew ?_ | refine below_drewN ?_ _ | refine balloc ?_ _ | refine Below.setCell ?_ (by first | (simp; done) | (simp; omega) | omega) _ | refine bchain (by assumption) ?_))) hM9).below hw3.size hMS)⟩
    have b3 : (hk == 3) = false := by simpa using fun e => es (.inl e)
    have b4 : (hk == 4) = false := by simpa using fun e => es (.inr e)
    by_cases er : pi < 0 ∨ hf ≤ pi
    · obtain ⟨f1, f2, f3⟩ := e3 es er
      rw [f1, f2, f3] at hS1
      clear e2 e3 e4 f1 f2 f3
      by_cases er1 : pi < 0
      · have b1 : decide (pi < 0) = true := by simpa using er1
        have hs3 : w3.heap.size ≤ w3.heap.size := Nat.le_refl _
        have hm3 := hm0
        have hM3 := hM0
        have hB3 : Below w3.heap.size w3 w3 := Below.refl _ _
        go_wp2_with fail
        have o_kx_0 : ∀ x, (over w3 x).cell? ⟨p, 0, none⟩ = some (.pointer (some ⟨bO, 0, none⟩)) := over_cell (by rw [cell_of_block kx]; rfl)
        have o_kx_1 : ∀ x, (over w3 x).cell? ⟨p, 1, none⟩ = some (.pointer (some ⟨bY, 0, none⟩)) := over_cell (by rw [cell_of_block kx]; rfl)
        have o_kx_2 : ∀ x, (over w3 x).cell? ⟨p, 2, none⟩ = some (.int .i64 0) := over_cell (by rw [cell_of_block kx]; rfl)
        have o_kx_3 : ∀ x, (over w3 x).cell? ⟨p, 3, none⟩ = some (.int .i64 200) := over_cell (by rw [cell_of_block kx]; rfl)
        have o_kx_4 : ∀ x, (over w3 x).cell? ⟨p, 4, none⟩ = some (.slice aO nO cO) := over_cell (by rw [cell_of_block kx]; rfl)
        have o_kx_5 : ∀ x, (over w3 x).cell? ⟨p, 5, none⟩ = some (.int .i64 16777216) := over_cell (by rw [cell_of_block kx]; rfl)
        have o_kx_6 : ∀ x, (over w3 x).cell? ⟨p, 6, none⟩ = some (.int .i64 16777416) := over_cell (by rw [cell_of_block kx]; rfl)
        have o_kx_7 : ∀ x, (over w3 x).cell? ⟨p, 7, none⟩ = some (.slice aY nY cY) := over_cell (by rw [cell_of_block kx]; rfl)
        have o_kx_8 : ∀ x, (over w3 x).cell? ⟨p, 8, none⟩ = some (.slice (some ⟨G, 0, none⟩) (m + 1) lc) := over_cell (by rw [cell_of_block kx]; rfl)
        have o_a : ∀ x, (over w3 x).cell? ⟨G, ia, none⟩ = some (.int .i64 ya) := over_cell (qa)
        (refine wp_region_over (by kernel_rfl) (by kernel_rfl) ?_); (repeat (go_big_quiet_step ((fail)))); (refine wpQuiet_nil ?_)
        intro w4 hb4
        clear o_kx_0 o_kx_1 o_kx_2 o_kx_3 o_kx_4 o_kx_5 o_kx_6 o_kx_7 o_kx_8 o_a
        have hB4 : Below w3.heap.size w3 w4 := by (repeat (first | exact Below.refl _ _ | assumption | refine Below.drew ?_ | refine below_drewN ?_ _ | refine balloc ?_ _ | refine Below.setCell ?_ (by first | (simp; done) | (simp; omega) | omega) _ | refine bchain (by assumption) ?_))
        have kx := bblock hB4 kx
        have hM4 := Mods.chain hB4 hM3
        have hm4 := hm3.below hB4
        have hs4 : w3.heap.size ≤ w4.heap.size := hM4.size
        have hz_kx : p < w4.heap.size := (Array.getElem?_eq_some_iff.1 kx).1
        clear hB4 hm3 hM3 hb4
        clear kx_0 kx_1 kx_2 kx_3 kx_4 kx_5 kx_6 kx_7 kx_8
        have kx_0 : w4.cell? ⟨p, 0, none⟩ = some (.pointer (some ⟨bO, 0, none⟩)) := by rw [cell_of_block kx]; rfl
        have kx_1 : w4.cell? ⟨p, 1, none⟩ = some (.pointer (some ⟨bY, 0, none⟩)) := by rw [cell_of_block kx]; rfl
        have kx_2 : w4.cell? ⟨p, 2, none⟩ = some (.int .i64 0) := by rw [cell_of_block kx]; rfl
        have kx_3 : w4.cell? ⟨p, 3, none⟩ = some (.int .i64 200) := by rw [cell_of_block kx]; rfl
        have kx_4 : w4.cell? ⟨p, 4, none⟩ = some (.slice aO nO cO) := by rw [cell_of_block kx]; rfl
        have kx_5 : w4.cell? ⟨p, 5, none⟩ = some (.int .i64 16777216) := by rw [cell_of_block kx]; rfl
        have kx_6 : w4.cell? ⟨p, 6, none⟩ = some (.int .i64 16777416) := by rw [cell_of_block kx]; rfl
        have kx_7 : w4.cell? ⟨p, 7, none⟩ = some (.slice aY nY cY) := by rw [cell_of_block kx]; rfl
        have kx_8 : w4.cell? ⟨p, 8, none⟩ = some (.slice (some ⟨G, 0, none⟩) (m + 1) lc) := by rw [cell_of_block kx]; rfl
        go_wp2_with fail
        refine (hH1 _ (hm4.below (by (repeat (first | exact Below.refl _ _ | assumption | refine Below.drew ?_ | refine below_drewN ?_ _ | refine balloc ?_ _ | refine Below.setCell ?_ (by first | (simp; done) | (simp; omega) | omega) _ | refine bchain (by assumption) ?_))))).mono ?_
        rintro e w5 ⟨rfl, hb5⟩
        have hB5 : Below w4.heap.size w4 w5 := by (repeat (first | exact Below.refl _ _ | assumption | refine Below.drew ?_ | refine below_drewN ?_ _ | refine balloc ?_ _ | refine Below.setCell ?_ (by first | (simp; done) | (simp; omega) | omega) _ | refine bchain (by assumption) ?_))
        have kx := bblock hB5 kx
        have hM5 := Mods.chain hB5 hM4
        have hm5 := hm4.below hB5
        have hs5 : w3.heap.size ≤ w5.heap.size := hM5.size
        clear hz_kx
        have hz_kx : p < w5.heap.size := (Array.getElem?_eq_some_iff.1 kx).1
        clear hB5 hm4 hM4 hb5
        clear kx_0 kx_1 kx_2 kx_3 kx_4 kx_5 kx_6 kx_7 kx_8
        have kx_0 : w5.cell? ⟨p, 0, none⟩ = some (.pointer (some ⟨bO, 0, none⟩)) := by rw [cell_of_block kx]; rfl
        have kx_1 : w5.cell? ⟨p, 1, none⟩ = some (.pointer (some ⟨bY, 0, none⟩)) := by rw [cell_of_block kx]; rfl
        have kx_2 : w5.cell? ⟨p, 2, none⟩ = some (.int .i64 0) := by rw [cell_of_block kx]; rfl
        have kx_3 : w5.cell? ⟨p, 3, none⟩ = some (.int .i64 200) := by rw [cell_of_block kx]; rfl
        have kx_4 : w5.cell? ⟨p, 4, none⟩ = some (.slice aO nO cO) := by rw [cell_of_block kx]; rfl
        have kx_5 : w5.cell? ⟨p, 5, none⟩ = some (.int .i64 16777216) := by rw [cell_of_block kx]; rfl
        have kx_6 : w5.cell? ⟨p, 6, none⟩ = some (.int .i64 16777416) := by rw [cell_of_block kx]; rfl
        have kx_7 : w5.cell? ⟨p, 7, none⟩ = some (.slice aY nY cY) := by rw [cell_of_block kx]; rfl
        have kx_8 : w5.cell? ⟨p, 8, none⟩ = some (.slice (some ⟨G, 0, none⟩) (m + 1) lc) := by rw [cell_of_block kx]; rfl
        go_wp2_with fail
        refine (hW1 _ (hm5.below (by (repeat (first | exact Below.refl _ _ | assumption | refine Below.drew ?_ | refine below_drewN ?_ _ | refine balloc ?_ _ | refine Below.setCell ?_ (by first | (simp; done) | (simp; omega) | omega) _ | refine bchain (by assumption) ?_))))).mono ?_
        rintro e w6 ⟨vb, rfl, hvb, hb6⟩
        have hB6 : Below w5.heap.size w5 w6 := by (repeat (first | exact Below.refl _ _ | assumption | refine Below.drew ?_ | refine below_drewN ?_ _ | refine balloc ?_ _ | refine Below.setCell ?_ (by first | (simp; done) | (simp; omega) | omega) _ | refine bchain (by assumption) ?_))
        have kx := bblock hB6 kx
        have kh : w6.heap[w5.heap.size]? = some (.cells #[.int .i64 hk, .int .i64 hc, .int .i64 hf] 23 (0, 0)) := bblock hb6 (by repeat (first | exact alloc_at _ (by simp) | refine alloc_lt _ ?_))
        have hM6 := Mods.chain hB6 hM5
        have hm6 := hm5.below hB6
        have hs6 : w3.heap.size ≤ w6.heap.size := hM6.size
        clear hz_kx
        have hz_kx : p < w6.heap.size := (Array.getElem?_eq_some_iff.1 kx).1
        have hz_kh : w5.heap.size < w6.heap.size := (Array.getElem?_eq_some_iff.1 kh).1
        clear hB6 hm5 hM5 hb6
        clear kx_0 kx_1 kx_2 kx_3 kx_4 kx_5 kx_6 kx_7 kx_8
        have kx_0 : w6.cell? ⟨p, 0, none⟩ = some (.pointer (some ⟨bO, 0, none⟩)) := by rw [cell_of_block kx]; rfl
        have kx_1 : w6.cell? ⟨p, 1, none⟩ = some (.pointer (some ⟨bY, 0, none⟩)) := by rw [cell_of_block kx]; rfl
        have kx_2 : w6.cell? ⟨p, 2, none⟩ = some (.int .i64 0) := by rw [cell_of_block kx]; rfl
        have kx_3 : w6.cell? ⟨p, 3, none⟩ = some (.int .i64 200) := by rw [cell_of_block kx]; rfl
        have kx_4 : w6.cell? ⟨p, 4, none⟩ = some (.slice aO nO cO) := by rw [cell_of_block kx]; rfl
        have kx_5 : w6.cell? ⟨p, 5, none⟩ = some (.int .i64 16777216) := by rw [cell_of_block kx]; rfl
        have kx_6 : w6.cell? ⟨p, 6, none⟩ = some (.int .i64 16777416) := by rw [cell_of_block kx]; rfl
        have kx_7 : w6.cell? ⟨p, 7, none⟩ = some (.slice aY nY cY) := by rw [cell_of_block kx]; rfl
        have kx_8 : w6.cell? ⟨p, 8, none⟩ = some (.slice (some ⟨G, 0, none⟩) (m + 1) lc) := by rw [cell_of_block kx]; rfl
        have kh_0 : w6.cell? ⟨w5.heap.size, 0, none⟩ = some (.int .i64 hk) := by rw [cell_of_block kh]; rfl
        have kh_1 : w6.cell? ⟨w5.heap.size, 1, none⟩ = some (.int .i64 hc) := by rw [cell_of_block kh]; rfl
        have kh_2 : w6.cell? ⟨w5.heap.size, 2, none⟩ = some (.int .i64 hf) := by rw [cell_of_block kh]; rfl
        have hvb := row_base7 hvb (Nat.le_trans hs5 (show Below w5.heap.size w5 _ from by (repeat (first | exact Below.refl _ _ | assumption | refine Below.drew ?_ | refine below_drewN ?_ _ | refine balloc ?_ _ | refine Below.setCell ?_ (by first | (simp; done) | (simp; omega) | omega) _ | refine bchain (by assumption) ?_))).size)
        go_wp2_with fail
        refine (hS1 _ (hm6.below (by (repeat (first | exact Below.refl _ _ | assumption | refine Below.drew ?_ | refine below_drewN ?_ _ | refine balloc ?_ _ | refine Below.setCell ?_ (by first | (simp; done) | (simp; omega) | omega) _ | refine bchain (by assumption) ?_))))).mono ?_
        rintro e w7 ⟨rfl, hm7, hX7⟩
        have kx := mblock hX7 (bblock (show Below w6.heap.size w6 _ from by (repeat (first | exact Below.refl _ _ | assumption | refine Below.drew ?_ | refine below_drewN ?_ _ | refine balloc ?_ _ | refine Below.setCell ?_ (by first | (simp; done) | (simp; omega) | omega) _ | refine bchain (by assumption) ?_))) kx) hps
        have kh := mblock hX7 (bblock (show Below w6.heap.size w6 _ from by (repeat (first | exact Below.refl _ _ | assumption | refine Below.drew ?_ | refine below_drewN ?_ _ | refine balloc ?_ _ | refine Below.setCell ?_ (by first | (simp; done) | (simp; omega) | omega) _ | refine bchain (by assumption) ?_))) kh) (hn0 _ (by omega))
        have hvb := row_keep (row_below7 hvb (show Below w6.heap.size w6 _ from by (repeat (first | exact Below.refl _ _ | assumption | refine Below.drew ?_ | refine below_drewN ?_ _ | refine balloc ?_ _ | refine Below.setCell ?_ (by first | (simp; done) | (simp; omega) | omega) _ | refine bchain (by assumption) ?_)))) (fun G o e ho => mblock hX7 ho (hn0 G (row_lt hvb G e).2))
        have hM7 := (Mods.chain (show Below w6.heap.size w6 _ from by (repeat (first | exact Below.refl _ _ | assumption | refine Below.drew ?_ | refine below_drewN ?_ _ | refine balloc ?_ _ | refine Below.setCell ?_ (by first | (simp; done) | (simp; omega) | omega) _ | refine bchain (by assumption) ?_))) hM6).trans hX7 (fun i hi => .inl hi)
        have hs7 : w3.heap.size ≤ w7.heap.size := hM7.size
        clear hz_kx hz_kh
        have hz_kx : p < w7.heap.size := (Array.getElem?_eq_some_iff.1 kx).1
        have hz_kh : w5.heap.size < w7.heap.size := (Array.getElem?_eq_some_iff.1 kh).1
        clear hm6 hM6 hX7
        clear kx_0 kx_1 kx_2 kx_3 kx_4 kx_5 kx_6 kx_7 kx_8 kh_0 kh_1 kh_2
        have kx_0 : w7.cell? ⟨p, 0, none⟩ = some (.pointer (some ⟨bO, 0, none⟩)) := by rw [cell_of_block kx]; rfl
        have kx_1 : w7.cell? ⟨p, 1, none⟩ = some (.pointer (some ⟨bY, 0, none⟩)) := by rw [cell_of_block kx]; rfl
        have kx_2 : w7.cell? ⟨p, 2, none⟩ = some (.int .i64 0) := by rw [cell_of_block kx]; rfl
        have kx_3 : w7.cell? ⟨p, 3, none⟩ = some (.int .i64 200) := by rw [cell_of_block kx]; rfl
        have kx_4 : w7.cell? ⟨p, 4, none⟩ = some (.slice aO nO cO) := by rw [cell_of_block kx]; rfl
        have kx_5 : w7.cell? ⟨p, 5, none⟩ = some (.int .i64 16777216) := by rw [cell_of_block kx]; rfl
        have kx_6 : w7.cell? ⟨p, 6, none⟩ = some (.int .i64 16777416) := by rw [cell_of_block kx]; rfl
        have kx_7 : w7.cell? ⟨p, 7, none⟩ = some (.slice aY nY cY) := by rw [cell_of_block kx]; rfl
        have kx_8 : w7.cell? ⟨p, 8, none⟩ = some (.slice (some ⟨G, 0, none⟩) (m + 1) lc) := by rw [cell_of_block kx]; rfl
        have kh_0 : w7.cell? ⟨w5.heap.size, 0, none⟩ = some (.int .i64 hk) := by rw [cell_of_block kh]; rfl
        have kh_1 : w7.cell? ⟨w5.heap.size, 1, none⟩ = some (.int .i64 hc) := by rw [cell_of_block kh]; rfl
        have kh_2 : w7.cell? ⟨w5.heap.size, 2, none⟩ = some (.int .i64 hf) := by rw [cell_of_block kh]; rfl
        go_wp2_with fail
        refine (hW1 _ (hm7.below (by (repeat (first | exact Below.refl _ _ | assumption | refine Below.drew ?_ | refine below_drewN ?_ _ | refine balloc ?_ _ | refine Below.setCell ?_ (by first | (simp; done) | (simp; omega) | omega) _ | refine bchain (by assumption) ?_))))).mono ?_
        rintro e w8 ⟨vc, rfl, hvc, hb8⟩
        have hB8 : Below w7.heap.size w7 w8 := by (repeat (first | exact Below.refl _ _ | assumption | refine Below.drew ?_ | refine below_drewN ?_ _ | refine balloc ?_ _ | refine Below.setCell ?_ (by first | (simp; done) | (simp; omega) | omega) _ | refine bchain (by assumption) ?_))
        have kx := bblock hB8 kx
        have kh := bblock hB8 kh
        have hvb := row_below7 hvb hB8
        have hM8 := Mods.chain hB8 hM7
        have hm8 := hm7.below hB8
        have hs8 : w3.heap.size ≤ w8.heap.size := hM8.size
        clear hz_kx hz_kh
        have hz_kx : p < w8.heap.size := (Array.getElem?_eq_some_iff.1 kx).1
        have hz_kh : w5.heap.size < w8.heap.size := (Array.getElem?_eq_some_iff.1 kh).1
        clear hB8 hm7 hM7 hb8
        clear kx_0 kx_1 kx_2 kx_3 kx_4 kx_5 kx_6 kx_7 kx_8 kh_0 kh_1 kh_2
        have kx_0 : w8.cell? ⟨p, 0, none⟩ = some (.pointer (some ⟨bO, 0, none⟩)) := by rw [cell_of_block kx]; rfl
        have kx_1 : w8.cell? ⟨p, 1, none⟩ = some (.pointer (some ⟨bY, 0, none⟩)) := by rw [cell_of_block kx]; rfl
        have kx_2 : w8.cell? ⟨p, 2, none⟩ = some (.int .i64 0) := by rw [cell_of_block kx]; rfl
        have kx_3 : w8.cell? ⟨p, 3, none⟩ = some (.int .i64 200) := by rw [cell_of_block kx]; rfl
        have kx_4 : w8.cell? ⟨p, 4, none⟩ = some (.slice aO nO cO) := by rw [cell_of_block kx]; rfl
        have kx_5 : w8.cell? ⟨p, 5, none⟩ = some (.int .i64 16777216) := by rw [cell_of_block kx]; rfl
        have kx_6 : w8.cell? ⟨p, 6, none⟩ = some (.int .i64 16777416) := by rw [cell_of_block kx]; rfl
        have kx_7 : w8.cell? ⟨p, 7, none⟩ = some (.slice aY nY cY) := by rw [cell_of_block kx]; rfl
        have kx_8 : w8.cell? ⟨p, 8, none⟩ = some (.slice (some ⟨G, 0, none⟩) (m + 1) lc) := by rw [cell_of_block kx]; rfl
        have kh_0 : w8.cell? ⟨w5.heap.size, 0, none⟩ = some (.int .i64 hk) := by rw [cell_of_block kh]; rfl
        have kh_1 : w8.cell? ⟨w5.heap.size, 1, none⟩ = some (.int .i64 hc) := by rw [cell_of_block kh]; rfl
        have kh_2 : w8.cell? ⟨w5.heap.size, 2, none⟩ = some (.int .i64 hf) := by rw [cell_of_block kh]; rfl
        have hwd := fun W (H : Below w8.heap.size w8 W) => wrds_any ((WrdsV.of_row hvb).below H) ((WrdsV.of_row hvc).below H)
        rw [decide_eq_true (Eq.refl (X.wo ++ X.wy))] at hwd
        go_wp2_with fail
        refine (hwd _ (by (repeat (first | exact Below.refl _ _ | assumption | refine Below.drew ?_ | refine below_drewN ?_ _ | refine balloc ?_ _ | refine Below.setCell ?_ (by first | (simp; done) | (simp; omega) | omega) _ | refine bchain (by assumption) ?_)))).mono ?_
        rintro e w9 ⟨rfl, hb9⟩
        have hB9 : Below w8.heap.size w8 w9 := by (repeat (first | exact Below.refl _ _ | assumption | refine Below.drew ?_ | refine below_drewN ?_ _ | refine balloc ?_ _ | refine Below.setCell ?_ (by first | (simp; done) | (simp; omega) | omega) _ | refine bchain (by assumption) ?_))
        have kx := bblock hB9 kx
        have kh := bblock hB9 kh
        have hvb := row_below7 hvb hB9
        have hM9 := Mods.chain hB9 hM8
        have hm9 := hm8.below hB9
        have hs9 : w3.heap.size ≤ w9.heap.size := hM9.size
        clear hz_kx hz_kh
        have hz_kx : p < w9.heap.size := (Array.getElem?_eq_some_iff.1 kx).1
        have hz_kh : w5.heap.size < w9.heap.size := (Array.getElem?_eq_some_iff.1 kh).1
        clear hB9 hm8 hM8 hb9
        clear kx_0 kx_1 kx_2 kx_3 kx_4 kx_5 kx_6 kx_7 kx_8 kh_0 kh_1 kh_2
        have kx_0 : w9.cell? ⟨p, 0, none⟩ = some (.pointer (some ⟨bO, 0, none⟩)) := by rw [cell_of_block kx]; rfl
        have kx_1 : w9.cell? ⟨p, 1, none⟩ = some (.pointer (some ⟨bY, 0, none⟩)) := by rw [cell_of_block kx]; rfl
        have kx_2 : w9.cell? ⟨p, 2, none⟩ = some (.int .i64 0) := by rw [cell_of_block kx]; rfl
        have kx_3 : w9.cell? ⟨p, 3, none⟩ = some (.int .i64 200) := by rw [cell_of_block kx]; rfl
        have kx_4 : w9.cell? ⟨p, 4, none⟩ = some (.slice aO nO cO) := by rw [cell_of_block kx]; rfl
        have kx_5 : w9.cell? ⟨p, 5, none⟩ = some (.int .i64 16777216) := by rw [cell_of_block kx]; rfl
        have kx_6 : w9.cell? ⟨p, 6, none⟩ = some (.int .i64 16777416) := by rw [cell_of_block kx]; rfl
        have kx_7 : w9.cell? ⟨p, 7, none⟩ = some (.slice aY nY cY) := by rw [cell_of_block kx]; rfl
        have kx_8 : w9.cell? ⟨p, 8, none⟩ = some (.slice (some ⟨G, 0, none⟩) (m + 1) lc) := by rw [cell_of_block kx]; rfl
        have kh_0 : w9.cell? ⟨w5.heap.size, 0, none⟩ = some (.int .i64 hk) := by rw [cell_of_block kh]; rfl
        have kh_1 : w9.cell? ⟨w5.heap.size, 1, none⟩ = some (.int .i64 hc) := by rw [cell_of_block kh]; rfl
        have kh_2 : w9.cell? ⟨w5.heap.size, 2, none⟩ = some (.int .i64 hf) := by rw [cell_of_block kh]; rfl
        go_wp2
        go_ret
        exact ⟨rfl, hw3.trans ((Mods.chain (show Below w9.heap.size w9 _ from by (repeat (first | exact Below.refl _ _ | assumption | refine Below.drew ?_ | refine below_drewN ?_ _ | refine balloc ?_ _ | refine Below.setCell ?_ (by first | (simp; done) | (simp; omega) | omega) _ | refine bchain (by assumption) ?_))) hM9).below hw3.size hMS)⟩
      · have b1 : decide (pi < 0) = false := by simpa using er1
        have b2 : decide (hf ≤ pi) = true := by simpa using er.resolve_left er1
        have hs3 : w3.heap.size ≤ w3.heap.size := Nat.le_refl _
        have hm3 := hm0
        have hM3 := hM0
        have hB3 : Below w3.heap.size w3 w3 := Below.refl _ _
        go_wp2_with fail
        have o_kx_0 : ∀ x, (over w3 x).cell? ⟨p, 0, none⟩ = some (.pointer (some ⟨bO, 0, none⟩)) := over_cell (by rw [cell_of_block kx]; rfl)
        have o_kx_1 : ∀ x, (over w3 x).cell? ⟨p, 1, none⟩ = some (.pointer (some ⟨bY, 0, none⟩)) := over_cell (by rw [cell_of_block kx]; rfl)
        have o_kx_2 : ∀ x, (over w3 x).cell? ⟨p, 2, none⟩ = some (.int .i64 0) := over_cell (by rw [cell_of_block kx]; rfl)
        have o_kx_3 : ∀ x, (over w3 x).cell? ⟨p, 3, none⟩ = some (.int .i64 200) := over_cell (by rw [cell_of_block kx]; rfl)
        have o_kx_4 : ∀ x, (over w3 x).cell? ⟨p, 4, none⟩ = some (.slice aO nO cO) := over_cell (by rw [cell_of_block kx]; rfl)
        have o_kx_5 : ∀ x, (over w3 x).cell? ⟨p, 5, none⟩ = some (.int .i64 16777216) := over_cell (by rw [cell_of_block kx]; rfl)
        have o_kx_6 : ∀ x, (over w3 x).cell? ⟨p, 6, none⟩ = some (.int .i64 16777416) := over_cell (by rw [cell_of_block kx]; rfl)
        have o_kx_7 : ∀ x, (over w3 x).cell? ⟨p, 7, none⟩ = some (.slice aY nY cY) := over_cell (by rw [cell_of_block kx]; rfl)
        have o_kx_8 : ∀ x, (over w3 x).cell? ⟨p, 8, none⟩ = some (.slice (some ⟨G, 0, none⟩) (m + 1) lc) := over_cell (by rw [cell_of_block kx]; rfl)
        have o_a : ∀ x, (over w3 x).cell? ⟨G, ia, none⟩ = some (.int .i64 ya) := over_cell (qa)
        (refine wp_region_over (by kernel_rfl) (by kernel_rfl) ?_); (repeat (go_big_quiet_step ((fail)))); (refine wpQuiet_nil ?_)
        intro w4 hb4
        clear o_kx_0 o_kx_1 o_kx_2 o_kx_3 o_kx_4 o_kx_5 o_kx_6 o_kx_7 o_kx_8 o_a
        have hB4 : Below w3.heap.size w3 w4 := by (repeat (first | exact Below.refl _ _ | assumption | refine Below.drew ?_ | refine below_drewN ?_ _ | refine balloc ?_ _ | refine Below.setCell ?_ (by first | (simp; done) | (simp; omega) | omega) _ | refine bchain (by assumption) ?_))
        have kx := bblock hB4 kx
        have hM4 := Mods.chain hB4 hM3
        have hm4 := hm3.below hB4
        have hs4 : w3.heap.size ≤ w4.heap.size := hM4.size
        have hz_kx : p < w4.heap.size := (Array.getElem?_eq_some_iff.1 kx).1
        clear hB4 hm3 hM3 hb4
        clear kx_0 kx_1 kx_2 kx_3 kx_4 kx_5 kx_6 kx_7 kx_8
        have kx_0 : w4.cell? ⟨p, 0, none⟩ = some (.pointer (some ⟨bO, 0, none⟩)) := by rw [cell_of_block kx]; rfl
        have kx_1 : w4.cell? ⟨p, 1, none⟩ = some (.pointer (some ⟨bY, 0, none⟩)) := by rw [cell_of_block kx]; rfl
        have kx_2 : w4.cell? ⟨p, 2, none⟩ = some (.int .i64 0) := by rw [cell_of_block kx]; rfl
        have kx_3 : w4.cell? ⟨p, 3, none⟩ = some (.int .i64 200) := by rw [cell_of_block kx]; rfl
        have kx_4 : w4.cell? ⟨p, 4, none⟩ = some (.slice aO nO cO) := by rw [cell_of_block kx]; rfl
        have kx_5 : w4.cell? ⟨p, 5, none⟩ = some (.int .i64 16777216) := by rw [cell_of_block kx]; rfl
        have kx_6 : w4.cell? ⟨p, 6, none⟩ = some (.int .i64 16777416) := by rw [cell_of_block kx]; rfl
        have kx_7 : w4.cell? ⟨p, 7, none⟩ = some (.slice aY nY cY) := by rw [cell_of_block kx]; rfl
        have kx_8 : w4.cell? ⟨p, 8, none⟩ = some (.slice (some ⟨G, 0, none⟩) (m + 1) lc) := by rw [cell_of_block kx]; rfl
        go_wp2_with fail
        refine (hH1 _ (hm4.below (by (repeat (first | exact Below.refl _ _ | assumption | refine Below.drew ?_ | refine below_drewN ?_ _ | refine balloc ?_ _ | refine Below.setCell ?_ (by first | (simp; done) | (simp; omega) | omega) _ | refine bchain (by assumption) ?_))))).mono ?_
        rintro e w5 ⟨rfl, hb5⟩
        have hB5 : Below w4.heap.size w4 w5 := by (repeat (first | exact Below.refl _ _ | assumption | refine Below.drew ?_ | refine below_drewN ?_ _ | refine balloc ?_ _ | refine Below.setCell ?_ (by first | (simp; done) | (simp; omega) | omega) _ | refine bchain (by assumption) ?_))
        have kx := bblock hB5 kx
        have hM5 := Mods.chain hB5 hM4
        have hm5 := hm4.below hB5
        have hs5 : w3.heap.size ≤ w5.heap.size := hM5.size
        clear hz_kx
        have hz_kx : p < w5.heap.size := (Array.getElem?_eq_some_iff.1 kx).1
        clear hB5 hm4 hM4 hb5
        clear kx_0 kx_1 kx_2 kx_3 kx_4 kx_5 kx_6 kx_7 kx_8
        have kx_0 : w5.cell? ⟨p, 0, none⟩ = some (.pointer (some ⟨bO, 0, none⟩)) := by rw [cell_of_block kx]; rfl
        have kx_1 : w5.cell? ⟨p, 1, none⟩ = some (.pointer (some ⟨bY, 0, none⟩)) := by rw [cell_of_block kx]; rfl
        have kx_2 : w5.cell? ⟨p, 2, none⟩ = some (.int .i64 0) := by rw [cell_of_block kx]; rfl
        have kx_3 : w5.cell? ⟨p, 3, none⟩ = some (.int .i64 200) := by rw [cell_of_block kx]; rfl
        have kx_4 : w5.cell? ⟨p, 4, none⟩ = some (.slice aO nO cO) := by rw [cell_of_block kx]; rfl
        have kx_5 : w5.cell? ⟨p, 5, none⟩ = some (.int .i64 16777216) := by rw [cell_of_block kx]; rfl
        have kx_6 : w5.cell? ⟨p, 6, none⟩ = some (.int .i64 16777416) := by rw [cell_of_block kx]; rfl
        have kx_7 : w5.cell? ⟨p, 7, none⟩ = some (.slice aY nY cY) := by rw [cell_of_block kx]; rfl
        have kx_8 : w5.cell? ⟨p, 8, none⟩ = some (.slice (some ⟨G, 0, none⟩) (m + 1) lc) := by rw [cell_of_block kx]; rfl
        go_wp2_with fail
        refine (hW1 _ (hm5.below (by (repeat (first | exact Below.refl _ _ | assumption | refine Below.drew ?_ | refine below_drewN ?_ _ | refine balloc ?_ _ | refine Below.setCell ?_ (by first | (simp; done) | (simp; omega) | omega) _ | refine bchain (by assumption) ?_))))).mono ?_
        rintro e w6 ⟨vb, rfl, hvb, hb6⟩
        have hB6 : Below w5.heap.size w5 w6 := by (repeat (first | exact Below.refl _ _ | assumption | refine Below.drew ?_ | refine below_drewN ?_ _ | refine balloc ?_ _ | refine Below.setCell ?_ (by first | (simp; done) | (simp; omega) | omega) _ | refine bchain (by assumption) ?_))
        have kx := bblock hB6 kx
        have kh : w6.heap[w5.heap.size]? = some (.cells #[.int .i64 hk, .int .i64 hc, .int .i64 hf] 23 (0, 0)) := bblock hb6 (by repeat (first | exact alloc_at _ (by simp) | refine alloc_lt _ ?_))
        have hM6 := Mods.chain hB6 hM5
        have hm6 := hm5.below hB6
        have hs6 : w3.heap.size ≤ w6.heap.size := hM6.size
        clear hz_kx
        have hz_kx : p < w6.heap.size := (Array.getElem?_eq_some_iff.1 kx).1
        have hz_kh : w5.heap.size < w6.heap.size := (Array.getElem?_eq_some_iff.1 kh).1
        clear hB6 hm5 hM5 hb6
        clear kx_0 kx_1 kx_2 kx_3 kx_4 kx_5 kx_6 kx_7 kx_8
        have kx_0 : w6.cell? ⟨p, 0, none⟩ = some (.pointer (some ⟨bO, 0, none⟩)) := by rw [cell_of_block kx]; rfl
        have kx_1 : w6.cell? ⟨p, 1, none⟩ = some (.pointer (some ⟨bY, 0, none⟩)) := by rw [cell_of_block kx]; rfl
        have kx_2 : w6.cell? ⟨p, 2, none⟩ = some (.int .i64 0) := by rw [cell_of_block kx]; rfl
        have kx_3 : w6.cell? ⟨p, 3, none⟩ = some (.int .i64 200) := by rw [cell_of_block kx]; rfl
        have kx_4 : w6.cell? ⟨p, 4, none⟩ = some (.slice aO nO cO) := by rw [cell_of_block kx]; rfl
        have kx_5 : w6.cell? ⟨p, 5, none⟩ = some (.int .i64 16777216) := by rw [cell_of_block kx]; rfl
        have kx_6 : w6.cell? ⟨p, 6, none⟩ = some (.int .i64 16777416) := by rw [cell_of_block kx]; rfl
        have kx_7 : w6.cell? ⟨p, 7, none⟩ = some (.slice aY nY cY) := by rw [cell_of_block kx]; rfl
        have kx_8 : w6.cell? ⟨p, 8, none⟩ = some (.slice (some ⟨G, 0, none⟩) (m + 1) lc) := by rw [cell_of_block kx]; rfl
        have kh_0 : w6.cell? ⟨w5.heap.size, 0, none⟩ = some (.int .i64 hk) := by rw [cell_of_block kh]; rfl
        have kh_1 : w6.cell? ⟨w5.heap.size, 1, none⟩ = some (.int .i64 hc) := by rw [cell_of_block kh]; rfl
        have kh_2 : w6.cell? ⟨w5.heap.size, 2, none⟩ = some (.int .i64 hf) := by rw [cell_of_block kh]; rfl
        have hvb := row_base7 hvb (Nat.le_trans hs5 (show Below w5.heap.size w5 _ from by (repeat (first | exact Below.refl _ _ | assumption | refine Below.drew ?_ | refine below_drewN ?_ _ | refine balloc ?_ _ | refine Below.setCell ?_ (by first | (simp; done) | (simp; omega) | omega) _ | refine bchain (by assumption) ?_))).size)
        go_wp2_with fail
        refine (hS1 _ (hm6.below (by (repeat (first | exact Below.refl _ _ | assumption | refine Below.drew ?_ | refine below_drewN ?_ _ | refine balloc ?_ _ | refine Below.setCell ?_ (by first | (simp; done) | (simp; omega) | omega) _ | refine bchain (by assumption) ?_))))).mono ?_
        rintro e w7 ⟨rfl, hm7, hX7⟩
        have kx := mblock hX7 (bblock (show Below w6.heap.size w6 _ from by (repeat (first | exact Below.refl _ _ | assumption | refine Below.drew ?_ | refine below_drewN ?_ _ | refine balloc ?_ _ | refine Below.setCell ?_ (by first | (simp; done) | (simp; omega) | omega) _ | refine bchain (by assumption) ?_))) kx) hps
        have kh := mblock hX7 (bblock (show Below w6.heap.size w6 _ from by (repeat (first | exact Below.refl _ _ | assumption | refine Below.drew ?_ | refine below_drewN ?_ _ | refine balloc ?_ _ | refine Below.setCell ?_ (by first | (simp; done) | (simp; omega) | omega) _ | refine bchain (by assumption) ?_))) kh) (hn0 _ (by omega))
        have hvb := row_keep (row_below7 hvb (show Below w6.heap.size w6 _ from by (repeat (first | exact Below.refl _ _ | assumption | refine Below.drew ?_ | refine below_drewN ?_ _ | refine balloc ?_ _ | refine Below.setCell ?_ (by first | (simp; done) | (simp; omega) | omega) _ | refine bchain (by assumption) ?_)))) (fun G o e ho => mblock hX7 ho (hn0 G (row_lt hvb G e).2))
        have hM7 := (Mods.chain (show Below w6.heap.size w6 _ from by (repeat (first | exact Below.refl _ _ | assumption | refine Below.drew ?_ | refine below_drewN ?_ _ | refine balloc ?_ _ | refine Below.setCell ?_ (by first | (simp; done) | (simp; omega) | omega) _ | refine bchain (by assumption) ?_))) hM6).trans hX7 (fun i hi => .inl hi)
        have hs7 : w3.heap.size ≤ w7.heap.size := hM7.size
        clear hz_kx hz_kh
        have hz_kx : p < w7.heap.size := (Array.getElem?_eq_some_iff.1 kx).1
        have hz_kh : w5.heap.size < w7.heap.size := (Array.getElem?_eq_some_iff.1 kh).1
        clear hm6 hM6 hX7
        clear kx_0 kx_1 kx_2 kx_3 kx_4 kx_5 kx_6 kx_7 kx_8 kh_0 kh_1 kh_2
        have kx_0 : w7.cell? ⟨p, 0, none⟩ = some (.pointer (some ⟨bO, 0, none⟩)) := by rw [cell_of_block kx]; rfl
        have kx_1 : w7.cell? ⟨p, 1, none⟩ = some (.pointer (some ⟨bY, 0, none⟩)) := by rw [cell_of_block kx]; rfl
        have kx_2 : w7.cell? ⟨p, 2, none⟩ = some (.int .i64 0) := by rw [cell_of_block kx]; rfl
        have kx_3 : w7.cell? ⟨p, 3, none⟩ = some (.int .i64 200) := by rw [cell_of_block kx]; rfl
        have kx_4 : w7.cell? ⟨p, 4, none⟩ = some (.slice aO nO cO) := by rw [cell_of_block kx]; rfl
        have kx_5 : w7.cell? ⟨p, 5, none⟩ = some (.int .i64 16777216) := by rw [cell_of_block kx]; rfl
        have kx_6 : w7.cell? ⟨p, 6, none⟩ = some (.int .i64 16777416) := by rw [cell_of_block kx]; rfl
        have kx_7 : w7.cell? ⟨p, 7, none⟩ = some (.slice aY nY cY) := by rw [cell_of_block kx]; rfl
        have kx_8 : w7.cell? ⟨p, 8, none⟩ = some (.slice (some ⟨G, 0, none⟩) (m + 1) lc) := by rw [cell_of_block kx]; rfl
        have kh_0 : w7.cell? ⟨w5.heap.size, 0, none⟩ = some (.int .i64 hk) := by rw [cell_of_block kh]; rfl
        have kh_1 : w7.cell? ⟨w5.heap.size, 1, none⟩ = some (.int .i64 hc) := by rw [cell_of_block kh]; rfl
        have kh_2 : w7.cell? ⟨w5.heap.size, 2, none⟩ = some (.int .i64 hf) := by rw [cell_of_block kh]; rfl
        go_wp2_with fail
        refine (hW1 _ (hm7.below (by (repeat (first | exact Below.refl _ _ | assumption | refine Below.drew ?_ | refine below_drewN ?_ _ | refine balloc ?_ _ | refine Below.setCell ?_ (by first | (simp; done) | (simp; omega) | omega) _ | refine bchain (by assumption) ?_))))).mono ?_
        rintro e w8 ⟨vc, rfl, hvc, hb8⟩
        have hB8 : Below w7.heap.size w7 w8 := by (repeat (first | exact Below.refl _ _ | assumption | refine Below.drew ?_ | refine below_drewN ?_ _ | refine balloc ?_ _ | refine Below.setCell ?_ (by first | (simp; done) | (simp; omega) | omega) _ | refine bchain (by assumption) ?_))
        have kx := bblock hB8 kx
        have kh := bblock hB8 kh
        have hvb := row_below7 hvb hB8
        have hM8 := Mods.chain hB8 hM7
        have hm8 := hm7.below hB8
        have hs8 : w3.heap.size ≤ w8.heap.size := hM8.size
        clear hz_kx hz_kh
        have hz_kx : p < w8.heap.size := (Array.getElem?_eq_some_iff.1 kx).1
        have hz_kh : w5.heap.size < w8.heap.size := (Array.getElem?_eq_some_iff.1 kh).1
        clear hB8 hm7 hM7 hb8
        clear kx_0 kx_1 kx_2 kx_3 kx_4 kx_5 kx_6 kx_7 kx_8 kh_0 kh_1 kh_2
        have kx_0 : w8.cell? ⟨p, 0, none⟩ = some (.pointer (some ⟨bO, 0, none⟩)) := by rw [cell_of_block kx]; rfl
        have kx_1 : w8.cell? ⟨p, 1, none⟩ = some (.pointer (some ⟨bY, 0, none⟩)) := by rw [cell_of_block kx]; rfl
        have kx_2 : w8.cell? ⟨p, 2, none⟩ = some (.int .i64 0) := by rw [cell_of_block kx]; rfl
        have kx_3 : w8.cell? ⟨p, 3, none⟩ = some (.int .i64 200) := by rw [cell_of_block kx]; rfl
        have kx_4 : w8.cell? ⟨p, 4, none⟩ = some (.slice aO nO cO) := by rw [cell_of_block kx]; rfl
        have kx_5 : w8.cell? ⟨p, 5, none⟩ = some (.int .i64 16777216) := by rw [cell_of_block kx]; rfl
        have kx_6 : w8.cell? ⟨p, 6, none⟩ = some (.int .i64 16777416) := by rw [cell_of_block kx]; rfl
        have kx_7 : w8.cell? ⟨p, 7, none⟩ = some (.slice aY nY cY) := by rw [cell_of_block kx]; rfl
        have kx_8 : w8.cell? ⟨p, 8, none⟩ = some (.slice (some ⟨G, 0, none⟩) (m + 1) lc) := by rw [cell_of_block kx]; rfl
        have kh_0 : w8.cell? ⟨w5.heap.size, 0, none⟩ = some (.int .i64 hk) := by rw [cell_of_block kh]; rfl
        have kh_1 : w8.cell? ⟨w5.heap.size, 1, none⟩ = some (.int .i64 hc) := by rw [cell_of_block kh]; rfl
        have kh_2 : w8.cell? ⟨w5.heap.size, 2, none⟩ = some (.int .i64 hf) := by rw [cell_of_block kh]; rfl
        have hwd := fun W (H : Below w8.heap.size w8 W) => wrds_any ((WrdsV.of_row hvb).below H) ((WrdsV.of_row hvc).below H)
        rw [decide_eq_true (Eq.refl (X.wo ++ X.wy))] at hwd
        go_wp2_with fail
        refine (hwd _ (by (repeat (first | exact Below.refl _ _ | assumption | refine Below.drew ?_ | refine below_drewN ?_ _ | refine balloc ?_ _ | refine Below.setCell ?_ (by first | (simp; done) | (simp; omega) | omega) _ | refine bchain (by assumption) ?_)))).mono ?_
        rintro e w9 ⟨rfl, hb9⟩
        have hB9 : Below w8.heap.size w8 w9 := by (repeat (first | exact Below.refl _ _ | assumption | refine Below.drew ?_ | refine below_drewN ?_ _ | refine balloc ?_ _ | refine Below.setCell ?_ (by first | (simp; done) | (simp; omega) | omega) _ | refine bchain (by assumption) ?_))
        have kx := bblock hB9 kx
        have kh := bblock hB9 kh
        have hvb := row_below7 hvb hB9
        have hM9 := Mods.chain hB9 hM8
        have hm9 := hm8.below hB9
        have hs9 : w3.heap.size ≤ w9.heap.size := hM9.size
        clear hz_kx hz_kh
        have hz_kx : p < w9.heap.size := (Array.getElem?_eq_some_iff.1 kx).1
        have hz_kh : w5.heap.size < w9.heap.size := (Array.getElem?_eq_some_iff.1 kh).1
        clear hB9 hm8 hM8 hb9
        clear kx_0 kx_1 kx_2 kx_3 kx_4 kx_5 kx_6 kx_7 kx_8 kh_0 kh_1 kh_2
        have kx_0 : w9.cell? ⟨p, 0, none⟩ = some (.pointer (some ⟨bO, 0, none⟩)) := by rw [cell_of_block kx]; rfl
        have kx_1 : w9.cell? ⟨p, 1, none⟩ = some (.pointer (some ⟨bY, 0, none⟩)) := by rw [cell_of_block kx]; rfl
        have kx_2 : w9.cell? ⟨p, 2, none⟩ = some (.int .i64 0) := by rw [cell_of_block kx]; rfl
        have kx_3 : w9.cell? ⟨p, 3, none⟩ = some (.int .i64 200) := by rw [cell_of_block kx]; rfl
        have kx_4 : w9.cell? ⟨p, 4, none⟩ = some (.slice aO nO cO) := by rw [cell_of_block kx]; rfl
        have kx_5 : w9.cell? ⟨p, 5, none⟩ = some (.int .i64 16777216) := by rw [cell_of_block kx]; rfl
        have kx_6 : w9.cell? ⟨p, 6, none⟩ = some (.int .i64 16777416) := by rw [cell_of_block kx]; rfl
        have kx_7 : w9.cell? ⟨p, 7, none⟩ = some (.slice aY nY cY) := by rw [cell_of_block kx]; rfl
        have kx_8 : w9.cell? ⟨p, 8, none⟩ = some (.slice (some ⟨G, 0, none⟩) (m + 1) lc) := by rw [cell_of_block kx]; rfl
        have kh_0 : w9.cell? ⟨w5.heap.size, 0, none⟩ = some (.int .i64 hk) := by rw [cell_of_block kh]; rfl
        have kh_1 : w9.cell? ⟨w5.heap.size, 1, none⟩ = some (.int .i64 hc) := by rw [cell_of_block kh]; rfl
        have kh_2 : w9.cell? ⟨w5.heap.size, 2, none⟩ = some (.int .i64 hf) := by rw [cell_of_block kh]; rfl
        go_wp2
        go_ret
        exact ⟨rfl, hw3.trans ((Mods.chain (show Below w9.heap.size w9 _ from by (repeat (first | exact Below.refl _ _ | assumption | refine Below.drew ?_ | refine below_drewN ?_ _ | refine balloc ?_ _ | refine Below.setCell ?_ (by first | (simp; done) | (simp; omega) | omega) _ | refine bchain (by assumption) ?_))) hM9).below hw3.size hMS)⟩
    obtain ⟨f1, f2, f3, f4, f5, f6, f7, f8, f9, f10⟩ := e4 es er
    have b1 : decide (pi < 0) = false := by simpa using fun e => er (.inl e)
    have b2 : decide (hf ≤ pi) = false := by simpa using fun e => er (.inr e)
    rw [f1] at hS1
    have hF1 := fun W (H : MemAt W bO bY 200 16777416 (sfO X.wo X.wy ya pi pu) (sfY X.wo X.wy ya pi pu) gO gY) => mfield_any H ya
    have hI1 := fun W (H : MemAt W bO bY 200 16777416 (sfO X.wo X.wy ya pi pu) (sfY X.wo X.wy ya pi pu) gO gY) => index_any H (ya + 2 + pi) (by omega)
    have hT1 := fun W (H : MemAt W bO bY 200 16777416 (sfO X.wo X.wy ya pi pu) (sfY X.wo X.wy ya pi pu) gO gY) => mstore_any H (ya + 2 + pi) (LD X.wo X.wy (ya + 2 + pi)) (hm0.ldU _)
    have hix : ixA (sfO X.wo X.wy ya pi pu) (ya + 2 + pi) = ixA X.wo (ya + 2 + pi) := by unfold ixA; rw [f4]
    rw [hix] at hI1
    rw [f5, f9, f10] at hT1
    have hF2 := fun W (H : MemAt W bO bY 200 16777416 (sfO X.wo X.wy ya pi pu) (sfY X.wo X.wy ya pi pu) gO gY) => hF1 W H pi
    rw [f2, f3 pi (by omega) (by omega)] at hF2
    have hF3 := fun W (H : MemAt W bO bY 200 16777416 (sfO X.wo X.wy ya pi pu) (sfY X.wo X.wy ya pi pu) gO gY) (k : Int) (h0 : 0 ≤ k) (h1 : k < hf) => (f3 k h0 h1 ▸ hF1 W H k : Calls Try.prog 26 _ W fun e w' => e = .returned (.tuple #[.int .u64 (FV (sfO X.wo X.wy ya pi pu) (sfY X.wo X.wy ya pi pu) ya k), .int .i64 0]) ∧ Below W.heap.size W w')
    clear e2 e3 e4 f1 f3 f4 f5 f9 f10 hix hF1
    generalize sfO X.wo X.wy ya pi pu = zo at *
    generalize sfY X.wo X.wy ya pi pu = zy at *
    generalize LD X.wo X.wy (ya + 2 + pi) = lw at *
    generalize ixA X.wo (ya + 2 + pi) = ix at *
    have hs3 : w3.heap.size ≤ w3.heap.size := Nat.le_refl _
    have hm3 := hm0
    have hM3 := hM0
    have hB3 : Below w3.heap.size w3 w3 := Below.refl _ _
    go_wp2_with fail
    have o_kx_0 : ∀ x, (over w3 x).cell? ⟨p, 0, none⟩ = some (.pointer (some ⟨bO, 0, none⟩)) := over_cell (by rw [cell_of_block kx]; rfl)
    have o_kx_1 : ∀ x, (over w3 x).cell? ⟨p, 1, none⟩ = some (.pointer (some ⟨bY, 0, none⟩)) := over_cell (by rw [cell_of_block kx]; rfl)
    have o_kx_2 : ∀ x, (over w3 x).cell? ⟨p, 2, none⟩ = some (.int .i64 0) := over_cell (by rw [cell_of_block kx]; rfl)
    have o_kx_3 : ∀ x, (over w3 x).cell? ⟨p, 3, none⟩ = some (.int .i64 200) := over_cell (by rw [cell_of_block kx]; rfl)
    have o_kx_4 : ∀ x, (over w3 x).cell? ⟨p, 4, none⟩ = some (.slice aO nO cO) := over_cell (by rw [cell_of_block kx]; rfl)
    have o_kx_5 : ∀ x, (over w3 x).cell? ⟨p, 5, none⟩ = some (.int .i64 16777216) := over_cell (by rw [cell_of_block kx]; rfl)
    have o_kx_6 : ∀ x, (over w3 x).cell? ⟨p, 6, none⟩ = some (.int .i64 16777416) := over_cell (by rw [cell_of_block kx]; rfl)
    have o_kx_7 : ∀ x, (over w3 x).cell? ⟨p, 7, none⟩ = some (.slice aY nY cY) := over_cell (by rw [cell_of_block kx]; rfl)
    have o_kx_8 : ∀ x, (over w3 x).cell? ⟨p, 8, none⟩ = some (.slice (some ⟨G, 0, none⟩) (m + 1) lc) := over_cell (by rw [cell_of_block kx]; rfl)
    have o_a : ∀ x, (over w3 x).cell? ⟨G, ia, none⟩ = some (.int .i64 ya) := over_cell (qa)
    (refine wp_region_over (by kernel_rfl) (by kernel_rfl) ?_); (repeat (go_big_quiet_step ((fail)))); (refine wpQuiet_nil ?_)
    intro w4 hb4
    clear o_kx_0 o_kx_1 o_kx_2 o_kx_3 o_kx_4 o_kx_5 o_kx_6 o_kx_7 o_kx_8 o_a
    have hB4 : Below w3.heap.size w3 w4 := by (repeat (first | exact Below.refl _ _ | assumption | refine Below.drew ?_ | refine below_drewN ?_ _ | refine balloc ?_ _ | refine Below.setCell ?_ (by first | (simp; done) | (simp; omega) | omega) _ | refine bchain (by assumption) ?_))
    have kx := bblock hB4 kx
    have hM4 := Mods.chain hB4 hM3
    have hm4 := hm3.below hB4
    have hs4 : w3.heap.size ≤ w4.heap.size := hM4.size
    have hz_kx : p < w4.heap.size := (Array.getElem?_eq_some_iff.1 kx).1
    clear hB4 hm3 hM3 hb4
    clear kx_0 kx_1 kx_2 kx_3 kx_4 kx_5 kx_6 kx_7 kx_8
    have kx_0 : w4.cell? ⟨p, 0, none⟩ = some (.pointer (some ⟨bO, 0, none⟩)) := by rw [cell_of_block kx]; rfl
    have kx_1 : w4.cell? ⟨p, 1, none⟩ = some (.pointer (some ⟨bY, 0, none⟩)) := by rw [cell_of_block kx]; rfl
    have kx_2 : w4.cell? ⟨p, 2, none⟩ = some (.int .i64 0) := by rw [cell_of_block kx]; rfl
    have kx_3 : w4.cell? ⟨p, 3, none⟩ = some (.int .i64 200) := by rw [cell_of_block kx]; rfl
    have kx_4 : w4.cell? ⟨p, 4, none⟩ = some (.slice aO nO cO) := by rw [cell_of_block kx]; rfl
    have kx_5 : w4.cell? ⟨p, 5, none⟩ = some (.int .i64 16777216) := by rw [cell_of_block kx]; rfl
    have kx_6 : w4.cell? ⟨p, 6, none⟩ = some (.int .i64 16777416) := by rw [cell_of_block kx]; rfl
    have kx_7 : w4.cell? ⟨p, 7, none⟩ = some (.slice aY nY cY) := by rw [cell_of_block kx]; rfl
    have kx_8 : w4.cell? ⟨p, 8, none⟩ = some (.slice (some ⟨G, 0, none⟩) (m + 1) lc) := by rw [cell_of_block kx]; rfl
    go_wp2_with fail
    refine (hH1 _ (hm4.below (by (repeat (first | exact Below.refl _ _ | assumption | refine Below.drew ?_ | refine below_drewN ?_ _ | refine balloc ?_ _ | refine Below.setCell ?_ (by first | (simp; done) | (simp; omega) | omega) _ | refine bchain (by assumption) ?_))))).mono ?_
    rintro e w5 ⟨rfl, hb5⟩
    have hB5 : Below w4.heap.size w4 w5 := by (repeat (first | exact Below.refl _ _ | assumption | refine Below.drew ?_ | refine below_drewN ?_ _ | refine balloc ?_ _ | refine Below.setCell ?_ (by first | (simp; done) | (simp; omega) | omega) _ | refine bchain (by assumption) ?_))
    have kx := bblock hB5 kx
    have hM5 := Mods.chain hB5 hM4
    have hm5 := hm4.below hB5
    have hs5 : w3.heap.size ≤ w5.heap.size := hM5.size
    clear hz_kx
    have hz_kx : p < w5.heap.size := (Array.getElem?_eq_some_iff.1 kx).1
    clear hB5 hm4 hM4 hb5
    clear kx_0 kx_1 kx_2 kx_3 kx_4 kx_5 kx_6 kx_7 kx_8
    have kx_0 : w5.cell? ⟨p, 0, none⟩ = some (.pointer (some ⟨bO, 0, none⟩)) := by rw [cell_of_block kx]; rfl
    have kx_1 : w5.cell? ⟨p, 1, none⟩ = some (.pointer (some ⟨bY, 0, none⟩)) := by rw [cell_of_block kx]; rfl
    have kx_2 : w5.cell? ⟨p, 2, none⟩ = some (.int .i64 0) := by rw [cell_of_block kx]; rfl
    have kx_3 : w5.cell? ⟨p, 3, none⟩ = some (.int .i64 200) := by rw [cell_of_block kx]; rfl
    have kx_4 : w5.cell? ⟨p, 4, none⟩ = some (.slice aO nO cO) := by rw [cell_of_block kx]; rfl
    have kx_5 : w5.cell? ⟨p, 5, none⟩ = some (.int .i64 16777216) := by rw [cell_of_block kx]; rfl
    have kx_6 : w5.cell? ⟨p, 6, none⟩ = some (.int .i64 16777416) := by rw [cell_of_block kx]; rfl
    have kx_7 : w5.cell? ⟨p, 7, none⟩ = some (.slice aY nY cY) := by rw [cell_of_block kx]; rfl
    have kx_8 : w5.cell? ⟨p, 8, none⟩ = some (.slice (some ⟨G, 0, none⟩) (m + 1) lc) := by rw [cell_of_block kx]; rfl
    go_wp2_with fail
    refine (hW1 _ (hm5.below (by (repeat (first | exact Below.refl _ _ | assumption | refine Below.drew ?_ | refine below_drewN ?_ _ | refine balloc ?_ _ | refine Below.setCell ?_ (by first | (simp; done) | (simp; omega) | omega) _ | refine bchain (by assumption) ?_))))).mono ?_
    rintro e w6 ⟨vb, rfl, hvb, hb6⟩
    have hB6 : Below w5.heap.size w5 w6 := by (repeat (first | exact Below.refl _ _ | assumption | refine Below.drew ?_ | refine below_drewN ?_ _ | refine balloc ?_ _ | refine Below.setCell ?_ (by first | (simp; done) | (simp; omega) | omega) _ | refine bchain (by assumption) ?_))
    have kx := bblock hB6 kx
    have kh : w6.heap[w5.heap.size]? = some (.cells #[.int .i64 hk, .int .i64 hc, .int .i64 hf] 23 (0, 0)) := bblock hb6 (by repeat (first | exact alloc_at _ (by simp) | refine alloc_lt _ ?_))
    have hM6 := Mods.chain hB6 hM5
    have hm6 := hm5.below hB6
    have hs6 : w3.heap.size ≤ w6.heap.size := hM6.size
    clear hz_kx
    have hz_kx : p < w6.heap.size := (Array.getElem?_eq_some_iff.1 kx).1
    have hz_kh : w5.heap.size < w6.heap.size := (Array.getElem?_eq_some_iff.1 kh).1
    clear hB6 hm5 hM5 hb6
    clear kx_0 kx_1 kx_2 kx_3 kx_4 kx_5 kx_6 kx_7 kx_8
    have kx_0 : w6.cell? ⟨p, 0, none⟩ = some (.pointer (some ⟨bO, 0, none⟩)) := by rw [cell_of_block kx]; rfl
    have kx_1 : w6.cell? ⟨p, 1, none⟩ = some (.pointer (some ⟨bY, 0, none⟩)) := by rw [cell_of_block kx]; rfl
    have kx_2 : w6.cell? ⟨p, 2, none⟩ = some (.int .i64 0) := by rw [cell_of_block kx]; rfl
    have kx_3 : w6.cell? ⟨p, 3, none⟩ = some (.int .i64 200) := by rw [cell_of_block kx]; rfl
    have kx_4 : w6.cell? ⟨p, 4, none⟩ = some (.slice aO nO cO) := by rw [cell_of_block kx]; rfl
    have kx_5 : w6.cell? ⟨p, 5, none⟩ = some (.int .i64 16777216) := by rw [cell_of_block kx]; rfl
    have kx_6 : w6.cell? ⟨p, 6, none⟩ = some (.int .i64 16777416) := by rw [cell_of_block kx]; rfl
    have kx_7 : w6.cell? ⟨p, 7, none⟩ = some (.slice aY nY cY) := by rw [cell_of_block kx]; rfl
    have kx_8 : w6.cell? ⟨p, 8, none⟩ = some (.slice (some ⟨G, 0, none⟩) (m + 1) lc) := by rw [cell_of_block kx]; rfl
    have kh_0 : w6.cell? ⟨w5.heap.size, 0, none⟩ = some (.int .i64 hk) := by rw [cell_of_block kh]; rfl
    have kh_1 : w6.cell? ⟨w5.heap.size, 1, none⟩ = some (.int .i64 hc) := by rw [cell_of_block kh]; rfl
    have kh_2 : w6.cell? ⟨w5.heap.size, 2, none⟩ = some (.int .i64 hf) := by rw [cell_of_block kh]; rfl
    have hvb := row_base7 hvb (Nat.le_trans hs5 (show Below w5.heap.size w5 _ from by (repeat (first | exact Below.refl _ _ | assumption | refine Below.drew ?_ | refine below_drewN ?_ _ | refine balloc ?_ _ | refine Below.setCell ?_ (by first | (simp; done) | (simp; omega) | omega) _ | refine bchain (by assumption) ?_))).size)
    go_wp2_with fail
    refine (hS1 _ (hm6.below (by (repeat (first | exact Below.refl _ _ | assumption | refine Below.drew ?_ | refine below_drewN ?_ _ | refine balloc ?_ _ | refine Below.setCell ?_ (by first | (simp; done) | (simp; omega) | omega) _ | refine bchain (by assumption) ?_))))).mono ?_
    rintro e w7 ⟨rfl, hm7, hX7⟩
    have kx := mblock hX7 (bblock (show Below w6.heap.size w6 _ from by (repeat (first | exact Below.refl _ _ | assumption | refine Below.drew ?_ | refine below_drewN ?_ _ | refine balloc ?_ _ | refine Below.setCell ?_ (by first | (simp; done) | (simp; omega) | omega) _ | refine bchain (by assumption) ?_))) kx) hps
    have kh := mblock hX7 (bblock (show Below w6.heap.size w6 _ from by (repeat (first | exact Below.refl _ _ | assumption | refine Below.drew ?_ | refine below_drewN ?_ _ | refine balloc ?_ _ | refine Below.setCell ?_ (by first | (simp; done) | (simp; omega) | omega) _ | refine bchain (by assumption) ?_))) kh) (hn0 _ (by omega))
    have hvb := row_keep (row_below7 hvb (show Below w6.heap.size w6 _ from by (repeat (first | exact Below.refl _ _ | assumption | refine Below.drew ?_ | refine below_drewN ?_ _ | refine balloc ?_ _ | refine Below.setCell ?_ (by first | (simp; done) | (simp; omega) | omega) _ | refine bchain (by assumption) ?_)))) (fun G o e ho => mblock hX7 ho (hn0 G (row_lt hvb G e).2))
    have hM7 := (Mods.chain (show Below w6.heap.size w6 _ from by (repeat (first | exact Below.refl _ _ | assumption | refine Below.drew ?_ | refine below_drewN ?_ _ | refine balloc ?_ _ | refine Below.setCell ?_ (by first | (simp; done) | (simp; omega) | omega) _ | refine bchain (by assumption) ?_))) hM6).trans hX7 (fun i hi => .inl hi)
    have hs7 : w3.heap.size ≤ w7.heap.size := hM7.size
    clear hz_kx hz_kh
    have hz_kx : p < w7.heap.size := (Array.getElem?_eq_some_iff.1 kx).1
    have hz_kh : w5.heap.size < w7.heap.size := (Array.getElem?_eq_some_iff.1 kh).1
    clear hm6 hM6 hX7
    clear kx_0 kx_1 kx_2 kx_3 kx_4 kx_5 kx_6 kx_7 kx_8 kh_0 kh_1 kh_2
    have kx_0 : w7.cell? ⟨p, 0, none⟩ = some (.pointer (some ⟨bO, 0, none⟩)) := by rw [cell_of_block kx]; rfl
    have kx_1 : w7.cell? ⟨p, 1, none⟩ = some (.pointer (some ⟨bY, 0, none⟩)) := by rw [cell_of_block kx]; rfl
    have kx_2 : w7.cell? ⟨p, 2, none⟩ = some (.int .i64 0) := by rw [cell_of_block kx]; rfl
    have kx_3 : w7.cell? ⟨p, 3, none⟩ = some (.int .i64 200) := by rw [cell_of_block kx]; rfl
    have kx_4 : w7.cell? ⟨p, 4, none⟩ = some (.slice aO nO cO) := by rw [cell_of_block kx]; rfl
    have kx_5 : w7.cell? ⟨p, 5, none⟩ = some (.int .i64 16777216) := by rw [cell_of_block kx]; rfl
    have kx_6 : w7.cell? ⟨p, 6, none⟩ = some (.int .i64 16777416) := by rw [cell_of_block kx]; rfl
    have kx_7 : w7.cell? ⟨p, 7, none⟩ = some (.slice aY nY cY) := by rw [cell_of_block kx]; rfl
    have kx_8 : w7.cell? ⟨p, 8, none⟩ = some (.slice (some ⟨G, 0, none⟩) (m + 1) lc) := by rw [cell_of_block kx]; rfl
    have kh_0 : w7.cell? ⟨w5.heap.size, 0, none⟩ = some (.int .i64 hk) := by rw [cell_of_block kh]; rfl
    have kh_1 : w7.cell? ⟨w5.heap.size, 1, none⟩ = some (.int .i64 hc) := by rw [cell_of_block kh]; rfl
    have kh_2 : w7.cell? ⟨w5.heap.size, 2, none⟩ = some (.int .i64 hf) := by rw [cell_of_block kh]; rfl
    go_wp2_with fail
    refine (hF2 _ (hm7.below (by (repeat (first | exact Below.refl _ _ | assumption | refine Below.drew ?_ | refine below_drewN ?_ _ | refine balloc ?_ _ | refine Below.setCell ?_ (by first | (simp; done) | (simp; omega) | omega) _ | refine bchain (by assumption) ?_))))).mono ?_
    rintro e w8 ⟨rfl, hb8⟩
    have hB8 : Below w7.heap.size w7 w8 := by (repeat (first | exact Below.refl _ _ | assumption | refine Below.drew ?_ | refine below_drewN ?_ _ | refine balloc ?_ _ | refine Below.setCell ?_ (by first | (simp; done) | (simp; omega) | omega) _ | refine bchain (by assumption) ?_))
    have kx := bblock hB8 kx
    have kh := bblock hB8 kh
    have hvb := row_below7 hvb hB8
    have hM8 := Mods.chain hB8 hM7
    have hm8 := hm7.below hB8
    have hs8 : w3.heap.size ≤ w8.heap.size := hM8.size
    clear hz_kx hz_kh
    have hz_kx : p < w8.heap.size := (Array.getElem?_eq_some_iff.1 kx).1
    have hz_kh : w5.heap.size < w8.heap.size := (Array.getElem?_eq_some_iff.1 kh).1
    clear hB8 hm7 hM7 hb8
    clear kx_0 kx_1 kx_2 kx_3 kx_4 kx_5 kx_6 kx_7 kx_8 kh_0 kh_1 kh_2
    have kx_0 : w8.cell? ⟨p, 0, none⟩ = some (.pointer (some ⟨bO, 0, none⟩)) := by rw [cell_of_block kx]; rfl
    have kx_1 : w8.cell? ⟨p, 1, none⟩ = some (.pointer (some ⟨bY, 0, none⟩)) := by rw [cell_of_block kx]; rfl
    have kx_2 : w8.cell? ⟨p, 2, none⟩ = some (.int .i64 0) := by rw [cell_of_block kx]; rfl
    have kx_3 : w8.cell? ⟨p, 3, none⟩ = some (.int .i64 200) := by rw [cell_of_block kx]; rfl
    have kx_4 : w8.cell? ⟨p, 4, none⟩ = some (.slice aO nO cO) := by rw [cell_of_block kx]; rfl
    have kx_5 : w8.cell? ⟨p, 5, none⟩ = some (.int .i64 16777216) := by rw [cell_of_block kx]; rfl
    have kx_6 : w8.cell? ⟨p, 6, none⟩ = some (.int .i64 16777416) := by rw [cell_of_block kx]; rfl
    have kx_7 : w8.cell? ⟨p, 7, none⟩ = some (.slice aY nY cY) := by rw [cell_of_block kx]; rfl
    have kx_8 : w8.cell? ⟨p, 8, none⟩ = some (.slice (some ⟨G, 0, none⟩) (m + 1) lc) := by rw [cell_of_block kx]; rfl
    have kh_0 : w8.cell? ⟨w5.heap.size, 0, none⟩ = some (.int .i64 hk) := by rw [cell_of_block kh]; rfl
    have kh_1 : w8.cell? ⟨w5.heap.size, 1, none⟩ = some (.int .i64 hc) := by rw [cell_of_block kh]; rfl
    have kh_2 : w8.cell? ⟨w5.heap.size, 2, none⟩ = some (.int .i64 hf) := by rw [cell_of_block kh]; rfl
    have hmL := hm8
    have hML := hM8
    have hsL := hs8
    go_wp2_with fail
    go_loopw [18] (fun z wr => ∃ t : Nat, (t : Int) ≤ hf ∧ z = .int .i64 t ∧ Below w8.heap.size w8 wr) (fun z _ => hf.toNat - (intOf z).toNat)
    case atStart => exact ⟨0, hhf, rfl, Below.refl _ _⟩
    case round =>
      obtain ⟨t, ht, rfl, hbr⟩ := hrel
      have hmr := hmL.below hbr
      have hMr := Mods.chain hbr hML
      have hsr : w3.heap.size ≤ wr.heap.size := hMr.size
      have kx := bblock hbr kx
      have kh := bblock hbr kh
      have hvb := row_below7 hvb hbr
      clear hmL hML hsL hm8 hM8 hs8 kx_0 kx_1 kx_2 kx_3 kx_4 kx_5 kx_6 kx_7 kx_8 kh_0 kh_1 kh_2 hz_kx hz_kh
      have hm8 := hmr
      have hM8 := hMr
      have hs8 := hsr
      have hz_kx : p < wr.heap.size := (Array.getElem?_eq_some_iff.1 kx).1
      have hz_kh : w5.heap.size < wr.heap.size := (Array.getElem?_eq_some_iff.1 kh).1
      have kx_0 : wr.cell? ⟨p, 0, none⟩ = some (.pointer (some ⟨bO, 0, none⟩)) := by rw [cell_of_block kx]; rfl
      have kx_1 : wr.cell? ⟨p, 1, none⟩ = some (.pointer (some ⟨bY, 0, none⟩)) := by rw [cell_of_block kx]; rfl
      have kx_2 : wr.cell? ⟨p, 2, none⟩ = some (.int .i64 0) := by rw [cell_of_block kx]; rfl
      have kx_3 : wr.cell? ⟨p, 3, none⟩ = some (.int .i64 200) := by rw [cell_of_block kx]; rfl
      have kx_4 : wr.cell? ⟨p, 4, none⟩ = some (.slice aO nO cO) := by rw [cell_of_block kx]; rfl
      have kx_5 : wr.cell? ⟨p, 5, none⟩ = some (.int .i64 16777216) := by rw [cell_of_block kx]; rfl
      have kx_6 : wr.cell? ⟨p, 6, none⟩ = some (.int .i64 16777416) := by rw [cell_of_block kx]; rfl
      have kx_7 : wr.cell? ⟨p, 7, none⟩ = some (.slice aY nY cY) := by rw [cell_of_block kx]; rfl
      have kx_8 : wr.cell? ⟨p, 8, none⟩ = some (.slice (some ⟨G, 0, none⟩) (m + 1) lc) := by rw [cell_of_block kx]; rfl
      have kh_0 : wr.cell? ⟨w5.heap.size, 0, none⟩ = some (.int .i64 hk) := by rw [cell_of_block kh]; rfl
      have kh_1 : wr.cell? ⟨w5.heap.size, 1, none⟩ = some (.int .i64 hc) := by rw [cell_of_block kh]; rfl
      have kh_2 : wr.cell? ⟨w5.heap.size, 2, none⟩ = some (.int .i64 hf) := by rw [cell_of_block kh]; rfl
      by_cases hlt : (t : Int) < hf
      · have hd : decide ((t : Int) < hf) = true := by simpa using hlt
        go_wp2_with fail
        refine (hF3 _ (hm8.below (by (repeat (first | exact Below.refl _ _ | assumption | refine Below.drew ?_ | refine below_drewN ?_ _ | refine balloc ?_ _ | refine Below.setCell ?_ (by first | (simp; done) | (simp; omega) | omega) _ | refine bchain (by assumption) ?_)))) t (by omega) hlt).mono ?_
        rintro e w9 ⟨rfl, hb9⟩
        have hB9 : Below wr.heap.size wr w9 := by (repeat (first | exact Below.refl _ _ | assumption | refine Below.drew ?_ | refine below_drewN ?_ _ | refine balloc ?_ _ | refine Below.setCell ?_ (by first | (simp; done) | (simp; omega) | omega) _ | refine bchain (by assumption) ?_))
        have kx := bblock hB9 kx
        have kh := bblock hB9 kh
        have hvb := row_below7 hvb hB9
        have hbr := bchain hB9 hbr
        have hM9 := Mods.chain hB9 hM8
        have hm9 := hm8.below hB9
        have hs9 : w3.heap.size ≤ w9.heap.size := hM9.size
        clear hz_kx hz_kh
        have hz_kx : p < w9.heap.size := (Array.getElem?_eq_some_iff.1 kx).1
        have hz_kh : w5.heap.size < w9.heap.size := (Array.getElem?_eq_some_iff.1 kh).1
        clear hB9 hm8 hM8 hb9
        clear kx_0 kx_1 kx_2 kx_3 kx_4 kx_5 kx_6 kx_7 kx_8 kh_0 kh_1 kh_2
        have kx_0 : w9.cell? ⟨p, 0, none⟩ = some (.pointer (some ⟨bO, 0, none⟩)) := by rw [cell_of_block kx]; rfl
        have kx_1 : w9.cell? ⟨p, 1, none⟩ = some (.pointer (some ⟨bY, 0, none⟩)) := by rw [cell_of_block kx]; rfl
        have kx_2 : w9.cell? ⟨p, 2, none⟩ = some (.int .i64 0) := by rw [cell_of_block kx]; rfl
        have kx_3 : w9.cell? ⟨p, 3, none⟩ = some (.int .i64 200) := by rw [cell_of_block kx]; rfl
        have kx_4 : w9.cell? ⟨p, 4, none⟩ = some (.slice aO nO cO) := by rw [cell_of_block kx]; rfl
        have kx_5 : w9.cell? ⟨p, 5, none⟩ = some (.int .i64 16777216) := by rw [cell_of_block kx]; rfl
        have kx_6 : w9.cell? ⟨p, 6, none⟩ = some (.int .i64 16777416) := by rw [cell_of_block kx]; rfl
        have kx_7 : w9.cell? ⟨p, 7, none⟩ = some (.slice aY nY cY) := by rw [cell_of_block kx]; rfl
        have kx_8 : w9.cell? ⟨p, 8, none⟩ = some (.slice (some ⟨G, 0, none⟩) (m + 1) lc) := by rw [cell_of_block kx]; rfl
        have kh_0 : w9.cell? ⟨w5.heap.size, 0, none⟩ = some (.int .i64 hk) := by rw [cell_of_block kh]; rfl
        have kh_1 : w9.cell? ⟨w5.heap.size, 1, none⟩ = some (.int .i64 hc) := by rw [cell_of_block kh]; rfl
        have kh_2 : w9.cell? ⟨w5.heap.size, 2, none⟩ = some (.int .i64 hf) := by rw [cell_of_block kh]; rfl
        by_cases ei : (t : Int) = pi
        · have b5 : ((t : Int) == pi) = true := by simpa using ei
          rw [ei, f2]
          go_wp2
          go_roundw
          case rel => exact ⟨t + 1, by omega, by go_num, by (repeat (first | exact Below.refl _ _ | assumption | refine Below.drew ?_ | refine below_drewN ?_ _ | refine balloc ?_ _ | refine Below.setCell ?_ (by first | (simp; done) | (simp; omega) | omega) _ | refine bchain (by assumption) ?_))⟩
          case measure => simp [intOf]; omega
        · have b5 : ((t : Int) == pi) = false := by simpa using ei
          go_wp2
          go_roundw
          case rel => exact ⟨t + 1, by omega, by go_num, by (repeat (first | exact Below.refl _ _ | assumption | refine Below.drew ?_ | refine below_drewN ?_ _ | refine balloc ?_ _ | refine Below.setCell ?_ (by first | (simp; done) | (simp; omega) | omega) _ | refine bchain (by assumption) ?_))⟩
          case measure => simp [intOf]; omega
      · have hd : decide ((t : Int) < hf) = false := by simpa using hlt
        obtain ⟨N, hN⟩ : ∃ N, (X.wo ++ X.wy).length = N := ⟨_, rfl⟩
        rw [hN] at f7 hvb
        obtain ⟨Gb, cb, rfl, hGb0, hGb1, hGc, hGc63, hq⟩ := row_open7 hvb (by omega)
        have kq := hq ix.toNat (.int .u64 lw) (by rw [List.getElem?_map, f8]; rfl)
        have s1 : wrap64 (ya + 2) = ya + 2 := IntWalk.wrap64_in _ (by omega)
        have s2 : wrap64 (ya + 2 + pi) = ya + 2 + pi := IntWalk.wrap64_in _ (by omega)
        have s3 : IntKind.i64.wrap (ya + 2) = ya + 2 := IntWalk.i64_in _ (by omega)
        have s4 : IntKind.i64.wrap (ya + 2 + pi) = ya + 2 + pi := IntWalk.i64_in _ (by omega)
        have hmA := hm8.below (show Below wr.heap.size wr wr.drew from (Below.refl _ _).drew)
        have hMA := Mods.chain (show Below wr.heap.size wr wr.drew from (Below.refl _ _).drew) hM8
        have hvA := row_below7 hvb (show Below wr.heap.size wr wr.drew from (Below.refl _ _).drew)
        have hnb := hn0 Gb hGb0
        have Hn0 := Lib.hid hn0
        have HN := Lib.hid hN
        clear hq f2 hF3 hH1 hS1 hF2 hn0 hvb hN qa kx kh kx_2 kx_3 kx_4 kx_5 kx_6 kx_7 kx_8 kh_0 kh_1
        go_wp2_with fail
        go_region_held3 (fun w' => w'.cell? ⟨p, 0, none⟩ = some (.pointer (some ⟨bO, 0, none⟩)) ∧ w'.cell? ⟨p, 1, none⟩ = some (.pointer (some ⟨bY, 0, none⟩)) ∧ w'.cell? ⟨Gb, ix.toNat, none⟩ = some (.int .u64 lw)) (first | (with_reducible exact ⟨kx_0, kx_1, kq⟩) | go_keep) (first
          | (go_at_call 28; (with_reducible refine (hI1 _ hmA).mono ?_); rintro e wa ⟨rfl, hba⟩; have kx_0 := bcellv hba (show wr.drew.cell? _ = _ from kx_0); have kx_1 := bcellv hba (show wr.drew.cell? _ = _ from kx_1); have kq := bcellv hba (show wr.drew.cell? _ = _ from kq); have hma := hmA.below hba; have hMa := Mods.chain hba hMA; have hva := row_below7 hvA hba)
          | (go_at_call 27; (with_reducible refine (hT1 _ hma).mono ?_); rintro e wb ⟨rfl, hmb, hXb⟩; have kx_0 := mcell hXb kx_0 hps; have kx_1 := mcell hXb kx_1 hps; have kq := mcell hXb kq hnb; have hMb := hMa.trans hXb (fun i hi => .inl hi); have hvq := row_keep hva (fun G o e ho => mblock hXb ho (Hn0.out G (row_lt hva G e).2)))
          | (go_at_call 19; (with_reducible refine (hW1 _ hmb).mono ?_); rintro e wc ⟨vc, rfl, hvc, hbc⟩; have kx_0 := bcellv hbc kx_0; have kx_1 := bcellv hbc kx_1; have kq := bcellv hbc kq; have hMc := Mods.chain hbc hMb; have hvq := row_below7 hvq hbc)
          | (go_at_call 25; (with_reducible refine (wrds_same (wrds_row HN.out hvq) (WrdsV.of_row hvc)).mono ?_); rintro e wd ⟨rfl, hbd⟩; have kx_0 := bcellv hbd kx_0; have kx_1 := bcellv hbd kx_1; have kq := bcellv hbd kq; have hMd := Mods.chain hbd hMc))
        go_wp2
        go_ret
        exact ⟨rfl, hw3.trans ((Mods.chain (show Below wd.heap.size wd _ from by (repeat (first | exact Below.refl _ _ | assumption | refine Below.drew ?_ | refine below_drewN ?_ _ | refine balloc ?_ _ | refine Below.setCell ?_ (by first | (simp; done) | (simp; omega) | omega) _ | refine bchain (by assumption) ?_))) hMd).below hw3.size hMS)⟩
end Go.Proofs.Ytcmhgjkijegpnaa
