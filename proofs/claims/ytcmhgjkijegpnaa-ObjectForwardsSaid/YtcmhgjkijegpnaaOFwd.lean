/-
  refmeshlaw07.ObjectForwards.
-/
import Derived.Test.YtcmhgjkijegpnaaGO
import Derived.Test.YtcmhgjkijegpnaaGH
namespace Go.Proofs.Ytcmhgjkijegpnaa
open Go.RowKit
set_option linter.unusedSimpArgs false
set_option linter.unusedVariables false

/-- Everything that the law asks of two objects. -/
theorem fwd_law {x : S7} (h : Inv7 x) {a b : Int} (ha : a ∈ x.l) (hb : b ∈ x.l) :
    RE x.wo x.wy a = 0 ∧ RE x.wo x.wy b = 0 ∧ HE x.wo x.wy (RA x.wo x.wy a) = 0 ∧ HK x.wo x.wy (RA x.wo x.wy a) ≠ 4 ∧
    (a ≠ RA x.wo x.wy a → tfE x.wo x.wy a b = 7) ∧ (a = RA x.wo x.wy a → RA x.wo x.wy b = a → tfE x.wo x.wy a b = 1) ∧
    (a = RA x.wo x.wy a → RA x.wo x.wy b ≠ a → tfE x.wo x.wy a b = 0 ∧ RE (tfM x.wo x.wy a b).1 (tfM x.wo x.wy a b).2 a = 0 ∧ RA (tfM x.wo x.wy a b).1 (tfM x.wo x.wy a b).2 a = RA x.wo x.wy b) := by
  obtain ⟨a1, a2, a3, n, a4⟩ := h.res ha
  obtain ⟨b1, b2, b3, n', b4⟩ := h.res hb
  have ha0 := h.hd a ha
  have hk : a = RA x.wo x.wy a ↔ HK x.wo x.wy a ≠ 4 := by
    constructor
    · intro e
      rw [e]
      exact a3
    · intro e
      cases n with
      | zero =>
        have e0 : (11 : Int) = 0 := congrArg Prod.snd a4
        omega
      | succ n =>
        rw [rsv_end ha0 e] at a4
        exact congrArg Prod.fst a4
  have hi : HK x.wo x.wy a ≠ 4 → isE (fun k => k != 4) x.wo x.wy a = 0 := fun e => by
    unfold isE
    rw [if_neg (by simpa using ha0), if_pos (by simpa using e)]
  refine ⟨a1, b1, a2, a3, fun e => ?_, fun e e' => ?_, fun e e' => ?_⟩
  · have e4 : HK x.wo x.wy a = 4 := Decidable.byContradiction fun q => e (hk.2 q)
    have h7 : isE (fun k => k != 4) x.wo x.wy a = 7 := by
      unfold isE
      rw [if_neg (by simpa using ha0), if_neg (by simp [e4])]
    unfold tfE
    rw [h7]
    rfl
  · unfold tfE
    rw [hi (hk.1 e)]
    have : tfB x.wo x.wy a b = true := by unfold tfB; simp [e']
    rw [this]
    rfl
  · have h0 : tfE x.wo x.wy a b = 0 := by
      unfold tfE
      rw [hi (hk.1 e)]
      have : tfB x.wo x.wy a b = false := by unfold tfB; simp [e', b1]
      rw [this]
      rfl
    obtain ⟨c1, c2⟩ := tf_chg h.lo h0
    obtain ⟨_, r1, r2⟩ := h.fwd ha hb c1 c2 (hk.1 e) e'
    exact ⟨h0, r1, r2⟩
/-- The object that a small number chooses. -/
theorem lst_pick {w : World} {n0 : Nat} {A : Option Addr} {lc : Nat} {l : List Int} {n m : Nat} (h : w.ownsRow n0 3 1 (.slice A l.length lc) l.length (l.map (Value.int .i64))) (hm : l.length = m + 1) : ∃ G y, A = some ⟨G, 0, none⟩ ∧ y ∈ l ∧ w.cell? ⟨G, n % (m + 1), none⟩ = some (.int .i64 y) := by
  obtain ⟨A', c', e, hL, _, _⟩ := lst_of_row h
  cases e
  have hlt : n % (m + 1) < l.length := by rw [hm]; exact Nat.mod_lt _ (by omega)
  obtain ⟨G, hG, hc⟩ := hL _ _ (List.getElem?_eq_getElem hlt)
  exact ⟨G, _, hG, List.getElem_mem hlt, hc⟩
set_option maxRecDepth 100000 in
set_option maxHeartbeats 4000000 in
theorem ofwd_any (a : Option Addr) (l : List Op7) (cap : Nat) (na nb : Int) (hna : 0 ≤ na ∧ na ≤ 255) (hnb : 0 ≤ nb ∧ nb ≤ 255) (hcap : l.length ≤ cap) (hc63 : cap ≤ 9223372036854775807) (w : World) (hops : Ops7 w a l) :
    Calls Try.prog 5 #[.slice a l.length cap, .int .u8 na, .int .u8 nb] w fun e w' => e = .returned (.bool true) ∧ Below w.heap.size w w' := by
  have ha := awake7
  by_cases h : 20 < l.length
  · have hd : decide (20 < l.length) = true := by simpa using h
    clear hops
    generalize l.length = n at *
    go_enter Try.func5, Try.ntmps5
    go_wp2_with fail
    refine (ha _).mono ?_
    rintro e w1 ⟨rfl, hb1⟩
    go_wp2
    go_ret
    exact ⟨rfl, by (repeat (first | exact Below.refl _ _ | assumption | refine Below.drew ?_ | refine below_drewN ?_ _ | refine balloc ?_ _ | refine Below.setCell ?_ (by first | (simp; done) | (simp; omega) | omega) _ | refine bchain (by assumption) ?_))⟩
  · have hB := fun W (H : Below w.heap.size w W) => built7_any a l cap false hcap hc63 (by omega) W (hops.below H)
    have hd : decide (20 < l.length) = false := by simpa using h
    have hXl := run7_len 200 16777416 false l ⟨[], [], []⟩
    simp only [List.length_nil] at hXl
    have hX24 : (run7 200 16777416 false ⟨[], [], []⟩ l).l.length ≤ 24 := by omega
    have hV := inv_run l _ inv_start
    clear hops hXl
    generalize run7 200 16777416 false ⟨[], [], []⟩ l = X at *
    generalize l.length = n at *
    go_enter Try.func5, Try.ntmps5
    go_wp2_with fail
    refine (ha _).mono ?_
    rintro e w1 ⟨rfl, hb1⟩
    have hw1 : Below w.heap.size w w1 := by (repeat (first | exact Below.refl _ _ | assumption | refine Below.drew ?_ | refine below_drewN ?_ _ | refine balloc ?_ _ | refine Below.setCell ?_ (by first | (simp; done) | (simp; omega) | omega) _ | refine bchain (by assumption) ?_))
    go_wp2_with fail
    refine (hB _ hw1).mono ?_
    rintro e w2 ⟨bO, bY, aO, nO, cO, aY, nY, cY, lv, gO, gY, rO, rY, rfl, hI, hb2⟩
    obtain ⟨A, lc, rfl, hL, hlc, hlc63⟩ := lst_of_row hI.lst
    unfold wcs
    have hw2 := bchain hb2 hw1
    have hMS : ∀ k, MS bO bY gO gY k → w.heap.size ≤ k := fun k hk => Nat.le_trans hw1.size (hI.ms k hk)
    clear hB hb1 hb2 hw1 ha hd
    go_upto_region 8 with fail
    have kx : (w2.alloc (.cells #[.pointer (some ⟨bO, 0, none⟩), .pointer (some ⟨bY, 0, none⟩), .int .i64 0, .int .i64 200, .slice aO nO cO, .int .i64 16777216, .int .i64 16777416, .slice aY nY cY, .slice A X.l.length lc] 47)).heap[w2.heap.size]? = some (.cells #[.pointer (some ⟨bO, 0, none⟩), .pointer (some ⟨bY, 0, none⟩), .int .i64 0, .int .i64 200, .slice aO nO cO, .int .i64 16777216, .int .i64 16777416, .slice aY nY cY, .slice A X.l.length lc] 47 (0, 0)) := alloc_get _ _
    have hI3 := hI.below (balloc (Below.refl _ w2) (.cells #[.pointer (some ⟨bO, 0, none⟩), .pointer (some ⟨bY, 0, none⟩), .int .i64 0, .int .i64 200, .slice aO nO cO, .int .i64 16777216, .int .i64 16777416, .slice aY nY cY, .slice A X.l.length lc] 47))
    have hpS : ∀ G, MS bO bY gO gY G ∨ rO = some G ∨ rY = some G ∨ (Value.slice A X.l.length lc).ownBlock = some G → G ≠ w2.heap.size := fun G e => Nat.ne_of_lt (hI.lt G e)
    have hw3 : Below w.heap.size w (w2.alloc (.cells #[.pointer (some ⟨bO, 0, none⟩), .pointer (some ⟨bY, 0, none⟩), .int .i64 0, .int .i64 200, .slice aO nO cO, .int .i64 16777216, .int .i64 16777416, .slice aY nY cY, .slice A X.l.length lc] 47)) := hw2.alloc hw2.size _
    obtain ⟨p, hp⟩ : ∃ p, w2.heap.size = p := ⟨_, rfl⟩
    have hp0 : w.heap.size ≤ p := by rw [← hp]; exact hw2.size
    obtain ⟨w3, hw3e⟩ : ∃ w3, (w2.alloc (.cells #[.pointer (some ⟨bO, 0, none⟩), .pointer (some ⟨bY, 0, none⟩), .int .i64 0, .int .i64 200, .slice aO nO cO, .int .i64 16777216, .int .i64 16777416, .slice aY nY cY, .slice A X.l.length lc] 47)) = w3 := ⟨_, rfl⟩
    rw [hw3e] at kx hI3 hw3 ⊢
    rw [hp] at kx hpS ⊢
    have hL := hI3.lst
    have HpS := Lib.hid hpS
    clear hw3e hp hI hw2 hL hpS
    have kx_0 : w3.cell? ⟨p, 0, none⟩ = some (.pointer (some ⟨bO, 0, none⟩)) := by rw [cell_of_block kx]; rfl
    have kx_1 : w3.cell? ⟨p, 1, none⟩ = some (.pointer (some ⟨bY, 0, none⟩)) := by rw [cell_of_block kx]; rfl
    have kx_2 : w3.cell? ⟨p, 2, none⟩ = some (.int .i64 0) := by rw [cell_of_block kx]; rfl
    have kx_3 : w3.cell? ⟨p, 3, none⟩ = some (.int .i64 200) := by rw [cell_of_block kx]; rfl
    have kx_4 : w3.cell? ⟨p, 4, none⟩ = some (.slice aO nO cO) := by rw [cell_of_block kx]; rfl
    have kx_5 : w3.cell? ⟨p, 5, none⟩ = some (.int .i64 16777216) := by rw [cell_of_block kx]; rfl
    have kx_6 : w3.cell? ⟨p, 6, none⟩ = some (.int .i64 16777416) := by rw [cell_of_block kx]; rfl
    have kx_7 : w3.cell? ⟨p, 7, none⟩ = some (.slice aY nY cY) := by rw [cell_of_block kx]; rfl
    have kx_8 : w3.cell? ⟨p, 8, none⟩ = some (.slice A X.l.length lc) := by rw [cell_of_block kx]; rfl
    obtain ⟨na, rfl⟩ := Int.eq_ofNat_of_zero_le hna.1
    obtain ⟨nb, rfl⟩ := Int.eq_ofNat_of_zero_le hnb.1
    rcases hM : X.l.length with _ | m
    · rw [hM] at kx_8
      go_wp2
      go_ret
      exact ⟨rfl, by (repeat (first | exact Below.refl _ _ | assumption | refine Below.drew ?_ | refine below_drewN ?_ _ | refine balloc ?_ _ | refine Below.setCell ?_ (by first | (simp; done) | (simp; omega) | omega) _ | refine bchain (by assumption) ?_))⟩
    obtain ⟨G, ya, rfl, hya, qa⟩ := lst_pick (n := na) hI3.lst hM
    obtain ⟨_, yb, e, hyb, qb⟩ := lst_pick (n := nb) hI3.lst hM
    cases e
    have hlaw := fwd_law hV hya hyb
    have hmm := hI3.mem
    rw [hM] at kx kx_8 hX24 hlc
    clear hI3 hV hya hyb hM
    obtain ⟨e1, e2, e3, e4, e5, e6, e7⟩ := hlaw
    have hR1 := fun W (H : MemAt W bO bY 200 16777416 X.wo X.wy gO gY) => mresolve_any H ya
    have hR2 := fun W (H : MemAt W bO bY 200 16777416 X.wo X.wy gO gY) => mresolve_any H yb
    have hH1 := fun W (H : MemAt W bO bY 200 16777416 X.wo X.wy gO gY) => mhdr_any H (RA X.wo X.wy ya)
    have hT1 := fun W (H : MemAt W bO bY 200 16777416 X.wo X.wy gO gY) => tofwd_any H ya yb
    have hR3 := fun W (H : MemAt W bO bY 200 16777416 (tfM X.wo X.wy ya yb).1 (tfM X.wo X.wy ya yb).2 gO gY) => mresolve_any H ya
    rw [e1] at hR1
    rw [e2] at hR2
    rw [e3] at hH1
    have hk4 : (HK X.wo X.wy (RA X.wo X.wy ya) == 4) = false := by simpa using e4
    generalize HK X.wo X.wy (RA X.wo X.wy ya) = hk at *
    generalize HC X.wo X.wy (RA X.wo X.wy ya) = hc at *
    generalize HF X.wo X.wy (RA X.wo X.wy ya) = hf at *
    generalize RA X.wo X.wy yb = rb at *
    generalize RA X.wo X.wy ya = ra at *
    generalize tfM X.wo X.wy ya yb = M2 at *
    generalize RE M2.1 M2.2 ya = r3e at *
    generalize RA M2.1 M2.2 ya = r3a at *
    generalize tfE X.wo X.wy ya yb = te at *
    clear e1 e2 e3 e4
    have hm0 : MemAt w3 bO bY 200 16777416 X.wo X.wy gO gY := hmm
    have hM0 : Mods (MS bO bY gO gY) w3 w3 := Mods.refl _ _
    have hn0 := hm0.fresh
    have hps : ¬ MS bO bY gO gY p := fun e => HpS.out p (.inl e) rfl
    clear hmm HpS
    generalize X.wo = zo at *
    generalize X.wy = zy at *
    have hq0 : ∀ z : Nat, ((z : Int) % ((m : Int) + 1)) = ((z % (m + 1) : Nat) : Int) := fun z => by rw [Int.natCast_emod]; rfl
    have ta := hq0 na
    have tb := hq0 nb
    have la : na % (m + 1) < m + 1 := Nat.mod_lt _ (by omega)
    have lb : nb % (m + 1) < m + 1 := Nat.mod_lt _ (by omega)
    generalize na % (m + 1) = ia at *
    generalize nb % (m + 1) = ib at *
    have wa : IntKind.i64.wrap (ia : Int) = (ia : Int) := IntWalk.i64_in _ (by omega)
    have wb : IntKind.i64.wrap (ib : Int) = (ib : Int) := IntWalk.i64_in _ (by omega)
    have ca : IntKind.i64.wrap (na : Int) = (na : Int) := IntWalk.i64_in _ (by omega)
    have cb : IntKind.i64.wrap (nb : Int) = (nb : Int) := IntWalk.i64_in _ (by omega)
    have sa : ((ia : Int)).toNat = ia := by omega
    have sb : ((ib : Int)).toNat = ib := by omega
    have va : (ia : Int) < (m : Int) + 1 := by omega
    have vb : (ib : Int) < (m : Int) + 1 := by omega
    clear hq0
    by_cases ey : ya = ra
    · have e6 := e6 ey
      have e7 := e7 ey
      have b1 : (ya != ra) = false := by simpa using ey
      clear e5 ey
      by_cases er : rb = ya
      · have e6 := e6 er
        have b2 : (rb == ya) = true := by simpa using er
        subst e6
        clear e7 er
        have hs3 : w3.heap.size ≤ w3.heap.size := Nat.le_refl _
        have hm3 := hm0
        have hM3 := hM0
        have hB3 : Below w3.heap.size w3 w3 := Below.refl _ _
        go_wp2_with fail
        have o_kx_0 : ∀ x, (over w3 x).cell? ⟨p, 0, none⟩ = some (.pointer (some ⟨bO, 0, none⟩)) := over_cell (by rw [cell_of_block kx]; rfl)
        have o_kx_1 : ∀ x, (over w3 x).cell? ⟨p, 1, none⟩ = some (.pointer (some ⟨bY, 0, none⟩)) := over_cell (by rw [cell_of_block kx]; rfl)
        have o_kx_2 : ∀ x, (over w3 x).cell? ⟨p, 2, none⟩ = some (.int .i64 0) := over_cell (by rw [cell_of_block kx]; rfl)
        have o_kx_3 : ∀ x, (over w3 x).cell? ⟨p, 3, none⟩ = some (.int .i64 200) := over_cell (by rw [cell_of_block kx]; rfl)
        have o_kx_4 : ∀ x, (over w3 x).cell? ⟨p, 4, none⟩ = some (.slice aO nO cO) := over_cell (by rw [cell_of_block kx]; rfl)
        have o_kx_5 : ∀ x, (over w3 x).cell? ⟨p, 5, none⟩ = some (.int .i64 16777216) := over_cell (by rw [cell_of_block kx]; rfl)
        have o_kx_6 : ∀ x, (over w3 x).cell? ⟨p, 6, none⟩ = some (.int .i64 16777416) := over_cell (by rw [cell_of_block kx]; rfl)
        have o_kx_7 : ∀ x, (over w3 x).cell? ⟨p, 7, none⟩ = some (.slice aY nY cY) := over_cell (by rw [cell_of_block kx]; rfl)
        have o_kx_8 : ∀ x, (over w3 x).cell? ⟨p, 8, none⟩ = some (.slice (some ⟨G, 0, none⟩) (m + 1) lc) := over_cell (by rw [cell_of_block kx]; rfl)
        have o_a : ∀ x, (over w3 x).cell? ⟨G, ia, none⟩ = some (.int .i64 ya) := over_cell (qa)
        have o_b : ∀ x, (over w3 x).cell? ⟨G, ib, none⟩ = some (.int .i64 yb) := over_cell (qb)
        (refine wp_region_over (by kernel_rfl) (by kernel_rfl) ?_); (repeat (go_big_quiet_step ((fail)))); (refine wpQuiet_nil ?_)
        intro w4 hb4
        clear o_kx_0 o_kx_1 o_kx_2 o_kx_3 o_kx_4 o_kx_5 o_kx_6 o_kx_7 o_kx_8 o_a o_b
        have hB4 : Below w3.heap.size w3 w4 := by (repeat (first | exact Below.refl _ _ | assumption | refine Below.drew ?_ | refine below_drewN ?_ _ | refine balloc ?_ _ | refine Below.setCell ?_ (by first | (simp; done) | (simp; omega) | omega) _ | refine bchain (by assumption) ?_))
        have kx := bblock hB4 kx
        have hM4 := Mods.chain hB4 hM3
        have hm4 := hm3.below hB4
        have hs4 : w3.heap.size ≤ w4.heap.size := hM4.size
        have hz_kx : p < w4.heap.size := (Array.getElem?_eq_some_iff.1 kx).1
        clear hB4 hm3 hM3 hb4
        clear kx_0 kx_1 kx_2 kx_3 kx_4 kx_5 kx_6 kx_7 kx_8
        have kx_0 : w4.cell? ⟨p, 0, none⟩ = some (.pointer (some ⟨bO, 0, none⟩)) := by rw [cell_of_block kx]; rfl
        have kx_1 : w4.cell? ⟨p, 1, none⟩ = some (.pointer (some ⟨bY, 0, none⟩)) := by rw [cell_of_block kx]; rfl
        have kx_2 : w4.cell? ⟨p, 2, none⟩ = some (.int .i64 0) := by rw [cell_of_block kx]; rfl
        have kx_3 : w4.cell? ⟨p, 3, none⟩ = some (.int .i64 200) := by rw [cell_of_block kx]; rfl
        have kx_4 : w4.cell? ⟨p, 4, none⟩ = some (.slice aO nO cO) := by rw [cell_of_block kx]; rfl
        have kx_5 : w4.cell? ⟨p, 5, none⟩ = some (.int .i64 16777216) := by rw [cell_of_block kx]; rfl
        have kx_6 : w4.cell? ⟨p, 6, none⟩ = some (.int .i64 16777416) := by rw [cell_of_block kx]; rfl
        have kx_7 : w4.cell? ⟨p, 7, none⟩ = some (.slice aY nY cY) := by rw [cell_of_block kx]; rfl
        have kx_8 : w4.cell? ⟨p, 8, none⟩ = some (.slice (some ⟨G, 0, none⟩) (m + 1) lc) := by rw [cell_of_block kx]; rfl
        go_wp2_with fail
        refine (hR1 _ (hm4.below (by (repeat (first | exact Below.refl _ _ | assumption | refine Below.drew ?_ | refine below_drewN ?_ _ | refine balloc ?_ _ | refine Below.setCell ?_ (by first | (simp; done) | (simp; omega) | omega) _ | refine bchain (by assumption) ?_))))).mono ?_
        rintro e w5 ⟨rfl, hb5⟩
        have hB5 : Below w4.heap.size w4 w5 := by (repeat (first | exact Below.refl _ _ | assumption | refine Below.drew ?_ | refine below_drewN ?_ _ | refine balloc ?_ _ | refine Below.setCell ?_ (by first | (simp; done) | (simp; omega) | omega) _ | refine bchain (by assumption) ?_))
        have kx := bblock hB5 kx
        have hM5 := Mods.chain hB5 hM4
        have hm5 := hm4.below hB5
        have hs5 : w3.heap.size ≤ w5.heap.size := hM5.size
        clear hz_kx
        have hz_kx : p < w5.heap.size := (Array.getElem?_eq_some_iff.1 kx).1
        clear hB5 hm4 hM4 hb5
        clear kx_0 kx_1 kx_2 kx_3 kx_4 kx_5 kx_6 kx_7 kx_8
        have kx_0 : w5.cell? ⟨p, 0, none⟩ = some (.pointer (some ⟨bO, 0, none⟩)) := by rw [cell_of_block kx]; rfl
        have kx_1 : w5.cell? ⟨p, 1, none⟩ = some (.pointer (some ⟨bY, 0, none⟩)) := by rw [cell_of_block kx]; rfl
        have kx_2 : w5.cell? ⟨p, 2, none⟩ = some (.int .i64 0) := by rw [cell_of_block kx]; rfl
        have kx_3 : w5.cell? ⟨p, 3, none⟩ = some (.int .i64 200) := by rw [cell_of_block kx]; rfl
        have kx_4 : w5.cell? ⟨p, 4, none⟩ = some (.slice aO nO cO) := by rw [cell_of_block kx]; rfl
        have kx_5 : w5.cell? ⟨p, 5, none⟩ = some (.int .i64 16777216) := by rw [cell_of_block kx]; rfl
        have kx_6 : w5.cell? ⟨p, 6, none⟩ = some (.int .i64 16777416) := by rw [cell_of_block kx]; rfl
        have kx_7 : w5.cell? ⟨p, 7, none⟩ = some (.slice aY nY cY) := by rw [cell_of_block kx]; rfl
        have kx_8 : w5.cell? ⟨p, 8, none⟩ = some (.slice (some ⟨G, 0, none⟩) (m + 1) lc) := by rw [cell_of_block kx]; rfl
        go_wp2_with fail
        refine (hR2 _ (hm5.below (by (repeat (first | exact Below.refl _ _ | assumption | refine Below.drew ?_ | refine below_drewN ?_ _ | refine balloc ?_ _ | refine Below.setCell ?_ (by first | (simp; done) | (simp; omega) | omega) _ | refine bchain (by assumption) ?_))))).mono ?_
        rintro e w6 ⟨rfl, hb6⟩
        have hB6 : Below w5.heap.size w5 w6 := by (repeat (first | exact Below.refl _ _ | assumption | refine Below.drew ?_ | refine below_drewN ?_ _ | refine balloc ?_ _ | refine Below.setCell ?_ (by first | (simp; done) | (simp; omega) | omega) _ | refine bchain (by assumption) ?_))
        have kx := bblock hB6 kx
        have hM6 := Mods.chain hB6 hM5
        have hm6 := hm5.below hB6
        have hs6 : w3.heap.size ≤ w6.heap.size := hM6.size
        clear hz_kx
        have hz_kx : p < w6.heap.size := (Array.getElem?_eq_some_iff.1 kx).1
        clear hB6 hm5 hM5 hb6
        clear kx_0 kx_1 kx_2 kx_3 kx_4 kx_5 kx_6 kx_7 kx_8
        have kx_0 : w6.cell? ⟨p, 0, none⟩ = some (.pointer (some ⟨bO, 0, none⟩)) := by rw [cell_of_block kx]; rfl
        have kx_1 : w6.cell? ⟨p, 1, none⟩ = some (.pointer (some ⟨bY, 0, none⟩)) := by rw [cell_of_block kx]; rfl
        have kx_2 : w6.cell? ⟨p, 2, none⟩ = some (.int .i64 0) := by rw [cell_of_block kx]; rfl
        have kx_3 : w6.cell? ⟨p, 3, none⟩ = some (.int .i64 200) := by rw [cell_of_block kx]; rfl
        have kx_4 : w6.cell? ⟨p, 4, none⟩ = some (.slice aO nO cO) := by rw [cell_of_block kx]; rfl
        have kx_5 : w6.cell? ⟨p, 5, none⟩ = some (.int .i64 16777216) := by rw [cell_of_block kx]; rfl
        have kx_6 : w6.cell? ⟨p, 6, none⟩ = some (.int .i64 16777416) := by rw [cell_of_block kx]; rfl
        have kx_7 : w6.cell? ⟨p, 7, none⟩ = some (.slice aY nY cY) := by rw [cell_of_block kx]; rfl
        have kx_8 : w6.cell? ⟨p, 8, none⟩ = some (.slice (some ⟨G, 0, none⟩) (m + 1) lc) := by rw [cell_of_block kx]; rfl
        go_wp2_with fail
        refine (hH1 _ (hm6.below (by (repeat (first | exact Below.refl _ _ | assumption | refine Below.drew ?_ | refine below_drewN ?_ _ | refine balloc ?_ _ | refine Below.setCell ?_ (by first | (simp; done) | (simp; omega) | omega) _ | refine bchain (by assumption) ?_))))).mono ?_
        rintro e w7 ⟨rfl, hb7⟩
        have hB7 : Below w6.heap.size w6 w7 := by (repeat (first | exact Below.refl _ _ | assumption | refine Below.drew ?_ | refine below_drewN ?_ _ | refine balloc ?_ _ | refine Below.setCell ?_ (by first | (simp; done) | (simp; omega) | omega) _ | refine bchain (by assumption) ?_))
        have kx := bblock hB7 kx
        have hM7 := Mods.chain hB7 hM6
        have hm7 := hm6.below hB7
        have hs7 : w3.heap.size ≤ w7.heap.size := hM7.size
        clear hz_kx
        have hz_kx : p < w7.heap.size := (Array.getElem?_eq_some_iff.1 kx).1
        clear hB7 hm6 hM6 hb7
        clear kx_0 kx_1 kx_2 kx_3 kx_4 kx_5 kx_6 kx_7 kx_8
        have kx_0 : w7.cell? ⟨p, 0, none⟩ = some (.pointer (some ⟨bO, 0, none⟩)) := by rw [cell_of_block kx]; rfl
        have kx_1 : w7.cell? ⟨p, 1, none⟩ = some (.pointer (some ⟨bY, 0, none⟩)) := by rw [cell_of_block kx]; rfl
        have kx_2 : w7.cell? ⟨p, 2, none⟩ = some (.int .i64 0) := by rw [cell_of_block kx]; rfl
        have kx_3 : w7.cell? ⟨p, 3, none⟩ = some (.int .i64 200) := by rw [cell_of_block kx]; rfl
        have kx_4 : w7.cell? ⟨p, 4, none⟩ = some (.slice aO nO cO) := by rw [cell_of_block kx]; rfl
        have kx_5 : w7.cell? ⟨p, 5, none⟩ = some (.int .i64 16777216) := by rw [cell_of_block kx]; rfl
        have kx_6 : w7.cell? ⟨p, 6, none⟩ = some (.int .i64 16777416) := by rw [cell_of_block kx]; rfl
        have kx_7 : w7.cell? ⟨p, 7, none⟩ = some (.slice aY nY cY) := by rw [cell_of_block kx]; rfl
        have kx_8 : w7.cell? ⟨p, 8, none⟩ = some (.slice (some ⟨G, 0, none⟩) (m + 1) lc) := by rw [cell_of_block kx]; rfl
        go_wp2_with fail
        refine (hT1 _ (hm7.below (by (repeat (first | exact Below.refl _ _ | assumption | refine Below.drew ?_ | refine below_drewN ?_ _ | refine balloc ?_ _ | refine Below.setCell ?_ (by first | (simp; done) | (simp; omega) | omega) _ | refine bchain (by assumption) ?_))))).mono ?_
        rintro e w8 ⟨rfl, hm8, hX8⟩
        have kx := mblock hX8 (bblock (show Below w7.heap.size w7 _ from by (repeat (first | exact Below.refl _ _ | assumption | refine Below.drew ?_ | refine below_drewN ?_ _ | refine balloc ?_ _ | refine Below.setCell ?_ (by first | (simp; done) | (simp; omega) | omega) _ | refine bchain (by assumption) ?_))) kx) hps
        have kh : w8.heap[w7.heap.size]? = some (.cells #[.int .i64 hk, .int .i64 hc, .int .i64 hf] 23 (0, 0)) := mblock hX8 (by repeat (first | exact alloc_at _ (by simp) | refine alloc_lt _ ?_)) (hn0 _ (by omega))
        have hM8 := (Mods.chain (show Below w7.heap.size w7 _ from by (repeat (first | exact Below.refl _ _ | assumption | refine Below.drew ?_ | refine below_drewN ?_ _ | refine balloc ?_ _ | refine Below.setCell ?_ (by first | (simp; done) | (simp; omega) | omega) _ | refine bchain (by assumption) ?_))) hM7).trans hX8 (fun i hi => .inl hi)
        have hs8 : w3.heap.size ≤ w8.heap.size := hM8.size
        clear hz_kx
        have hz_kx : p < w8.heap.size := (Array.getElem?_eq_some_iff.1 kx).1
        have hz_kh : w7.heap.size < w8.heap.size := (Array.getElem?_eq_some_iff.1 kh).1
        clear hm7 hM7 hX8
        clear kx_0 kx_1 kx_2 kx_3 kx_4 kx_5 kx_6 kx_7 kx_8
        have kx_0 : w8.cell? ⟨p, 0, none⟩ = some (.pointer (some ⟨bO, 0, none⟩)) := by rw [cell_of_block kx]; rfl
        have kx_1 : w8.cell? ⟨p, 1, none⟩ = some (.pointer (some ⟨bY, 0, none⟩)) := by rw [cell_of_block kx]; rfl
        have kx_2 : w8.cell? ⟨p, 2, none⟩ = some (.int .i64 0) := by rw [cell_of_block kx]; rfl
        have kx_3 : w8.cell? ⟨p, 3, none⟩ = some (.int .i64 200) := by rw [cell_of_block kx]; rfl
        have kx_4 : w8.cell? ⟨p, 4, none⟩ = some (.slice aO nO cO) := by rw [cell_of_block kx]; rfl
        have kx_5 : w8.cell? ⟨p, 5, none⟩ = some (.int .i64 16777216) := by rw [cell_of_block kx]; rfl
        have kx_6 : w8.cell? ⟨p, 6, none⟩ = some (.int .i64 16777416) := by rw [cell_of_block kx]; rfl
        have kx_7 : w8.cell? ⟨p, 7, none⟩ = some (.slice aY nY cY) := by rw [cell_of_block kx]; rfl
        have kx_8 : w8.cell? ⟨p, 8, none⟩ = some (.slice (some ⟨G, 0, none⟩) (m + 1) lc) := by rw [cell_of_block kx]; rfl
        have kh_0 : w8.cell? ⟨w7.heap.size, 0, none⟩ = some (.int .i64 hk) := by rw [cell_of_block kh]; rfl
        have kh_1 : w8.cell? ⟨w7.heap.size, 1, none⟩ = some (.int .i64 hc) := by rw [cell_of_block kh]; rfl
        have kh_2 : w8.cell? ⟨w7.heap.size, 2, none⟩ = some (.int .i64 hf) := by rw [cell_of_block kh]; rfl
        go_wp2
        go_ret
        exact ⟨rfl, hw3.trans ((Mods.chain (show Below w8.heap.size w8 _ from by (repeat (first | exact Below.refl _ _ | assumption | refine Below.drew ?_ | refine below_drewN ?_ _ | refine balloc ?_ _ | refine Below.setCell ?_ (by first | (simp; done) | (simp; omega) | omega) _ | refine bchain (by assumption) ?_))) hM8).below hw3.size hMS)⟩
      · obtain ⟨f1, f2, f3⟩ := e7 er
        have b2 : (rb == ya) = false := by simpa using er
        subst f1 f2 f3
        clear e6 er
        have hs3 : w3.heap.size ≤ w3.heap.size := Nat.le_refl _
        have hm3 := hm0
        have hM3 := hM0
        have hB3 : Below w3.heap.size w3 w3 := Below.refl _ _
        go_wp2_with fail
        have o_kx_0 : ∀ x, (over w3 x).cell? ⟨p, 0, none⟩ = some (.pointer (some ⟨bO, 0, none⟩)) := over_cell (by rw [cell_of_block kx]; rfl)
        have o_kx_1 : ∀ x, (over w3 x).cell? ⟨p, 1, none⟩ = some (.pointer (some ⟨bY, 0, none⟩)) := over_cell (by rw [cell_of_block kx]; rfl)
        have o_kx_2 : ∀ x, (over w3 x).cell? ⟨p, 2, none⟩ = some (.int .i64 0) := over_cell (by rw [cell_of_block kx]; rfl)
        have o_kx_3 : ∀ x, (over w3 x).cell? ⟨p, 3, none⟩ = some (.int .i64 200) := over_cell (by rw [cell_of_block kx]; rfl)
        have o_kx_4 : ∀ x, (over w3 x).cell? ⟨p, 4, none⟩ = some (.slice aO nO cO) := over_cell (by rw [cell_of_block kx]; rfl)
        have o_kx_5 : ∀ x, (over w3 x).cell? ⟨p, 5, none⟩ = some (.int .i64 16777216) := over_cell (by rw [cell_of_block kx]; rfl)
        have o_kx_6 : ∀ x, (over w3 x).cell? ⟨p, 6, none⟩ = some (.int .i64 16777416) := over_cell (by rw [cell_of_block kx]; rfl)
        have o_kx_7 : ∀ x, (over w3 x).cell? ⟨p, 7, none⟩ = some (.slice aY nY cY) := over_cell (by rw [cell_of_block kx]; rfl)
        have o_kx_8 : ∀ x, (over w3 x).cell? ⟨p, 8, none⟩ = some (.slice (some ⟨G, 0, none⟩) (m + 1) lc) := over_cell (by rw [cell_of_block kx]; rfl)
        have o_a : ∀ x, (over w3 x).cell? ⟨G, ia, none⟩ = some (.int .i64 ya) := over_cell (qa)
        have o_b : ∀ x, (over w3 x).cell? ⟨G, ib, none⟩ = some (.int .i64 yb) := over_cell (qb)
        (refine wp_region_over (by kernel_rfl) (by kernel_rfl) ?_); (repeat (go_big_quiet_step ((fail)))); (refine wpQuiet_nil ?_)
        intro w4 hb4
        clear o_kx_0 o_kx_1 o_kx_2 o_kx_3 o_kx_4 o_kx_5 o_kx_6 o_kx_7 o_kx_8 o_a o_b
        have hB4 : Below w3.heap.size w3 w4 := by (repeat (first | exact Below.refl _ _ | assumption | refine Below.drew ?_ | refine below_drewN ?_ _ | refine balloc ?_ _ | refine Below.setCell ?_ (by first | (simp; done) | (simp; omega) | omega) _ | refine bchain (by assumption) ?_))
        have kx := bblock hB4 kx
        have hM4 := Mods.chain hB4 hM3
        have hm4 := hm3.below hB4
        have hs4 : w3.heap.size ≤ w4.heap.size := hM4.size
        have hz_kx : p < w4.heap.size := (Array.getElem?_eq_some_iff.1 kx).1
        clear hB4 hm3 hM3 hb4
        clear kx_0 kx_1 kx_2 kx_3 kx_4 kx_5 kx_6 kx_7 kx_8
        have kx_0 : w4.cell? ⟨p, 0, none⟩ = some (.pointer (some ⟨bO, 0, none⟩)) := by rw [cell_of_block kx]; rfl
        have kx_1 : w4.cell? ⟨p, 1, none⟩ = some (.pointer (some ⟨bY, 0, none⟩)) := by rw [cell_of_block kx]; rfl
        have kx_2 : w4.cell? ⟨p, 2, none⟩ = some (.int .i64 0) := by rw [cell_of_block kx]; rfl
        have kx_3 : w4.cell? ⟨p, 3, none⟩ = some (.int .i64 200) := by rw [cell_of_block kx]; rfl
        have kx_4 : w4.cell? ⟨p, 4, none⟩ = some (.slice aO nO cO) := by rw [cell_of_block kx]; rfl
        have kx_5 : w4.cell? ⟨p, 5, none⟩ = some (.int .i64 16777216) := by rw [cell_of_block kx]; rfl
        have kx_6 : w4.cell? ⟨p, 6, none⟩ = some (.int .i64 16777416) := by rw [cell_of_block kx]; rfl
        have kx_7 : w4.cell? ⟨p, 7, none⟩ = some (.slice aY nY cY) := by rw [cell_of_block kx]; rfl
        have kx_8 : w4.cell? ⟨p, 8, none⟩ = some (.slice (some ⟨G, 0, none⟩) (m + 1) lc) := by rw [cell_of_block kx]; rfl
        go_wp2_with fail
        refine (hR1 _ (hm4.below (by (repeat (first | exact Below.refl _ _ | assumption | refine Below.drew ?_ | refine below_drewN ?_ _ | refine balloc ?_ _ | refine Below.setCell ?_ (by first | (simp; done) | (simp; omega) | omega) _ | refine bchain (by assumption) ?_))))).mono ?_
        rintro e w5 ⟨rfl, hb5⟩
        have hB5 : Below w4.heap.size w4 w5 := by (repeat (first | exact Below.refl _ _ | assumption | refine Below.drew ?_ | refine below_drewN ?_ _ | refine balloc ?_ _ | refine Below.setCell ?_ (by first | (simp; done) | (simp; omega) | omega) _ | refine bchain (by assumption) ?_))
        have kx := bblock hB5 kx
        have hM5 := Mods.chain hB5 hM4
        have hm5 := hm4.below hB5
        have hs5 : w3.heap.size ≤ w5.heap.size := hM5.size
        clear hz_kx
        have hz_kx : p < w5.heap.size := (Array.getElem?_eq_some_iff.1 kx).1
        clear hB5 hm4 hM4 hb5
        clear kx_0 kx_1 kx_2 kx_3 kx_4 kx_5 kx_6 kx_7 kx_8
        have kx_0 : w5.cell? ⟨p, 0, none⟩ = some (.pointer (some ⟨bO, 0, none⟩)) := by rw [cell_of_block kx]; rfl
        have kx_1 : w5.cell? ⟨p, 1, none⟩ = some (.pointer (some ⟨bY, 0, none⟩)) := by rw [cell_of_block kx]; rfl
        have kx_2 : w5.cell? ⟨p, 2, none⟩ = some (.int .i64 0) := by rw [cell_of_block kx]; rfl
        have kx_3 : w5.cell? ⟨p, 3, none⟩ = some (.int .i64 200) := by rw [cell_of_block kx]; rfl
        have kx_4 : w5.cell? ⟨p, 4, none⟩ = some (.slice aO nO cO) := by rw [cell_of_block kx]; rfl
        have kx_5 : w5.cell? ⟨p, 5, none⟩ = some (.int .i64 16777216) := by rw [cell_of_block kx]; rfl
        have kx_6 : w5.cell? ⟨p, 6, none⟩ = some (.int .i64 16777416) := by rw [cell_of_block kx]; rfl
        have kx_7 : w5.cell? ⟨p, 7, none⟩ = some (.slice aY nY cY) := by rw [cell_of_block kx]; rfl
        have kx_8 : w5.cell? ⟨p, 8, none⟩ = some (.slice (some ⟨G, 0, none⟩) (m + 1) lc) := by rw [cell_of_block kx]; rfl
        go_wp2_with fail
        refine (hR2 _ (hm5.below (by (repeat (first | exact Below.refl _ _ | assumption | refine Below.drew ?_ | refine below_drewN ?_ _ | refine balloc ?_ _ | refine Below.setCell ?_ (by first | (simp; done) | (simp; omega) | omega) _ | refine bchain (by assumption) ?_))))).mono ?_
        rintro e w6 ⟨rfl, hb6⟩
        have hB6 : Below w5.heap.size w5 w6 := by (repeat (first | exact Below.refl _ _ | assumption | refine Below.drew ?_ | refine below_drewN ?_ _ | refine balloc ?_ _ | refine Below.setCell ?_ (by first | (simp; done) | (simp; omega) | omega) _ | refine bchain (by assumption) ?_))
        have kx := bblock hB6 kx
        have hM6 := Mods.chain hB6 hM5
        have hm6 := hm5.below hB6
        have hs6 : w3.heap.size ≤ w6.heap.size := hM6.size
        clear hz_kx
        have hz_kx : p < w6.heap.size := (Array.getElem?_eq_some_iff.1 kx).1
        clear hB6 hm5 hM5 hb6
        clear kx_0 kx_1 kx_2 kx_3 kx_4 kx_5 kx_6 kx_7 kx_8
        have kx_0 : w6.cell? ⟨p, 0, none⟩ = some (.pointer (some ⟨bO, 0, none⟩)) := by rw [cell_of_block kx]; rfl
        have kx_1 : w6.cell? ⟨p, 1, none⟩ = some (.pointer (some ⟨bY, 0, none⟩)) := by rw [cell_of_block kx]; rfl
        have kx_2 : w6.cell? ⟨p, 2, none⟩ = some (.int .i64 0) := by rw [cell_of_block kx]; rfl
        have kx_3 : w6.cell? ⟨p, 3, none⟩ = some (.int .i64 200) := by rw [cell_of_block kx]; rfl
        have kx_4 : w6.cell? ⟨p, 4, none⟩ = some (.slice aO nO cO) := by rw [cell_of_block kx]; rfl
        have kx_5 : w6.cell? ⟨p, 5, none⟩ = some (.int .i64 16777216) := by rw [cell_of_block kx]; rfl
        have kx_6 : w6.cell? ⟨p, 6, none⟩ = some (.int .i64 16777416) := by rw [cell_of_block kx]; rfl
        have kx_7 : w6.cell? ⟨p, 7, none⟩ = some (.slice aY nY cY) := by rw [cell_of_block kx]; rfl
        have kx_8 : w6.cell? ⟨p, 8, none⟩ = some (.slice (some ⟨G, 0, none⟩) (m + 1) lc) := by rw [cell_of_block kx]; rfl
        go_wp2_with fail
        refine (hH1 _ (hm6.below (by (repeat (first | exact Below.refl _ _ | assumption | refine Below.drew ?_ | refine below_drewN ?_ _ | refine balloc ?_ _ | refine Below.setCell ?_ (by first | (simp; done) | (simp; omega) | omega) _ | refine bchain (by assumption) ?_))))).mono ?_
        rintro e w7 ⟨rfl, hb7⟩
        have hB7 : Below w6.heap.size w6 w7 := by (repeat (first | exact Below.refl _ _ | assumption | refine Below.drew ?_ | refine below_drewN ?_ _ | refine balloc ?_ _ | refine Below.setCell ?_ (by first | (simp; done) | (simp; omega) | omega) _ | refine bchain (by assumption) ?_))
        have kx := bblock hB7 kx
        have hM7 := Mods.chain hB7 hM6
        have hm7 := hm6.below hB7
        have hs7 : w3.heap.size ≤ w7.heap.size := hM7.size
        clear hz_kx
        have hz_kx : p < w7.heap.size := (Array.getElem?_eq_some_iff.1 kx).1
        clear hB7 hm6 hM6 hb7
        clear kx_0 kx_1 kx_2 kx_3 kx_4 kx_5 kx_6 kx_7 kx_8
        have kx_0 : w7.cell? ⟨p, 0, none⟩ = some (.pointer (some ⟨bO, 0, none⟩)) := by rw [cell_of_block kx]; rfl
        have kx_1 : w7.cell? ⟨p, 1, none⟩ = some (.pointer (some ⟨bY, 0, none⟩)) := by rw [cell_of_block kx]; rfl
        have kx_2 : w7.cell? ⟨p, 2, none⟩ = some (.int .i64 0) := by rw [cell_of_block kx]; rfl
        have kx_3 : w7.cell? ⟨p, 3, none⟩ = some (.int .i64 200) := by rw [cell_of_block kx]; rfl
        have kx_4 : w7.cell? ⟨p, 4, none⟩ = some (.slice aO nO cO) := by rw [cell_of_block kx]; rfl
        have kx_5 : w7.cell? ⟨p, 5, none⟩ = some (.int .i64 16777216) := by rw [cell_of_block kx]; rfl
        have kx_6 : w7.cell? ⟨p, 6, none⟩ = some (.int .i64 16777416) := by rw [cell_of_block kx]; rfl
        have kx_7 : w7.cell? ⟨p, 7, none⟩ = some (.slice aY nY cY) := by rw [cell_of_block kx]; rfl
        have kx_8 : w7.cell? ⟨p, 8, none⟩ = some (.slice (some ⟨G, 0, none⟩) (m + 1) lc) := by rw [cell_of_block kx]; rfl
        go_wp2_with fail
        refine (hT1 _ (hm7.below (by (repeat (first | exact Below.refl _ _ | assumption | refine Below.drew ?_ | refine below_drewN ?_ _ | refine balloc ?_ _ | refine Below.setCell ?_ (by first | (simp; done) | (simp; omega) | omega) _ | refine bchain (by assumption) ?_))))).mono ?_
        rintro e w8 ⟨rfl, hm8, hX8⟩
        have kx := mblock hX8 (bblock (show Below w7.heap.size w7 _ from by (repeat (first | exact Below.refl _ _ | assumption | refine Below.drew ?_ | refine below_drewN ?_ _ | refine balloc ?_ _ | refine Below.setCell ?_ (by first | (simp; done) | (simp; omega) | omega) _ | refine bchain (by assumption) ?_))) kx) hps
        have kh : w8.heap[w7.heap.size]? = some (.cells #[.int .i64 hk, .int .i64 hc, .int .i64 hf] 23 (0, 0)) := mblock hX8 (by repeat (first | exact alloc_at _ (by simp) | refine alloc_lt _ ?_)) (hn0 _ (by omega))
        have hM8 := (Mods.chain (show Below w7.heap.size w7 _ from by (repeat (first | exact Below.refl _ _ | assumption | refine Below.drew ?_ | refine below_drewN ?_ _ | refine balloc ?_ _ | refine Below.setCell ?_ (by first | (simp; done) | (simp; omega) | omega) _ | refine bchain (by assumption) ?_))) hM7).trans hX8 (fun i hi => .inl hi)
        have hs8 : w3.heap.size ≤ w8.heap.size := hM8.size
        clear hz_kx
        have hz_kx : p < w8.heap.size := (Array.getElem?_eq_some_iff.1 kx).1
        have hz_kh : w7.heap.size < w8.heap.size := (Array.getElem?_eq_some_iff.1 kh).1
        clear hm7 hM7 hX8
        clear kx_0 kx_1 kx_2 kx_3 kx_4 kx_5 kx_6 kx_7 kx_8
        have kx_0 : w8.cell? ⟨p, 0, none⟩ = some (.pointer (some ⟨bO, 0, none⟩)) := by rw [cell_of_block kx]; rfl
        have kx_1 : w8.cell? ⟨p, 1, none⟩ = some (.pointer (some ⟨bY, 0, none⟩)) := by rw [cell_of_block kx]; rfl
        have kx_2 : w8.cell? ⟨p, 2, none⟩ = some (.int .i64 0) := by rw [cell_of_block kx]; rfl
        have kx_3 : w8.cell? ⟨p, 3, none⟩ = some (.int .i64 200) := by rw [cell_of_block kx]; rfl
        have kx_4 : w8.cell? ⟨p, 4, none⟩ = some (.slice aO nO cO) := by rw [cell_of_block kx]; rfl
        have kx_5 : w8.cell? ⟨p, 5, none⟩ = some (.int .i64 16777216) := by rw [cell_of_block kx]; rfl
        have kx_6 : w8.cell? ⟨p, 6, none⟩ = some (.int .i64 16777416) := by rw [cell_of_block kx]; rfl
        have kx_7 : w8.cell? ⟨p, 7, none⟩ = some (.slice aY nY cY) := by rw [cell_of_block kx]; rfl
        have kx_8 : w8.cell? ⟨p, 8, none⟩ = some (.slice (some ⟨G, 0, none⟩) (m + 1) lc) := by rw [cell_of_block kx]; rfl
        have kh_0 : w8.cell? ⟨w7.heap.size, 0, none⟩ = some (.int .i64 hk) := by rw [cell_of_block kh]; rfl
        have kh_1 : w8.cell? ⟨w7.heap.size, 1, none⟩ = some (.int .i64 hc) := by rw [cell_of_block kh]; rfl
        have kh_2 : w8.cell? ⟨w7.heap.size, 2, none⟩ = some (.int .i64 hf) := by rw [cell_of_block kh]; rfl
        go_wp2_with fail
        refine (hR3 _ (hm8.below (by (repeat (first | exact Below.refl _ _ | assumption | refine Below.drew ?_ | refine below_drewN ?_ _ | refine balloc ?_ _ | refine Below.setCell ?_ (by first | (simp; done) | (simp; omega) | omega) _ | refine bchain (by assumption) ?_))))).mono ?_
        rintro e w9 ⟨rfl, hb9⟩
        have hB9 : Below w8.heap.size w8 w9 := by (repeat (first | exact Below.refl _ _ | assumption | refine Below.drew ?_ | refine below_drewN ?_ _ | refine balloc ?_ _ | refine Below.setCell ?_ (by first | (simp; done) | (simp; omega) | omega) _ | refine bchain (by assumption) ?_))
        have kx := bblock hB9 kx
        have kh := bblock hB9 kh
        have hM9 := Mods.chain hB9 hM8
        have hm9 := hm8.below hB9
        have hs9 : w3.heap.size ≤ w9.heap.size := hM9.size
        clear hz_kx hz_kh
        have hz_kx : p < w9.heap.size := (Array.getElem?_eq_some_iff.1 kx).1
        have hz_kh : w7.heap.size < w9.heap.size := (Array.getElem?_eq_some_iff.1 kh).1
        clear hB9 hm8 hM8 hb9
        clear kx_0 kx_1 kx_2 kx_3 kx_4 kx_5 kx_6 kx_7 kx_8 kh_0 kh_1 kh_2
        have kx_0 : w9.cell? ⟨p, 0, none⟩ = some (.pointer (some ⟨bO, 0, none⟩)) := by rw [cell_of_block kx]; rfl
        have kx_1 : w9.cell? ⟨p, 1, none⟩ = some (.pointer (some ⟨bY, 0, none⟩)) := by rw [cell_of_block kx]; rfl
        have kx_2 : w9.cell? ⟨p, 2, none⟩ = some (.int .i64 0) := by rw [cell_of_block kx]; rfl
        have kx_3 : w9.cell? ⟨p, 3, none⟩ = some (.int .i64 200) := by rw [cell_of_block kx]; rfl
        have kx_4 : w9.cell? ⟨p, 4, none⟩ = some (.slice aO nO cO) := by rw [cell_of_block kx]; rfl
        have kx_5 : w9.cell? ⟨p, 5, none⟩ = some (.int .i64 16777216) := by rw [cell_of_block kx]; rfl
        have kx_6 : w9.cell? ⟨p, 6, none⟩ = some (.int .i64 16777416) := by rw [cell_of_block kx]; rfl
        have kx_7 : w9.cell? ⟨p, 7, none⟩ = some (.slice aY nY cY) := by rw [cell_of_block kx]; rfl
        have kx_8 : w9.cell? ⟨p, 8, none⟩ = some (.slice (some ⟨G, 0, none⟩) (m + 1) lc) := by rw [cell_of_block kx]; rfl
        have kh_0 : w9.cell? ⟨w7.heap.size, 0, none⟩ = some (.int .i64 hk) := by rw [cell_of_block kh]; rfl
        have kh_1 : w9.cell? ⟨w7.heap.size, 1, none⟩ = some (.int .i64 hc) := by rw [cell_of_block kh]; rfl
        have kh_2 : w9.cell? ⟨w7.heap.size, 2, none⟩ = some (.int .i64 hf) := by rw [cell_of_block kh]; rfl
        go_wp2
        go_ret
        exact ⟨rfl, hw3.trans ((Mods.chain (show Below w9.heap.size w9 _ from by (repeat (first | exact Below.refl _ _ | assumption | refine Below.drew ?_ | refine below_drewN ?_ _ | refine balloc ?_ _ | refine Below.setCell ?_ (by first | (simp; done) | (simp; omega) | omega) _ | refine bchain (by assumption) ?_))) hM9).below hw3.size hMS)⟩
    · have e5 := e5 ey
      have b1 : (ya != ra) = true := by simpa using ey
      subst e5
      clear e6 e7 ey
      have hs3 : w3.heap.size ≤ w3.heap.size := Nat.le_refl _
      have hm3 := hm0
      have hM3 := hM0
      have hB3 : Below w3.heap.size w3 w3 := Below.refl _ _
      go_wp2_with fail
      have o_kx_0 : ∀ x, (over w3 x).cell? ⟨p, 0, none⟩ = some (.pointer (some ⟨bO, 0, none⟩)) := over_cell (by rw [cell_of_block kx]; rfl)
      have o_kx_1 : ∀ x, (over w3 x).cell? ⟨p, 1, none⟩ = some (.pointer (some ⟨bY, 0, none⟩)) := over_cell (by rw [cell_of_block kx]; rfl)
      have o_kx_2 : ∀ x, (over w3 x).cell? ⟨p, 2, none⟩ = some (.int .i64 0) := over_cell (by rw [cell_of_block kx]; rfl)
      have o_kx_3 : ∀ x, (over w3 x).cell? ⟨p, 3, none⟩ = some (.int .i64 200) := over_cell (by rw [cell_of_block kx]; rfl)
      have o_kx_4 : ∀ x, (over w3 x).cell? ⟨p, 4, none⟩ = some (.slice aO nO cO) := over_cell (by rw [cell_of_block kx]; rfl)
      have o_kx_5 : ∀ x, (over w3 x).cell? ⟨p, 5, none⟩ = some (.int .i64 16777216) := over_cell (by rw [cell_of_block kx]; rfl)
      have o_kx_6 : ∀ x, (over w3 x).cell? ⟨p, 6, none⟩ = some (.int .i64 16777416) := over_cell (by rw [cell_of_block kx]; rfl)
      have o_kx_7 : ∀ x, (over w3 x).cell? ⟨p, 7, none⟩ = some (.slice aY nY cY) := over_cell (by rw [cell_of_block kx]; rfl)
      have o_kx_8 : ∀ x, (over w3 x).cell? ⟨p, 8, none⟩ = some (.slice (some ⟨G, 0, none⟩) (m + 1) lc) := over_cell (by rw [cell_of_block kx]; rfl)
      have o_a : ∀ x, (over w3 x).cell? ⟨G, ia, none⟩ = some (.int .i64 ya) := over_cell (qa)
      have o_b : ∀ x, (over w3 x).cell? ⟨G, ib, none⟩ = some (.int .i64 yb) := over_cell (qb)
      (refine wp_region_over (by kernel_rfl) (by kernel_rfl) ?_); (repeat (go_big_quiet_step ((fail)))); (refine wpQuiet_nil ?_)
      intro w4 hb4
      clear o_kx_0 o_kx_1 o_kx_2 o_kx_3 o_kx_4 o_kx_5 o_kx_6 o_kx_7 o_kx_8 o_a o_b
      have hB4 : Below w3.heap.size w3 w4 := by (repeat (first | exact Below.refl _ _ | assumption | refine Below.drew ?_ | refine below_drewN ?_ _ | refine balloc ?_ _ | refine Below.setCell ?_ (by first | (simp; done) | (simp; omega) | omega) _ | refine bchain (by assumption) ?_))
      have kx := bblock hB4 kx
      have hM4 := Mods.chain hB4 hM3
      have hm4 := hm3.below hB4
      have hs4 : w3.heap.size ≤ w4.heap.size := hM4.size
      have hz_kx : p < w4.heap.size := (Array.getElem?_eq_some_iff.1 kx).1
      clear hB4 hm3 hM3 hb4
      clear kx_0 kx_1 kx_2 kx_3 kx_4 kx_5 kx_6 kx_7 kx_8
      have kx_0 : w4.cell? ⟨p, 0, none⟩ = some (.pointer (some ⟨bO, 0, none⟩)) := by rw [cell_of_block kx]; rfl
      have kx_1 : w4.cell? ⟨p, 1, none⟩ = some (.pointer (some ⟨bY, 0, none⟩)) := by rw [cell_of_block kx]; rfl
      have kx_2 : w4.cell? ⟨p, 2, none⟩ = some (.int .i64 0) := by rw [cell_of_block kx]; rfl
      have kx_3 : w4.cell? ⟨p, 3, none⟩ = some (.int .i64 200) := by rw [cell_of_block kx]; rfl
      have kx_4 : w4.cell? ⟨p, 4, none⟩ = some (.slice aO nO cO) := by rw [cell_of_block kx]; rfl
      have kx_5 : w4.cell? ⟨p, 5, none⟩ = some (.int .i64 16777216) := by rw [cell_of_block kx]; rfl
      have kx_6 : w4.cell? ⟨p, 6, none⟩ = some (.int .i64 16777416) := by rw [cell_of_block kx]; rfl
      have kx_7 : w4.cell? ⟨p, 7, none⟩ = some (.slice aY nY cY) := by rw [cell_of_block kx]; rfl
      have kx_8 : w4.cell? ⟨p, 8, none⟩ = some (.slice (some ⟨G, 0, none⟩) (m + 1) lc) := by rw [cell_of_block kx]; rfl
      go_wp2_with fail
      refine (hR1 _ (hm4.below (by (repeat (first | exact Below.refl _ _ | assumption | refine Below.drew ?_ | refine below_drewN ?_ _ | refine balloc ?_ _ | refine Below.setCell ?_ (by first | (simp; done) | (simp; omega) | omega) _ | refine bchain (by assumption) ?_))))).mono ?_
      rintro e w5 ⟨rfl, hb5⟩
      have hB5 : Below w4.heap.size w4 w5 := by (repeat (first | exact Below.refl _ _ | assumption | refine Below.drew ?_ | refine below_drewN ?_ _ | refine balloc ?_ _ | refine Below.setCell ?_ (by first | (simp; done) | (simp; omega) | omega) _ | refine bchain (by assumption) ?_))
      have kx := bblock hB5 kx
      have hM5 := Mods.chain hB5 hM4
      have hm5 := hm4.below hB5
      have hs5 : w3.heap.size ≤ w5.heap.size := hM5.size
      clear hz_kx
      have hz_kx : p < w5.heap.size := (Array.getElem?_eq_some_iff.1 kx).1
      clear hB5 hm4 hM4 hb5
      clear kx_0 kx_1 kx_2 kx_3 kx_4 kx_5 kx_6 kx_7 kx_8
      have kx_0 : w5.cell? ⟨p, 0, none⟩ = some (.pointer (some ⟨bO, 0, none⟩)) := by rw [cell_of_block kx]; rfl
      have kx_1 : w5.cell? ⟨p, 1, none⟩ = some (.pointer (some ⟨bY, 0, none⟩)) := by rw [cell_of_block kx]; rfl
      have kx_2 : w5.cell? ⟨p, 2, none⟩ = some (.int .i64 0) := by rw [cell_of_block kx]; rfl
      have kx_3 : w5.cell? ⟨p, 3, none⟩ = some (.int .i64 200) := by rw [cell_of_block kx]; rfl
      have kx_4 : w5.cell? ⟨p, 4, none⟩ = some (.slice aO nO cO) := by rw [cell_of_block kx]; rfl
      have kx_5 : w5.cell? ⟨p, 5, none⟩ = some (.int .i64 16777216) := by rw [cell_of_block kx]; rfl
      have kx_6 : w5.cell? ⟨p, 6, none⟩ = some (.int .i64 16777416) := by rw [cell_of_block kx]; rfl
      have kx_7 : w5.cell? ⟨p, 7, none⟩ = some (.slice aY nY cY) := by rw [cell_of_block kx]; rfl
      have kx_8 : w5.cell? ⟨p, 8, none⟩ = some (.slice (some ⟨G, 0, none⟩) (m + 1) lc) := by rw [cell_of_block kx]; rfl
      go_wp2_with fail
      refine (hR2 _ (hm5.below (by (repeat (first | exact Below.refl _ _ | assumption | refine Below.drew ?_ | refine below_drewN ?_ _ | refine balloc ?_ _ | refine Below.setCell ?_ (by first | (simp; done) | (simp; omega) | omega) _ | refine bchain (by assumption) ?_))))).mono ?_
      rintro e w6 ⟨rfl, hb6⟩
      have hB6 : Below w5.heap.size w5 w6 := by (repeat (first | exact Below.refl _ _ | assumption | refine Below.drew ?_ | refine below_drewN ?_ _ | refine balloc ?_ _ | refine Below.setCell ?_ (by first | (simp; done) | (simp; omega) | omega) _ | refine bchain (by assumption) ?_))
      have kx := bblock hB6 kx
      have hM6 := Mods.chain hB6 hM5
      have hm6 := hm5.below hB6
      have hs6 : w3.heap.size ≤ w6.heap.size := hM6.size
      clear hz_kx
      have hz_kx : p < w6.heap.size := (Array.getElem?_eq_some_iff.1 kx).1
      clear hB6 hm5 hM5 hb6
      clear kx_0 kx_1 kx_2 kx_3 kx_4 kx_5 kx_6 kx_7 kx_8
      have kx_0 : w6.cell? ⟨p, 0, none⟩ = some (.pointer (some ⟨bO, 0, none⟩)) := by rw [cell_of_block kx]; rfl
      have kx_1 : w6.cell? ⟨p, 1, none⟩ = some (.pointer (some ⟨bY, 0, none⟩)) := by rw [cell_of_block kx]; rfl
      have kx_2 : w6.cell? ⟨p, 2, none⟩ = some (.int .i64 0) := by rw [cell_of_block kx]; rfl
      have kx_3 : w6.cell? ⟨p, 3, none⟩ = some (.int .i64 200) := by rw [cell_of_block kx]; rfl
      have kx_4 : w6.cell? ⟨p, 4, none⟩ = some (.slice aO nO cO) := by rw [cell_of_block kx]; rfl
      have kx_5 : w6.cell? ⟨p, 5, none⟩ = some (.int .i64 16777216) := by rw [cell_of_block kx]; rfl
      have kx_6 : w6.cell? ⟨p, 6, none⟩ = some (.int .i64 16777416) := by rw [cell_of_block kx]; rfl
      have kx_7 : w6.cell? ⟨p, 7, none⟩ = some (.slice aY nY cY) := by rw [cell_of_block kx]; rfl
      have kx_8 : w6.cell? ⟨p, 8, none⟩ = some (.slice (some ⟨G, 0, none⟩) (m + 1) lc) := by rw [cell_of_block kx]; rfl
      go_wp2_with fail
      refine (hH1 _ (hm6.below (by (repeat (first | exact Below.refl _ _ | assumption | refine Below.drew ?_ | refine below_drewN ?_ _ | refine balloc ?_ _ | refine Below.setCell ?_ (by first | (simp; done) | (simp; omega) | omega) _ | refine bchain (by assumption) ?_))))).mono ?_
      rintro e w7 ⟨rfl, hb7⟩
      have hB7 : Below w6.heap.size w6 w7 := by (repeat (first | exact Below.refl _ _ | assumption | refine Below.drew ?_ | refine below_drewN ?_ _ | refine balloc ?_ _ | refine Below.setCell ?_ (by first | (simp; done) | (simp; omega) | omega) _ | refine bchain (by assumption) ?_))
      have kx := bblock hB7 kx
      have hM7 := Mods.chain hB7 hM6
      have hm7 := hm6.below hB7
      have hs7 : w3.heap.size ≤ w7.heap.size := hM7.size
      clear hz_kx
      have hz_kx : p < w7.heap.size := (Array.getElem?_eq_some_iff.1 kx).1
      clear hB7 hm6 hM6 hb7
      clear kx_0 kx_1 kx_2 kx_3 kx_4 kx_5 kx_6 kx_7 kx_8
      have kx_0 : w7.cell? ⟨p, 0, none⟩ = some (.pointer (some ⟨bO, 0, none⟩)) := by rw [cell_of_block kx]; rfl
      have kx_1 : w7.cell? ⟨p, 1, none⟩ = some (.pointer (some ⟨bY, 0, none⟩)) := by rw [cell_of_block kx]; rfl
      have kx_2 : w7.cell? ⟨p, 2, none⟩ = some (.int .i64 0) := by rw [cell_of_block kx]; rfl
      have kx_3 : w7.cell? ⟨p, 3, none⟩ = some (.int .i64 200) := by rw [cell_of_block kx]; rfl
      have kx_4 : w7.cell? ⟨p, 4, none⟩ = some (.slice aO nO cO) := by rw [cell_of_block kx]; rfl
      have kx_5 : w7.cell? ⟨p, 5, none⟩ = some (.int .i64 16777216) := by rw [cell_of_block kx]; rfl
      have kx_6 : w7.cell? ⟨p, 6, none⟩ = some (.int .i64 16777416) := by rw [cell_of_block kx]; rfl
      have kx_7 : w7.cell? ⟨p, 7, none⟩ = some (.slice aY nY cY) := by rw [cell_of_block kx]; rfl
      have kx_8 : w7.cell? ⟨p, 8, none⟩ = some (.slice (some ⟨G, 0, none⟩) (m + 1) lc) := by rw [cell_of_block kx]; rfl
      go_wp2_with fail
      refine (hT1 _ (hm7.below (by (repeat (first | exact Below.refl _ _ | assumption | refine Below.drew ?_ | refine below_drewN ?_ _ | refine balloc ?_ _ | refine Below.setCell ?_ (by first | (simp; done) | (simp; omega) | omega) _ | refine bchain (by assumption) ?_))))).mono ?_
      rintro e w8 ⟨rfl, hm8, hX8⟩
      have kx := mblock hX8 (bblock (show Below w7.heap.size w7 _ from by (repeat (first | exact Below.refl _ _ | assumption | refine Below.drew ?_ | refine below_drewN ?_ _ | refine balloc ?_ _ | refine Below.setCell ?_ (by first | (simp; done) | (simp; omega) | omega) _ | refine bchain (by assumption) ?_))) kx) hps
      have kh : w8.heap[w7.heap.size]? = some (.cells #[.int .i64 hk, .int .i64 hc, .int .i64 hf] 23 (0, 0)) := mblock hX8 (by repeat (first | exact alloc_at _ (by simp) | refine alloc_lt _ ?_)) (hn0 _ (by omega))
      have hM8 := (Mods.chain (show Below w7.heap.size w7 _ from by (repeat (first | exact Below.refl _ _ | assumption | refine Below.drew ?_ | refine below_drewN ?_ _ | refine balloc ?_ _ | refine Below.setCell ?_ (by first | (simp; done) | (simp; omega) | omega) _ | refine bchain (by assumption) ?_))) hM7).trans hX8 (fun i hi => .inl hi)
      have hs8 : w3.heap.size ≤ w8.heap.size := hM8.size
      clear hz_kx
      have hz_kx : p < w8.heap.size := (Array.getElem?_eq_some_iff.1 kx).1
      have hz_kh : w7.heap.size < w8.heap.size := (Array.getElem?_eq_some_iff.1 kh).1
      clear hm7 hM7 hX8
      clear kx_0 kx_1 kx_2 kx_3 kx_4 kx_5 kx_6 kx_7 kx_8
      have kx_0 : w8.cell? ⟨p, 0, none⟩ = some (.pointer (some ⟨bO, 0, none⟩)) := by rw [cell_of_block kx]; rfl
      have kx_1 : w8.cell? ⟨p, 1, none⟩ = some (.pointer (some ⟨bY, 0, none⟩)) := by rw [cell_of_block kx]; rfl
      have kx_2 : w8.cell? ⟨p, 2, none⟩ = some (.int .i64 0) := by rw [cell_of_block kx]; rfl
      have kx_3 : w8.cell? ⟨p, 3, none⟩ = some (.int .i64 200) := by rw [cell_of_block kx]; rfl
      have kx_4 : w8.cell? ⟨p, 4, none⟩ = some (.slice aO nO cO) := by rw [cell_of_block kx]; rfl
      have kx_5 : w8.cell? ⟨p, 5, none⟩ = some (.int .i64 16777216) := by rw [cell_of_block kx]; rfl
      have kx_6 : w8.cell? ⟨p, 6, none⟩ = some (.int .i64 16777416) := by rw [cell_of_block kx]; rfl
      have kx_7 : w8.cell? ⟨p, 7, none⟩ = some (.slice aY nY cY) := by rw [cell_of_block kx]; rfl
      have kx_8 : w8.cell? ⟨p, 8, none⟩ = some (.slice (some ⟨G, 0, none⟩) (m + 1) lc) := by rw [cell_of_block kx]; rfl
      have kh_0 : w8.cell? ⟨w7.heap.size, 0, none⟩ = some (.int .i64 hk) := by rw [cell_of_block kh]; rfl
      have kh_1 : w8.cell? ⟨w7.heap.size, 1, none⟩ = some (.int .i64 hc) := by rw [cell_of_block kh]; rfl
      have kh_2 : w8.cell? ⟨w7.heap.size, 2, none⟩ = some (.int .i64 hf) := by rw [cell_of_block kh]; rfl
      go_wp2
      go_ret
      exact ⟨rfl, hw3.trans ((Mods.chain (show Below w8.heap.size w8 _ from by (repeat (first | exact Below.refl _ _ | assumption | refine Below.drew ?_ | refine below_drewN ?_ _ | refine balloc ?_ _ | refine Below.setCell ?_ (by first | (simp; done) | (simp; omega) | omega) _ | refine bchain (by assumption) ?_))) hM8).below hw3.size hMS)⟩
end Go.Proofs.Ytcmhgjkijegpnaa
