/-
  refmeshref07.Resolve.
-/
import Derived.Test.YtcmhgjkijegpnaaRfG
namespace Go.Proofs.Ytcmhgjkijegpnaa
open Go.RowKit
set_option linter.unusedSimpArgs false
set_option linter.unusedVariables false

theorem RMem.le_bd {w : World} {aO : Option Addr} {nO cO : Nat} {aY : Option Addr} {nY cY : Nat} {lo ly : Int} {wo wy : List Int} {gO gY : Option Nat} (hm : RMem w aO nO cO aY nY cY lo ly wo wy gO gY) {a : Int} (h : LE wo wy a = 0) : 0 ≤ a ∧ a ≤ 1099511627776 := by
  have hk1 := (hm.partOk a).b0
  have hk2 := (hm.partOk a).top
  have hk3 := (hm.partOk a).lm1
  unfold LE ioE at h
  by_cases g : inB (bsA a) (wsA wo wy a).length a = true
  · obtain ⟨h2, h3⟩ := inB_iff.1 g
    omega
  · rw [if_neg g] at h; cases h
theorem RMem.he_rng {w : World} {aO : Option Addr} {nO cO : Nat} {aY : Option Addr} {nY cY : Nat} {lo ly : Int} {wo wy : List Int} {gO gY : Option Nat} (hm : RMem w aO nO cO aY nY cY lo ly wo wy gO gY) {a : Int} (h : HE wo wy a = 0) : 0 ≤ a ∧ a ≤ 1099511627776 := by
  have hk1 := (hm.partOk a).b0
  have hk2 := (hm.partOk a).top
  have hk3 := (hm.partOk a).lm1
  obtain ⟨h2, h3⟩ := inB_iff.1 (hd_bd h).1
  omega
set_option maxRecDepth 100000 in
set_option maxHeartbeats 1000000 in
theorem rresolve_out {w : World} {aO : Option Addr} {nO cO : Nat} {aY : Option Addr} {nY cY : Nat} {lo ly : Int} {wo wy : List Int} {gO gY : Option Nat} (hm : RMem w aO nO cO aY nY cY lo ly wo wy gO gY) (a0 : Int) (hl : LE wo wy a0 ≠ 0) :
    Calls Try.prog 36 #[.agg #[.int .i64 0, .int .i64 lo, .slice aO nO cO, .int .i64 16777216, .int .i64 ly, .slice aY nY cY], .int .i64 a0] w fun e w' => e = .returned (.tuple #[.int .i64 0, .int .i64 (LE wo wy a0)]) ∧ Below w.heap.size w w' := by
  have hL0 := fun W (h : Below w.heap.size w W) => rmload_any (hm.below h) a0
  generalize LD wo wy a0 = x at *
  generalize LE wo wy a0 = er at *
  have hb1 : (er != 0) = true := by simpa using hl
  clear hl hm
  have hw0 : Below w.heap.size w w := Below.refl _ _
  go_enter Try.func36, Try.ntmps36
  go_wp2_with fail
  refine (hL0 _ (by (repeat (first | exact Below.refl _ _ | assumption | refine Below.drew ?_ | refine below_drewN ?_ _ | refine balloc ?_ _ | refine Below.setCell ?_ (by first | (simp; done) | (simp; omega) | omega) _ | refine bchain (by assumption) ?_)))).mono ?_
  rintro e w1 ⟨rfl, hb1⟩
  have hB1 : Below w.heap.size w w1 := by (repeat (first | exact Below.refl _ _ | assumption | refine Below.drew ?_ | refine below_drewN ?_ _ | refine balloc ?_ _ | refine Below.setCell ?_ (by first | (simp; done) | (simp; omega) | omega) _ | refine bchain (by assumption) ?_))
  have k0 : w1.heap[w.heap.size]? = some (.cells #[.int .i64 0, .int .i64 lo, .slice aO nO cO, .int .i64 16777216, .int .i64 ly, .slice aY nY cY] 35 (0, 0)) := bblock hb1 (by repeat (first | exact alloc_at _ (by simp) | refine alloc_lt _ ?_))
  have hw1 := bchain hB1 hw0
  have hp1 : w.heap.size + 1 ≤ w1.heap.size := by have := (Array.getElem?_eq_some_iff.1 k0).1; omega
  have hz_k0 : w.heap.size < w1.heap.size := (Array.getElem?_eq_some_iff.1 k0).1
  clear hB1
  have k0_0 : w1.cell? ⟨w.heap.size, 0, none⟩ = some (.int .i64 0) := by rw [cell_of_block k0]; rfl
  have k0_1 : w1.cell? ⟨w.heap.size, 1, none⟩ = some (.int .i64 lo) := by rw [cell_of_block k0]; rfl
  have k0_2 : w1.cell? ⟨w.heap.size, 2, none⟩ = some (.slice aO nO cO) := by rw [cell_of_block k0]; rfl
  have k0_3 : w1.cell? ⟨w.heap.size, 3, none⟩ = some (.int .i64 16777216) := by rw [cell_of_block k0]; rfl
  have k0_4 : w1.cell? ⟨w.heap.size, 4, none⟩ = some (.int .i64 ly) := by rw [cell_of_block k0]; rfl
  have k0_5 : w1.cell? ⟨w.heap.size, 5, none⟩ = some (.slice aY nY cY) := by rw [cell_of_block k0]; rfl
  go_wp2
  go_ret2
  exact ⟨rfl, by (repeat (first | exact Below.refl _ _ | assumption | refine Below.drew ?_ | refine below_drewN ?_ _ | refine balloc ?_ _ | refine Below.setCell ?_ (by first | (simp; done) | (simp; omega) | omega) _ | refine bchain (by assumption) ?_))⟩
set_option maxRecDepth 100000 in
set_option maxHeartbeats 4000000 in
theorem rresolve_in {w : World} {aO : Option Addr} {nO cO : Nat} {aY : Option Addr} {nY cY : Nat} {lo ly : Int} {wo wy : List Int} {gO gY : Option Nat} (hm : RMem w aO nO cO aY nY cY lo ly wo wy gO gY) (a0 : Int) (hl : LE wo wy a0 = 0) (r1 r2 : Int) (hr : rsv wo wy (nO + nY + 1) a0 = (r1, r2)) :
    Calls Try.prog 36 #[.agg #[.int .i64 0, .int .i64 lo, .slice aO nO cO, .int .i64 16777216, .int .i64 ly, .slice aY nY cY], .int .i64 a0] w fun e w' => e = .returned (.tuple #[.int .i64 r1, .int .i64 r2]) ∧ Below w.heap.size w w' := by
  have hH := fun W (h : Below w.heap.size w W) (c : Int) => rmhdr_any (hm.below h) c
  have hL := fun W (h : Below w.heap.size w W) (c : Int) => rmload_any (hm.below h) c
  have hu := fun c => hm.ldU c
  have hrg := fun (c : Int) (h : HE wo wy c = 0) => hm.he_rng h
  have hab := hm.le_bd hl
  have hLn : nO + nY ≤ 4398046511104 := by have := hm.okO.top; have := hm.okO.lm1; have := hm.okY.top; have := hm.okY.lm1; have := hm.lO; have := hm.lY; omega
  have hL0 := fun W h => hL W h a0
  rw [hl] at hL0
  have HR := Lib.hid hr
  clear hm hr hl
  generalize LD wo wy a0 = x0 at hL0
  have hw0 : Below w.heap.size w w := Below.refl _ _
  go_enter Try.func36, Try.ntmps36
  go_wp2_with fail
  refine (hL0 _ (by (repeat (first | exact Below.refl _ _ | assumption | refine Below.drew ?_ | refine below_drewN ?_ _ | refine balloc ?_ _ | refine Below.setCell ?_ (by first | (simp; done) | (simp; omega) | omega) _ | refine bchain (by assumption) ?_)))).mono ?_
  rintro e w1 ⟨rfl, hb1⟩
  have hB1 : Below w.heap.size w w1 := by (repeat (first | exact Below.refl _ _ | assumption | refine Below.drew ?_ | refine below_drewN ?_ _ | refine balloc ?_ _ | refine Below.setCell ?_ (by first | (simp; done) | (simp; omega) | omega) _ | refine bchain (by assumption) ?_))
  have k0 : w1.heap[w.heap.size]? = some (.cells #[.int .i64 0, .int .i64 lo, .slice aO nO cO, .int .i64 16777216, .int .i64 ly, .slice aY nY cY] 35 (0, 0)) := bblock hb1 (by repeat (first | exact alloc_at _ (by simp) | refine alloc_lt _ ?_))
  have hw1 := bchain hB1 hw0
  have hp1 : w.heap.size + 1 ≤ w1.heap.size := by have := (Array.getElem?_eq_some_iff.1 k0).1; omega
  have hz_k0 : w.heap.size < w1.heap.size := (Array.getElem?_eq_some_iff.1 k0).1
  clear hB1
  have k0_0 : w1.cell? ⟨w.heap.size, 0, none⟩ = some (.int .i64 0) := by rw [cell_of_block k0]; rfl
  have k0_1 : w1.cell? ⟨w.heap.size, 1, none⟩ = some (.int .i64 lo) := by rw [cell_of_block k0]; rfl
  have k0_2 : w1.cell? ⟨w.heap.size, 2, none⟩ = some (.slice aO nO cO) := by rw [cell_of_block k0]; rfl
  have k0_3 : w1.cell? ⟨w.heap.size, 3, none⟩ = some (.int .i64 16777216) := by rw [cell_of_block k0]; rfl
  have k0_4 : w1.cell? ⟨w.heap.size, 4, none⟩ = some (.int .i64 ly) := by rw [cell_of_block k0]; rfl
  have k0_5 : w1.cell? ⟨w.heap.size, 5, none⟩ = some (.slice aY nY cY) := by rw [cell_of_block k0]; rfl
  go_wp2_with fail
  have hw1s : w.heap.size < w1.heap.size := hz_k0
  go_loopw [1, 8] (fun p s wr => ∃ (j : Nat) (sx x : Int), j ≤ nO + nY + 1 ∧ Hid (sx = j) ∧ s = .int .i64 sx ∧ p = .int .i64 x ∧ Hid (rsv wo wy (nO + nY + 1 - j) x = (r1, r2)) ∧ (0 ≤ x ∧ x ≤ 1099511627776) ∧ wr.heap[w.heap.size]? = some (.cells #[.int .i64 0, .int .i64 lo, .slice aO nO cO, .int .i64 16777216, .int .i64 ly, .slice aY nY cY] 35 (0, 0)) ∧ Below w.heap.size w wr) (fun _ s _ => nO + nY + 1 - (intOf s).toNat)
  case atStart => exact ⟨0, 0, a0, Nat.zero_le _, Lib.hid rfl, rfl, rfl, HR, hab, k0, hw1⟩
  case round =>
    clear k0 k0_0 k0_1 k0_2 k0_3 k0_4 k0_5 hz_k0 HR hL0 hab
    obtain ⟨j, sx, x, hj, hsx, rfl, rfl, hrs, ⟨hx0, hx1⟩, k0, hw10⟩ := hrel
    have hse := hsx.out
    have hs0 : 0 ≤ sx := by omega
    have hs1 : sx ≤ 4398046511105 := by omega
    have HS1 := Lib.hid (show sx ≤ (nO : Int) + (nY : Int) → ∃ m, nO + nY + 1 - j = m + 1 ∧ nO + nY + 1 - (j + 1) = m ∧ j + 1 ≤ nO + nY + 1 from fun h => ⟨nO + nY - j, by omega, by omega, by omega⟩)
    have HS2 := Lib.hid (show ¬ sx ≤ (nO : Int) + (nY : Int) → nO + nY + 1 - j = 0 from fun h => by omega)
    have HS3 := Lib.hid (show sx + 1 = ((j + 1 : Nat) : Int) by omega)
    clear hse hsx
    by_cases hlt : sx ≤ (nO : Int) + (nY : Int)
    · have hd1 : decide (sx ≤ (nO : Int) + (nY : Int)) = true := decide_eq_true hlt
      by_cases he : HE wo wy x = 0
      · by_cases hk4 : HK wo wy x = 4
        · cases had : adB (LD wo wy (x + 2))
          · have hH1 := fun W h => hH W h x
            rw [he, hk4] at hH1
            have hL1 := fun W h => hL W h (x + 2)
            have hA1 := fun W => raddress_any (LD wo wy (x + 2)) (hu (x + 2)) W
            rw [had] at hA1
            have e := hrs.out.symm.trans (rsv_bad he hk4 had _)
            obtain ⟨rfl, rfl⟩ := Prod.mk.inj e
            clear hrs e
            clear hH hL hu hrg he hk4 had HS1 HS2 HS3
            generalize LD wo wy (x + 2) = xv at *
            generalize LE wo wy (x + 2) = yv at *
            generalize adA xv = av at *
            generalize HC wo wy x = hc at *
            generalize HF wo wy x = hf at *
            have hz_k0 : w.heap.size < wr.heap.size := (Array.getElem?_eq_some_iff.1 k0).1
            have k0_0 : wr.cell? ⟨w.heap.size, 0, none⟩ = some (.int .i64 0) := by rw [cell_of_block k0]; rfl
            have k0_1 : wr.cell? ⟨w.heap.size, 1, none⟩ = some (.int .i64 lo) := by rw [cell_of_block k0]; rfl
            have k0_2 : wr.cell? ⟨w.heap.size, 2, none⟩ = some (.slice aO nO cO) := by rw [cell_of_block k0]; rfl
            have k0_3 : wr.cell? ⟨w.heap.size, 3, none⟩ = some (.int .i64 16777216) := by rw [cell_of_block k0]; rfl
            have k0_4 : wr.cell? ⟨w.heap.size, 4, none⟩ = some (.int .i64 ly) := by rw [cell_of_block k0]; rfl
            have k0_5 : wr.cell? ⟨w.heap.size, 5, none⟩ = some (.slice aY nY cY) := by rw [cell_of_block k0]; rfl
            go_wp2_with fail
            refine (hH1 _ (by (repeat (first | exact Below.refl _ _ | assumption | refine Below.drew ?_ | refine below_drewN ?_ _ | refine balloc ?_ _ | refine Below.setCell ?_ (by first | (simp; done) | (simp; omega) | omega) _ | refine bchain (by assumption) ?_)))).mono ?_
            rintro e w11 ⟨rfl, hb11⟩
            have hB11 : Below wr.heap.size wr w11 := by (repeat (first | exact Below.refl _ _ | assumption | refine Below.drew ?_ | refine below_drewN ?_ _ | refine balloc ?_ _ | refine Below.setCell ?_ (by first | (simp; done) | (simp; omega) | omega) _ | refine bchain (by assumption) ?_))
            have k0 := bblock hB11 k0
            have hw11 := bchain hB11 hw10
            have hp11 : w.heap.size + 1 ≤ w11.heap.size := by have := (Array.getElem?_eq_some_iff.1 k0).1; omega
            clear hz_k0
            have hz_k0 : w.heap.size < w11.heap.size := (Array.getElem?_eq_some_iff.1 k0).1
            clear hB11
            clear k0_0 k0_1 k0_2 k0_3 k0_4 k0_5
            have k0_0 : w11.cell? ⟨w.heap.size, 0, none⟩ = some (.int .i64 0) := by rw [cell_of_block k0]; rfl
            have k0_1 : w11.cell? ⟨w.heap.size, 1, none⟩ = some (.int .i64 lo) := by rw [cell_of_block k0]; rfl
            have k0_2 : w11.cell? ⟨w.heap.size, 2, none⟩ = some (.slice aO nO cO) := by rw [cell_of_block k0]; rfl
            have k0_3 : w11.cell? ⟨w.heap.size, 3, none⟩ = some (.int .i64 16777216) := by rw [cell_of_block k0]; rfl
            have k0_4 : w11.cell? ⟨w.heap.size, 4, none⟩ = some (.int .i64 ly) := by rw [cell_of_block k0]; rfl
            have k0_5 : w11.cell? ⟨w.heap.size, 5, none⟩ = some (.slice aY nY cY) := by rw [cell_of_block k0]; rfl
            go_wp2_with fail
            refine (hL1 _ (by (repeat (first | exact Below.refl _ _ | assumption | refine Below.drew ?_ | refine below_drewN ?_ _ | refine balloc ?_ _ | refine Below.setCell ?_ (by first | (simp; done) | (simp; omega) | omega) _ | refine bchain (by assumption) ?_)))).mono ?_
            rintro e w12 ⟨rfl, hb12⟩
            have hB12 : Below w11.heap.size w11 w12 := by (repeat (first | exact Below.refl _ _ | assumption | refine Below.drew ?_ | refine below_drewN ?_ _ | refine balloc ?_ _ | refine Below.setCell ?_ (by first | (simp; done) | (simp; omega) | omega) _ | refine bchain (by assumption) ?_))
            have k0 := bblock hB12 k0
            have t : w12.heap[w11.heap.size]? = some (.cells #[.int .i64 4, .int .i64 hc, .int .i64 hf] 23 (0, 0)) := bblock hb12 (by repeat (first | exact alloc_at _ (by simp) | refine alloc_lt _ ?_))
            have hw12 := bchain hB12 hw11
            have hp12 : w.heap.size + 1 ≤ w12.heap.size := by have := (Array.getElem?_eq_some_iff.1 k0).1; omega
            clear hz_k0
            have hz_k0 : w.heap.size < w12.heap.size := (Array.getElem?_eq_some_iff.1 k0).1
            have hz_t : w11.heap.size < w12.heap.size := (Array.getElem?_eq_some_iff.1 t).1
            clear hB12
            clear k0_0 k0_1 k0_2 k0_3 k0_4 k0_5
            have k0_0 : w12.cell? ⟨w.heap.size, 0, none⟩ = some (.int .i64 0) := by rw [cell_of_block k0]; rfl
            have k0_1 : w12.cell? ⟨w.heap.size, 1, none⟩ = some (.int .i64 lo) := by rw [cell_of_block k0]; rfl
            have k0_2 : w12.cell? ⟨w.heap.size, 2, none⟩ = some (.slice aO nO cO) := by rw [cell_of_block k0]; rfl
            have k0_3 : w12.cell? ⟨w.heap.size, 3, none⟩ = some (.int .i64 16777216) := by rw [cell_of_block k0]; rfl
            have k0_4 : w12.cell? ⟨w.heap.size, 4, none⟩ = some (.int .i64 ly) := by rw [cell_of_block k0]; rfl
            have k0_5 : w12.cell? ⟨w.heap.size, 5, none⟩ = some (.slice aY nY cY) := by rw [cell_of_block k0]; rfl
            have t_0 : w12.cell? ⟨w11.heap.size, 0, none⟩ = some (.int .i64 4) := by rw [cell_of_block t]; rfl
            have t_1 : w12.cell? ⟨w11.heap.size, 1, none⟩ = some (.int .i64 hc) := by rw [cell_of_block t]; rfl
            have t_2 : w12.cell? ⟨w11.heap.size, 2, none⟩ = some (.int .i64 hf) := by rw [cell_of_block t]; rfl
            go_wp2_with fail
            refine (hA1 _).mono ?_
            rintro e w13 ⟨rfl, hb13⟩
            have hB13 : Below w12.heap.size w12 w13 := by (repeat (first | exact Below.refl _ _ | assumption | refine Below.drew ?_ | refine below_drewN ?_ _ | refine balloc ?_ _ | refine Below.setCell ?_ (by first | (simp; done) | (simp; omega) | omega) _ | refine bchain (by assumption) ?_))
            have k0 := bblock hB13 k0
            have t := bblock hB13 t
            have hw13 := bchain hB13 hw12
            have hp13 : w.heap.size + 1 ≤ w13.heap.size := by have := (Array.getElem?_eq_some_iff.1 k0).1; omega
            clear hz_k0 hz_t
            have hz_k0 : w.heap.size < w13.heap.size := (Array.getElem?_eq_some_iff.1 k0).1
            have hz_t : w11.heap.size < w13.heap.size := (Array.getElem?_eq_some_iff.1 t).1
            clear hB13
            clear k0_0 k0_1 k0_2 k0_3 k0_4 k0_5 t_0 t_1 t_2
            have k0_0 : w13.cell? ⟨w.heap.size, 0, none⟩ = some (.int .i64 0) := by rw [cell_of_block k0]; rfl
            have k0_1 : w13.cell? ⟨w.heap.size, 1, none⟩ = some (.int .i64 lo) := by rw [cell_of_block k0]; rfl
            have k0_2 : w13.cell? ⟨w.heap.size, 2, none⟩ = some (.slice aO nO cO) := by rw [cell_of_block k0]; rfl
            have k0_3 : w13.cell? ⟨w.heap.size, 3, none⟩ = some (.int .i64 16777216) := by rw [cell_of_block k0]; rfl
            have k0_4 : w13.cell? ⟨w.heap.size, 4, none⟩ = some (.int .i64 ly) := by rw [cell_of_block k0]; rfl
            have k0_5 : w13.cell? ⟨w.heap.size, 5, none⟩ = some (.slice aY nY cY) := by rw [cell_of_block k0]; rfl
            have t_0 : w13.cell? ⟨w11.heap.size, 0, none⟩ = some (.int .i64 4) := by rw [cell_of_block t]; rfl
            have t_1 : w13.cell? ⟨w11.heap.size, 1, none⟩ = some (.int .i64 hc) := by rw [cell_of_block t]; rfl
            have t_2 : w13.cell? ⟨w11.heap.size, 2, none⟩ = some (.int .i64 hf) := by rw [cell_of_block t]; rfl
            go_wp2
            go_ret2
            exact ⟨rfl, by (repeat (first | exact Below.refl _ _ | assumption | refine Below.drew ?_ | refine below_drewN ?_ _ | refine balloc ?_ _ | refine Below.setCell ?_ (by first | (simp; done) | (simp; omega) | omega) _ | refine bchain (by assumption) ?_))⟩
          · have hH1 := fun W h => hH W h x
            rw [he, hk4] at hH1
            have hL1 := fun W h => hL W h (x + 2)
            have hA1 := fun W => raddress_any (LD wo wy (x + 2)) (hu (x + 2)) W
            rw [had] at hA1
            obtain ⟨m, hm1, hm2, hm3⟩ := HS1.out hlt
            have hnr : rsv wo wy (nO + nY + 1 - (j + 1)) (adA (LD wo wy (x + 2))) = (r1, r2) := by
              rw [hm2, ← rsv_go he hk4 had, ← hm1]
              exact hrs.out
            have HNR := Lib.hid hnr
            have hnb : 0 ≤ adA (LD wo wy (x + 2)) ∧ adA (LD wo wy (x + 2)) ≤ 1099511627776 := by
              have h5 := (adB_iff.1 had).2
              have h6 := (hu (x + 2)).nonneg
              unfold adA
              rw [had, if_pos rfl]
              omega
            clear he hk4 had hnr hm1 hm2 hrs HS1 HS2
            generalize LD wo wy (x + 2) = xv at *
            generalize LE wo wy (x + 2) = yv at *
            generalize adA xv = av at *
            obtain ⟨hn0, hn1⟩ := hnb
            generalize HC wo wy x = hc at *
            generalize HF wo wy x = hf at *
            have hz_k0 : w.heap.size < wr.heap.size := (Array.getElem?_eq_some_iff.1 k0).1
            have k0_0 : wr.cell? ⟨w.heap.size, 0, none⟩ = some (.int .i64 0) := by rw [cell_of_block k0]; rfl
            have k0_1 : wr.cell? ⟨w.heap.size, 1, none⟩ = some (.int .i64 lo) := by rw [cell_of_block k0]; rfl
            have k0_2 : wr.cell? ⟨w.heap.size, 2, none⟩ = some (.slice aO nO cO) := by rw [cell_of_block k0]; rfl
            have k0_3 : wr.cell? ⟨w.heap.size, 3, none⟩ = some (.int .i64 16777216) := by rw [cell_of_block k0]; rfl
            have k0_4 : wr.cell? ⟨w.heap.size, 4, none⟩ = some (.int .i64 ly) := by rw [cell_of_block k0]; rfl
            have k0_5 : wr.cell? ⟨w.heap.size, 5, none⟩ = some (.slice aY nY cY) := by rw [cell_of_block k0]; rfl
            go_wp2_with fail
            refine (hH1 _ (by (repeat (first | exact Below.refl _ _ | assumption | refine Below.drew ?_ | refine below_drewN ?_ _ | refine balloc ?_ _ | refine Below.setCell ?_ (by first | (simp; done) | (simp; omega) | omega) _ | refine bchain (by assumption) ?_)))).mono ?_
            rintro e w11 ⟨rfl, hb11⟩
            have hB11 : Below wr.heap.size wr w11 := by (repeat (first | exact Below.refl _ _ | assumption | refine Below.drew ?_ | refine below_drewN ?_ _ | refine balloc ?_ _ | refine Below.setCell ?_ (by first | (simp; done) | (simp; omega) | omega) _ | refine bchain (by assumption) ?_))
            have k0 := bblock hB11 k0
            have hw11 := bchain hB11 hw10
            have hp11 : w.heap.size + 1 ≤ w11.heap.size := by have := (Array.getElem?_eq_some_iff.1 k0).1; omega
            clear hz_k0
            have hz_k0 : w.heap.size < w11.heap.size := (Array.getElem?_eq_some_iff.1 k0).1
            clear hB11
            clear k0_0 k0_1 k0_2 k0_3 k0_4 k0_5
            have k0_0 : w11.cell? ⟨w.heap.size, 0, none⟩ = some (.int .i64 0) := by rw [cell_of_block k0]; rfl
            have k0_1 : w11.cell? ⟨w.heap.size, 1, none⟩ = some (.int .i64 lo) := by rw [cell_of_block k0]; rfl
            have k0_2 : w11.cell? ⟨w.heap.size, 2, none⟩ = some (.slice aO nO cO) := by rw [cell_of_block k0]; rfl
            have k0_3 : w11.cell? ⟨w.heap.size, 3, none⟩ = some (.int .i64 16777216) := by rw [cell_of_block k0]; rfl
            have k0_4 : w11.cell? ⟨w.heap.size, 4, none⟩ = some (.int .i64 ly) := by rw [cell_of_block k0]; rfl
            have k0_5 : w11.cell? ⟨w.heap.size, 5, none⟩ = some (.slice aY nY cY) := by rw [cell_of_block k0]; rfl
            go_wp2_with fail
            refine (hL1 _ (by (repeat (first | exact Below.refl _ _ | assumption | refine Below.drew ?_ | refine below_drewN ?_ _ | refine balloc ?_ _ | refine Below.setCell ?_ (by first | (simp; done) | (simp; omega) | omega) _ | refine bchain (by assumption) ?_)))).mono ?_
            rintro e w12 ⟨rfl, hb12⟩
            have hB12 : Below w11.heap.size w11 w12 := by (repeat (first | exact Below.refl _ _ | assumption | refine Below.drew ?_ | refine below_drewN ?_ _ | refine balloc ?_ _ | refine Below.setCell ?_ (by first | (simp; done) | (simp; omega) | omega) _ | refine bchain (by assumption) ?_))
            have k0 := bblock hB12 k0
            have t : w12.heap[w11.heap.size]? = some (.cells #[.int .i64 4, .int .i64 hc, .int .i64 hf] 23 (0, 0)) := bblock hb12 (by repeat (first | exact alloc_at _ (by simp) | refine alloc_lt _ ?_))
            have hw12 := bchain hB12 hw11
            have hp12 : w.heap.size + 1 ≤ w12.heap.size := by have := (Array.getElem?_eq_some_iff.1 k0).1; omega
            clear hz_k0
            have hz_k0 : w.heap.size < w12.heap.size := (Array.getElem?_eq_some_iff.1 k0).1
            have hz_t : w11.heap.size < w12.heap.size := (Array.getElem?_eq_some_iff.1 t).1
            clear hB12
            clear k0_0 k0_1 k0_2 k0_3 k0_4 k0_5
            have k0_0 : w12.cell? ⟨w.heap.size, 0, none⟩ = some (.int .i64 0) := by rw [cell_of_block k0]; rfl
            have k0_1 : w12.cell? ⟨w.heap.size, 1, none⟩ = some (.int .i64 lo) := by rw [cell_of_block k0]; rfl
            have k0_2 : w12.cell? ⟨w.heap.size, 2, none⟩ = some (.slice aO nO cO) := by rw [cell_of_block k0]; rfl
            have k0_3 : w12.cell? ⟨w.heap.size, 3, none⟩ = some (.int .i64 16777216) := by rw [cell_of_block k0]; rfl
            have k0_4 : w12.cell? ⟨w.heap.size, 4, none⟩ = some (.int .i64 ly) := by rw [cell_of_block k0]; rfl
            have k0_5 : w12.cell? ⟨w.heap.size, 5, none⟩ = some (.slice aY nY cY) := by rw [cell_of_block k0]; rfl
            have t_0 : w12.cell? ⟨w11.heap.size, 0, none⟩ = some (.int .i64 4) := by rw [cell_of_block t]; rfl
            have t_1 : w12.cell? ⟨w11.heap.size, 1, none⟩ = some (.int .i64 hc) := by rw [cell_of_block t]; rfl
            have t_2 : w12.cell? ⟨w11.heap.size, 2, none⟩ = some (.int .i64 hf) := by rw [cell_of_block t]; rfl
            go_wp2_with fail
            refine (hA1 _).mono ?_
            rintro e w13 ⟨rfl, hb13⟩
            have hB13 : Below w12.heap.size w12 w13 := by (repeat (first | exact Below.refl _ _ | assumption | refine Below.drew ?_ | refine below_drewN ?_ _ | refine balloc ?_ _ | refine Below.setCell ?_ (by first | (simp; done) | (simp; omega) | omega) _ | refine bchain (by assumption) ?_))
            have k0 := bblock hB13 k0
            have t := bblock hB13 t
            have hw13 := bchain hB13 hw12
            have hp13 : w.heap.size + 1 ≤ w13.heap.size := by have := (Array.getElem?_eq_some_iff.1 k0).1; omega
            clear hz_k0 hz_t
            have hz_k0 : w.heap.size < w13.heap.size := (Array.getElem?_eq_some_iff.1 k0).1
            have hz_t : w11.heap.size < w13.heap.size := (Array.getElem?_eq_some_iff.1 t).1
            clear hB13
            clear k0_0 k0_1 k0_2 k0_3 k0_4 k0_5 t_0 t_1 t_2
            have k0_0 : w13.cell? ⟨w.heap.size, 0, none⟩ = some (.int .i64 0) := by rw [cell_of_block k0]; rfl
            have k0_1 : w13.cell? ⟨w.heap.size, 1, none⟩ = some (.int .i64 lo) := by rw [cell_of_block k0]; rfl
            have k0_2 : w13.cell? ⟨w.heap.size, 2, none⟩ = some (.slice aO nO cO) := by rw [cell_of_block k0]; rfl
            have k0_3 : w13.cell? ⟨w.heap.size, 3, none⟩ = some (.int .i64 16777216) := by rw [cell_of_block k0]; rfl
            have k0_4 : w13.cell? ⟨w.heap.size, 4, none⟩ = some (.int .i64 ly) := by rw [cell_of_block k0]; rfl
            have k0_5 : w13.cell? ⟨w.heap.size, 5, none⟩ = some (.slice aY nY cY) := by rw [cell_of_block k0]; rfl
            have t_0 : w13.cell? ⟨w11.heap.size, 0, none⟩ = some (.int .i64 4) := by rw [cell_of_block t]; rfl
            have t_1 : w13.cell? ⟨w11.heap.size, 1, none⟩ = some (.int .i64 hc) := by rw [cell_of_block t]; rfl
            have t_2 : w13.cell? ⟨w11.heap.size, 2, none⟩ = some (.int .i64 hf) := by rw [cell_of_block t]; rfl
            go_wp2
            go_roundw
            case rel => exact ⟨j + 1, sx + 1, av, hm3, HS3, (by go_num), rfl, HNR, ⟨hn0, hn1⟩, k0, hw13⟩
            case measure => simp [intOf]; omega
        · have hH1 := fun W h => hH W h x
          rw [he] at hH1
          obtain ⟨m, hm, _, _⟩ := HS1.out hlt
          have e := hrs.out.symm.trans ((congrArg (fun k => rsv wo wy k x) hm).trans (rsv_end he hk4 m))
          obtain ⟨rfl, rfl⟩ := Prod.mk.inj e
          have hb1 : (HK wo wy r1 != 4) = true := by simpa using hk4
          clear hrs e hm hH hL hu hrg he hk4 HS1 HS2 HS3
          generalize HK wo wy r1 = hk at *
          generalize HC wo wy r1 = hc at *
          generalize HF wo wy r1 = hf at *
          have hz_k0 : w.heap.size < wr.heap.size := (Array.getElem?_eq_some_iff.1 k0).1
          have k0_0 : wr.cell? ⟨w.heap.size, 0, none⟩ = some (.int .i64 0) := by rw [cell_of_block k0]; rfl
          have k0_1 : wr.cell? ⟨w.heap.size, 1, none⟩ = some (.int .i64 lo) := by rw [cell_of_block k0]; rfl
          have k0_2 : wr.cell? ⟨w.heap.size, 2, none⟩ = some (.slice aO nO cO) := by rw [cell_of_block k0]; rfl
          have k0_3 : wr.cell? ⟨w.heap.size, 3, none⟩ = some (.int .i64 16777216) := by rw [cell_of_block k0]; rfl
          have k0_4 : wr.cell? ⟨w.heap.size, 4, none⟩ = some (.int .i64 ly) := by rw [cell_of_block k0]; rfl
          have k0_5 : wr.cell? ⟨w.heap.size, 5, none⟩ = some (.slice aY nY cY) := by rw [cell_of_block k0]; rfl
          go_wp2_with fail
          refine (hH1 _ (by (repeat (first | exact Below.refl _ _ | assumption | refine Below.drew ?_ | refine below_drewN ?_ _ | refine balloc ?_ _ | refine Below.setCell ?_ (by first | (simp; done) | (simp; omega) | omega) _ | refine bchain (by assumption) ?_)))).mono ?_
          rintro e w11 ⟨rfl, hb11⟩
          have hB11 : Below wr.heap.size wr w11 := by (repeat (first | exact Below.refl _ _ | assumption | refine Below.drew ?_ | refine below_drewN ?_ _ | refine balloc ?_ _ | refine Below.setCell ?_ (by first | (simp; done) | (simp; omega) | omega) _ | refine bchain (by assumption) ?_))
          have k0 := bblock hB11 k0
          have hw11 := bchain hB11 hw10
          have hp11 : w.heap.size + 1 ≤ w11.heap.size := by have := (Array.getElem?_eq_some_iff.1 k0).1; omega
          clear hz_k0
          have hz_k0 : w.heap.size < w11.heap.size := (Array.getElem?_eq_some_iff.1 k0).1
          clear hB11
          clear k0_0 k0_1 k0_2 k0_3 k0_4 k0_5
          have k0_0 : w11.cell? ⟨w.heap.size, 0, none⟩ = some (.int .i64 0) := by rw [cell_of_block k0]; rfl
          have k0_1 : w11.cell? ⟨w.heap.size, 1, none⟩ = some (.int .i64 lo) := by rw [cell_of_block k0]; rfl
          have k0_2 : w11.cell? ⟨w.heap.size, 2, none⟩ = some (.slice aO nO cO) := by rw [cell_of_block k0]; rfl
          have k0_3 : w11.cell? ⟨w.heap.size, 3, none⟩ = some (.int .i64 16777216) := by rw [cell_of_block k0]; rfl
          have k0_4 : w11.cell? ⟨w.heap.size, 4, none⟩ = some (.int .i64 ly) := by rw [cell_of_block k0]; rfl
          have k0_5 : w11.cell? ⟨w.heap.size, 5, none⟩ = some (.slice aY nY cY) := by rw [cell_of_block k0]; rfl
          go_wp2
          go_ret2
          exact ⟨rfl, by (repeat (first | exact Below.refl _ _ | assumption | refine Below.drew ?_ | refine below_drewN ?_ _ | refine balloc ?_ _ | refine Below.setCell ?_ (by first | (simp; done) | (simp; omega) | omega) _ | refine bchain (by assumption) ?_))⟩
      · have hH1 := fun W h => hH W h x
        have e := hrs.out.symm.trans (rsv_err he _)
        obtain ⟨rfl, rfl⟩ := Prod.mk.inj e
        clear hrs e
        have hb1 : (HE wo wy x != 0) = true := by simpa using he
        clear hH hL hu hrg HS1 HS2 HS3
        generalize HK wo wy x = hk at *
        generalize HC wo wy x = hc at *
        generalize HF wo wy x = hf at *
        generalize HE wo wy x = er at *
        clear he
        have hz_k0 : w.heap.size < wr.heap.size := (Array.getElem?_eq_some_iff.1 k0).1
        have k0_0 : wr.cell? ⟨w.heap.size, 0, none⟩ = some (.int .i64 0) := by rw [cell_of_block k0]; rfl
        have k0_1 : wr.cell? ⟨w.heap.size, 1, none⟩ = some (.int .i64 lo) := by rw [cell_of_block k0]; rfl
        have k0_2 : wr.cell? ⟨w.heap.size, 2, none⟩ = some (.slice aO nO cO) := by rw [cell_of_block k0]; rfl
        have k0_3 : wr.cell? ⟨w.heap.size, 3, none⟩ = some (.int .i64 16777216) := by rw [cell_of_block k0]; rfl
        have k0_4 : wr.cell? ⟨w.heap.size, 4, none⟩ = some (.int .i64 ly) := by rw [cell_of_block k0]; rfl
        have k0_5 : wr.cell? ⟨w.heap.size, 5, none⟩ = some (.slice aY nY cY) := by rw [cell_of_block k0]; rfl
        go_wp2_with fail
        refine (hH1 _ (by (repeat (first | exact Below.refl _ _ | assumption | refine Below.drew ?_ | refine below_drewN ?_ _ | refine balloc ?_ _ | refine Below.setCell ?_ (by first | (simp; done) | (simp; omega) | omega) _ | refine bchain (by assumption) ?_)))).mono ?_
        rintro e w11 ⟨rfl, hb11⟩
        have hB11 : Below wr.heap.size wr w11 := by (repeat (first | exact Below.refl _ _ | assumption | refine Below.drew ?_ | refine below_drewN ?_ _ | refine balloc ?_ _ | refine Below.setCell ?_ (by first | (simp; done) | (simp; omega) | omega) _ | refine bchain (by assumption) ?_))
        have k0 := bblock hB11 k0
        have hw11 := bchain hB11 hw10
        have hp11 : w.heap.size + 1 ≤ w11.heap.size := by have := (Array.getElem?_eq_some_iff.1 k0).1; omega
        clear hz_k0
        have hz_k0 : w.heap.size < w11.heap.size := (Array.getElem?_eq_some_iff.1 k0).1
        clear hB11
        clear k0_0 k0_1 k0_2 k0_3 k0_4 k0_5
        have k0_0 : w11.cell? ⟨w.heap.size, 0, none⟩ = some (.int .i64 0) := by rw [cell_of_block k0]; rfl
        have k0_1 : w11.cell? ⟨w.heap.size, 1, none⟩ = some (.int .i64 lo) := by rw [cell_of_block k0]; rfl
        have k0_2 : w11.cell? ⟨w.heap.size, 2, none⟩ = some (.slice aO nO cO) := by rw [cell_of_block k0]; rfl
        have k0_3 : w11.cell? ⟨w.heap.size, 3, none⟩ = some (.int .i64 16777216) := by rw [cell_of_block k0]; rfl
        have k0_4 : w11.cell? ⟨w.heap.size, 4, none⟩ = some (.int .i64 ly) := by rw [cell_of_block k0]; rfl
        have k0_5 : w11.cell? ⟨w.heap.size, 5, none⟩ = some (.slice aY nY cY) := by rw [cell_of_block k0]; rfl
        go_wp2
        go_ret2
        exact ⟨rfl, by (repeat (first | exact Below.refl _ _ | assumption | refine Below.drew ?_ | refine below_drewN ?_ _ | refine balloc ?_ _ | refine Below.setCell ?_ (by first | (simp; done) | (simp; omega) | omega) _ | refine bchain (by assumption) ?_))⟩
    · have e0 := HS2.out hlt
      have e := hrs.out.symm.trans ((congrArg (fun k => rsv wo wy k x) e0).trans rfl)
      obtain ⟨rfl, rfl⟩ := Prod.mk.inj e
      clear hrs e e0 hH hL hu hrg HS1 HS2 HS3
      have hd1 : decide (sx ≤ (nO : Int) + (nY : Int)) = false := decide_eq_false hlt
      have hz_k0 : w.heap.size < wr.heap.size := (Array.getElem?_eq_some_iff.1 k0).1
      have k0_0 : wr.cell? ⟨w.heap.size, 0, none⟩ = some (.int .i64 0) := by rw [cell_of_block k0]; rfl
      have k0_1 : wr.cell? ⟨w.heap.size, 1, none⟩ = some (.int .i64 lo) := by rw [cell_of_block k0]; rfl
      have k0_2 : wr.cell? ⟨w.heap.size, 2, none⟩ = some (.slice aO nO cO) := by rw [cell_of_block k0]; rfl
      have k0_3 : wr.cell? ⟨w.heap.size, 3, none⟩ = some (.int .i64 16777216) := by rw [cell_of_block k0]; rfl
      have k0_4 : wr.cell? ⟨w.heap.size, 4, none⟩ = some (.int .i64 ly) := by rw [cell_of_block k0]; rfl
      have k0_5 : wr.cell? ⟨w.heap.size, 5, none⟩ = some (.slice aY nY cY) := by rw [cell_of_block k0]; rfl
      go_wp2
      go_ret2
      exact ⟨rfl, by (repeat (first | exact Below.refl _ _ | assumption | refine Below.drew ?_ | refine below_drewN ?_ _ | refine balloc ?_ _ | refine Below.setCell ?_ (by first | (simp; done) | (simp; omega) | omega) _ | refine bchain (by assumption) ?_))⟩
theorem rresolve_any {w : World} {aO : Option Addr} {nO cO : Nat} {aY : Option Addr} {nY cY : Nat} {lo ly : Int} {wo wy : List Int} {gO gY : Option Nat} (hm : RMem w aO nO cO aY nY cY lo ly wo wy gO gY) (a : Int) : Calls Try.prog 36 #[.agg #[.int .i64 0, .int .i64 lo, .slice aO nO cO, .int .i64 16777216, .int .i64 ly, .slice aY nY cY], .int .i64 a] w fun e w' => e = .returned (.tuple #[.int .i64 (RA wo wy a), .int .i64 (RE wo wy a)]) ∧ Below w.heap.size w w' := by
  unfold RA RE
  by_cases hl : LE wo wy a = 0
  · rw [if_pos hl, if_pos hl, hm.lO, hm.lY]
    exact rresolve_in hm a hl _ _ rfl
  · rw [if_neg hl, if_neg hl]
    exact rresolve_out hm a hl
end Go.Proofs.Ytcmhgjkijegpnaa
