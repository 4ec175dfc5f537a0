/-
  refmeshref07.Resolve.
-/
import Derived.Test.YtcmhgjkijegpnaaGG
namespace Go.Proofs.Ytcmhgjkijegpnaa
open Go.RowKit
set_option linter.unusedSimpArgs false
set_option linter.unusedVariables false

theorem RMem.le_bd {w : World} {aO : Option Addr} {nO cO : Nat} {aY : Option Addr} {nY cY : Nat} {lo ly : Int} {wo wy : List Int} {gO gY : Option Nat} (hm : RMem w aO nO cO aY nY cY lo ly wo wy gO gY) {a : Int} (h : LE wo wy a = 0) : 0 ≤ a ∧ a ≤ 1099511627776 := by
  have hk1 := (hm.partOk a).b0
  have hk2 := (hm.partOk a).top
  have hk3 := (hm.partOk a).lm1
  unfold LE ioE at h
  by_cases g : inB (bsA a) (wsA wo wy a).length a = true
  · obtain ⟨h2, h3⟩ := inB_iff.1 g
    omega
  · rw [if_neg g] at h; cases h
theorem RMem.he_rng {w : World} {aO : Option Addr} {nO cO : Nat} {aY : Option Addr} {nY cY : Nat} {lo ly : Int} {wo wy : List Int} {gO gY : Option Nat} (hm : RMem w aO nO cO aY nY cY lo ly wo wy gO gY) {a : Int} (h : HE wo wy a = 0) : 0 ≤ a ∧ a ≤ 1099511627776 := by
  have hk1 := (hm.partOk a).b0
  have hk2 := (hm.partOk a).top
  have hk3 := (hm.partOk a).lm1
  obtain ⟨h2, h3⟩ := inB_iff.1 (hd_bd h).1
  omega
set_option maxRecDepth 100000 in
set_option maxHeartbeats 1000000 in
theorem rresolve_out {w : World} {aO : Option Addr} {nO cO : Nat} {aY : Option Addr} {nY cY : Nat} {lo ly : Int} {wo wy : List Int} {gO gY : Option Nat} (hm : RMem w aO nO cO aY nY cY lo ly wo wy gO gY) (a0 : Int) (hl : LE wo wy a0 ≠ 0) :
    Calls Try.prog 36 #[.agg #[.int .i64 0, .int .i64 lo, .slice aO nO cO, .int .i64 16777216, .int .i64 ly, .slice aY nY cY], .int .i64 a0] w fun e w' => e = .returned (.tuple #[.int .i64 0, .int .i64 (LE wo wy a0)]) ∧ Below w.heap.size w w' := by
  have hL0 := fun W (h : Below w.heap.size w W) => rmload_any (hm.below h) a0
  generalize LD wo wy a0 = x at *
  generalize LE wo wy a0 = er at *
  have hb1 : (er != 0) = true := by simpa using hl
  clear hl hm
  have hw0 : Below w.heap.size w w := Below.refl _ _
  go_enter Try.func36, Try.ntmps36
  go_wp2_with fail
  refine (hL0 _ (by (repeat (first | exact Below.refl _ _ | assumption | refine Below.drew ?_ | refine below_drewN ?_ _ | refine balloc ?_ _ | refine Below.setCell ?_ (by first | (simp; done) | (simp; omega) | omega) _ | refine bchain (by assumption) ?_)))).mono ?_
  rintro e w1 ⟨rfl, hb1⟩
  have hB1 : Below w.heap.size w w1 := by (repeat (first | exact Below.refl _ _ | assumption | refine Below.drew ?_ | refine below_drewN ?_ _ | refine balloc ?_ _ | refine Below.setCell ?_ (by first | (simp; done) | (simp; omega) | omega) _ | refine bchain (by assumption) ?_))
  have k0 : w1.heap[w.heap.size]? = some (.cells #[.int .i64 0, .int .i64 lo, .slice aO nO cO, .int .i64 16777216, .int .i64 ly, .slice aY nY cY] 35 (0, 0)) := bblock hb1 (by repeat (first | exact alloc_at _ (by simp) | refine alloc_lt _ ?_))
  have hw1 := bchain hB1 hw0
  have hp1 : w.heap.size + 1 ≤ w1.heap.size := by have := (Array.getElem?_eq_some_iff.1 k0).1; omega
  have hz_k0 : w.heap.size < w1.heap.size := (Array.getElem?_eq_some_iff.1 k0).1
  clear hB1
  have k0_0 : w1.cell? ⟨w.heap.size, 0, none⟩ = some (.int .i64 0) := by rw [cell_of_block k0]; rfl
  have k0_1 : w1.cell? ⟨w.heap.size, 1, none⟩ = some (.int .i64 lo) := by rw [cell_of_block k0]; rfl
  have k0_2 : w1.cell? ⟨w.heap.size, 2, none⟩ = some (.slice aO nO cO) := by rw [cell_of_block k0]; rfl
  have k0_3 : w1.cell? ⟨w.heap.size, 3, none⟩ = some (.int .i64 16777216) := by rw [cell_of_block k0]; rfl
  have k0_4 : w1.cell? ⟨w.heap.size, 4, none⟩ = some (.int .i64 ly) := by rw [cell_of_block k0]; rfl
  have k0_5 : w1.cell? ⟨w.heap.size, 5, none⟩ = some (.slice aY nY cY) := by rw [cell_of_block k0]; rfl
  go_wp2
  go_ret2
  exact ⟨rfl, by (repeat (first | exact Below.refl _ _ | assumption | refine Below.drew ?_ | refine below_drewN ?_ _ | refine balloc ?_ _ | refine Below.setCell ?_ (by first | (simp; done) | (simp; omega) | omega) _ | refine bchain (by assumption) ?_))⟩
set_option maxRecDepth 100000 in
set_option maxHeartbeats 4000000 in
theorem rresolve_in {w : World} {aO : Option Addr} {nO cO : Nat} {aY : Option Addr} {nY cY : Nat} {lo ly : Int} {wo wy : List Int} {gO gY : Option Nat} (hm : RMem w aO nO cO aY nY cY lo ly wo wy gO gY) (a0 : Int) (hl : LE wo wy a0 = 0) (r1 r2 : Int) (hr : rsv wo wy (nO + nY + 1) a0 = (r1, r2)) :
    Calls Try.prog 36 #[.agg #[.int .i64 0, .int .i64 lo, .slice aO nO cO, .int .i64 16777216, .int .i64 ly, .slice aY nY cY], .int .i64 a0] w fun e w' => e = .returned (.tuple #[.int .i64 r1, .int .i64 r2]) ∧ Below w.heap.size w w' := by
  have hH := fun W (h : Below w.heap.size w W) (c : Int) => rmhdr_any (hm.below h) c
  have hL := fun W (h : Below w.heap.size w W) (c : Int) => rmload_any (hm.below h) c
  have hu := fun c => hm.ldU c
  have hrg := fun (c : Int) (h : HE wo wy c = 0) => hm.he_rng h
  have hab := hm.le_bd hl
  have hLn : nO + nY ≤ 4398046511104 := by have := hm.okO.top; have := hm.okO.lm1; have := hm.okY.top; have := hm.okY.lm1; have := hm.lO; have := hm.lY; omega
  have hL0 := fun W h => hL W h a0
  rw [hl] at hL0
  have HR := Lib.hid hr
  clear hm hr hl
  generalize LD wo wy a0 = x0 at hL0
  have hw0 : Below w.heap.size w w := Below.refl _ _
  go_enter Try.func36, Try.ntmps36
  go_wp2_with fail
  refine (hL0 _ (by (repeat (first | exact Below.refl _ _ | assumption | refine Below.drew ?_ | refine below_drewN ?_ _ | refine balloc ?_ _ | refine Below.setCell ?_ (by first | (simp; done) | (simp; omega) | omega) _ | refine bchain (by assumption) ?_)))).mono ?_
  rintro e w1 ⟨rfl, hb1⟩
  have hB1 : Below w.heap.size w w1 := by (repeat (first | exact Below.refl _ _ | assumption | refine Below.drew ?_ | refine below_drewN ?_ _ | refine balloc ?_ _ | refine Below.setCell ?_ (by first | (simp; done) | (simp; omega) | omega) _ | refine bchain (by assumption) ?_))
  have k0 : w1.heap[w.heap.size]? = some (.cells #[.int .i64 0, .int .i64 lo, .slice aO nO cO, .int .i64 16777216, .int .i64 ly, .slice aY nY cY] 35 (0, 0)) := bblock hb1 (by repeat (first | exact alloc_at _ (by simp) | refine alloc_lt _ ?_))
  have hw1 := bchain hB1 hw0
  have hp1 : w.heap.size + 1 ≤ w1.heap.size := by have := (Array.getElem?_eq_some_iff.1 k0).1; omega
  have hz_k0 : w.heap.size < w1.heap.size := (Array.getElem?_eq_some_iff.1 k0).1
  clear hB1
  have k0_0 : w1.cell? ⟨w.heap.size, 0, none⟩ = some (.int .i64 0) := by rw [cell_of_block k0]; rfl
  have k0_1 : w1.cell? ⟨w.heap.size, 1, none⟩ = some (.int .i64 lo) := by rw [cell_of_block k0]; rfl
  have k0_2 : w1.cell? ⟨w.heap.size, 2, none⟩ = some (.slice aO nO cO) := by rw [cell_of_block k0]; rfl
  have k0_3 : w1.cell? ⟨w.heap.size, 3, none⟩ = some (.int .i64 16777216) := by rw [cell_of_block k0]; rfl
  have k0_4 : w1.cell? ⟨w.heap.size, 4, none⟩ = some (.int .i64 ly) := by rw [cell_of_block k0]; rfl
  have k0_5 : w1.cell? ⟨w.heap.size, 5, none⟩ = some (.slice aY nY cY) := by rw [cell_of_block k0]; rfl
  go_wp2_with fail
  have hw1s : w.heap.size < w1.heap.size := hz_k0
  go_loopw [1, 8] (fun p s wr => ∃ (j : Nat) (sx x : Int), j ≤ nO + nY + 1 ∧ Hid (sx = j) ∧ s = .int .i64 sx ∧ p = .int .i64 x ∧ Hid (rsv wo wy (nO + nY + 1 - j) x = (r1, r2)) ∧ (0 ≤ x ∧ x ≤ 1099511627776) ∧ wr.heap[w.heap.size]? = some (.cells #[.int .i64 0, .int .i64 lo, .slice aO nO cO, .int .i64 16777216, .int .i64 ly, .slice aY nY cY] 35 (0, 0)) ∧ Below w.heap.size w wr) (fun _ s _ => nO + nY + 1 - (intOf s).toNat)
  case atStart => exact ⟨0, 0, a0, Nat.zero_le _, Lib.hid rfl, rfl, rfl, HR, hab, k0, hw1⟩
  case round =>
    clear k0 k0_0 k0_1 k0_2 k0_3 k0_4 k0_5 hz_k0 HR hL0 hab
    obtain ⟨j, sx, x, hj, hsx, rfl, rfl, hrs, ⟨hx0, hx1⟩, k0, hw10⟩ := hrel
    have hse := hsx.out
    have hs0 : 0 ≤ sx := by omega
    have hs1 : sx ≤ 4398046511105 := by omega
    have HS1 := Lib.hid (show sx ≤ (nO : Int) + (nY : Int) → ∃ m, nO + nY + 1 - j = m + 1 ∧ nO + nY + 1 - (j + 1) = m ∧ j + 1 ≤ nO + nY + 1 from fun h => ⟨nO + nY - j, by omega, by omega, by omega⟩)
    have HS2 := Lib.hid (show ¬ sx ≤ (nO : Int) + (nY : Int) → nO + nY + 1 - j = 0 from fun h => by omega)
    have HS3 := Lib.hid (show sx + 1 = ((j + 1 : Nat) : Int) by omega)
    clear hse hsx
    by_cases hlt : sx ≤ (nO : Int) + (nY : Int)
    · have hd1 : decide (sx ≤ (nO : Int) + (nY : Int)) = true := decide_eq_true hlt
      by_cases he : HE wo wy x = 0
      · by_cases hk4 : HK wo wy x = 4
        · cases had : adB (LD wo wy (x + 2))
          · have hH1 := fun W h => hH W h x
            rw [he, hk4] at hH1
            have hL1 := fun W h => hL W h (x + 2)
            have hA1 := fun W => raddress_any (LD wo wy (x + 2)) (hu (x + 2)) W
            rw [had] at hA1
            have e := hrs.out.symm.trans (rsv_bad he hk4 had _)
            obtain ⟨rfl, rfl⟩ := Prod.mk.inj e
            clear hrs e
            clear hH hL hu hrg he hk4 had HS1 HS2 HS3
            generalize LD wo wy (x + 2) = xv at *
            generalize LE wo wy (x + 2) = yv at *
            generalize adA xv = av at *
            generalize HC wo wy x = hc at *
            generalize HF wo wy x = hf at *
            have hz_k0 : w.heap.size < wr.heap.size := (Array.getElem?_eq_some_iff.1 k0).1
            have k0_0 : wr.cell? ⟨w.heap.size, 0, none⟩ = some (.int .i64 0) := by rw [cell_of_block k0]; rfl
            have k0_1 : wr.cell? ⟨w.heap.size, 1, none⟩ = some (.int .i64 lo) := by rw [cell_of_block k0]; rfl
            have k0_2 : wr.cell? ⟨w.heap.size, 2, none⟩ = some (.slice aO nO cO) := by rw [cell_of_block k0]; rfl
            have k0_3 : wr.cell? ⟨w.heap.size, 3, none⟩ = some (.int .i64 16777216) := by rw [cell_of_block k0]; rfl
            have k0_4 : wr.cell? ⟨w.heap.size, 4, none⟩ = some (.int .i64 ly) := by rw [cell_of_block k0]; rfl
            have k0_5 : wr.cell? ⟨w.heap.size, 5, none⟩ = some (.slice aY nY cY) := by rw [cell_of_block k0]; rfl
            go_wp2_with fail
            refine (hH1 _ (by (repeat (first | exact Below.refl _ _ | assumption | refine Below.drew ?_ | refine below_drewN ?_ _ | refine balloc ?_ _ | refine Below.setCell ?_ (by first | (simp; done) | (simp; omega) | omega) _ | refine bchain (by assumption) ?_)))).mono ?_
            rintro e w11 ⟨rfl, hb11⟩
            have hB11 : Below wr.heap.size wr w11 := by (repeat (first | exact Below.refl _ _ | assumption | refine Below.drew ?_ | refine below_drewN ?_ _ | refine balloc ?_ _ | refine Below.setCell ?_ (by first | (simp; done) | (simp; omega) | omega) _ | refine bchain (by assumption) ?_))
            have k0 := bblock hB11 k0
            have hw11 := bchain hB11 hw10
            have hp11 : w.heap.size + 1 ≤ w11.heap.size := by have := (Array.getElem?_eq_some_iff.1 k0).1; omega
            clear hz_k0
            have hz_k0 : w.heap.size < w11.heap.size := (Array.getElem?_eq_some_iff.1 k0).1
            clear hB11
            clear k0_0 k0_1 k0_2 k0_3 k0_4 k0_5
            have k0_0 : w11.cell? ⟨w.heap.size, 0, none⟩ = some (.int .i64 0) := by rw [cell_of_block k0]; rfl
            have k0_1 : w11.cell? ⟨w.heap.size, 1, none⟩ = some (.int .i64 lo) := by rw [cell_of_block k0]; rfl
            have k0_2 : w11.cell? ⟨w.heap.size, 2, none⟩ = some (.slice aO nO cO) := by rw [cell_of_block k0]; rfl
            have k0_3 : w11.cell? ⟨w.heap.size, 3, none⟩ = some (.int .i64 16777216) := by rw [cell_of_block k0]; rfl
            have k0_4 : w11.cell? ⟨w.heap.size, 4, none⟩ = some (.int .i64 ly) := by rw [cell_of_block k0]; rfl
            have k0_5 : w11.cell? ⟨w.heap.size, 5, none⟩ = some (.slice aY nY cY) := by rw [cell_of_block k0]; rfl
            go_wp2_with fail
            refine (hL1 _ (by (repeat (first | exact Below.refl _ _ | assumption | refine Below.drew ?_ | refine below_drewN ?_ _ | refine balloc ?_ _ | refine Below.setCell ?_ (by first | (simp; done) | (simp; omega) | omega) _ | refine bchain (by assumption) ?_)))).mono ?_
            rintro e w12 ⟨rfl, hb12⟩
            have hB12 : Below w11.heap.size w11 w12 := by (repeat (first | exact Below.refl _ _ | assumption | refine Below.drew ?_ | refine below_drewN ?_ _ | refine balloc ?_ _ | refine Below.setCell ?_ (by first | (simp; done) | (simp; omega) | omega) _ | refine bchain (by assumption) ?_))
            have k0 := bblock hB12 k0
            have t : w12.heap[w11.heap.size]? = some (.cells #[.int .i64 4, .int .i64 hc, .int .i64 hf] 23 (0, 0)) := bblock hb12 (by repeat (first | exact alloc_at _ (by simp) | refine alloc_lt _ ?_))
            have hw12 := bchain hB12 hw11
            have hp12 : w.heap.size + 1 ≤ w12.heap.size := by have := (Array.getElem?_eq_some_iff.1 k0).1; omega
            clear hz_k0
            have hz_k0 : w.heap.size < w12.heap.size := (Array.getElem?_eq_some_iff.1 k0).1
            have hz_t : w11.heap.size < w12.heap.size := (Array.getElem?_eq_some_iff.1 t).1
            clear hB12
            clear k0_0 k0_1 k0_2 k0_3 k0_4 k0_5
            have k0_0 : w12.cell? ⟨w.heap.size, 0, none⟩ = some (.int .i64 0) := by rw [cell_of_block k0]; rfl
            have k0_1 : w12.cell? ⟨w.heap.size, 1, none⟩ = some (.int .i64 lo) := by rw [cell_of_block k0]; rfl
            have k0_2 : w12.cell? ⟨w.heap.size, 2, none⟩ = some (.slice aO nO cO) := by rw [cell_of_block k0]; rfl
            have k0_3 : w12.cell? ⟨w.heap.size, 3, none⟩ = some (.int .i64 16777216) := by rw [cell_of_block k0]; rfl
            have k0_4 : w12.cell? ⟨w.heap.size, 4, none⟩ = some (.int .i64 ly) := by rw [cell_of_block k0]; rfl
            have k0_5 : w12.cell? ⟨w.heap.size, 5, none⟩ = some (.slice aY nY cY) := by rw [cell_of_block k0]; rfl
            have t_0 : w12.cell? ⟨w11.heap.size, 0, none⟩ = some (.int .i64 4) := by rw [cell_of_block t]; rfl
            have t_1 : w12.cell? ⟨w11.heap.size, 1, none⟩ = some (.int .i64 hc) := by rw [cell_of_block t]; rfl
            have t_2 : w12.cell? ⟨w11.heap.size, 2, none⟩ = some (.int .i64 hf) := by rw [cell_of_block t]; rfl
            go_wp2_with fail
            refine (hA1 _).mono ?_
            rintro e w13 ⟨rfl, hb13⟩
            have hB13 : Below w12.heap.size w12 w13 := by (repeat (first | exact Below.refl _ _ | assumption | refine Below.drew ?_ | refine below_drewN ?_ _ | refine balloc ?_ _ | refine Below.setCell ?_ (by first | (simp; done) | (simp; omega) | omega) _ | refine bchain (by assumption) ?_))
            have k0 := bblock hB13 k0
            have t := bblock hB13 t
            have hw13 := bchain hB13 hw12
            have hp13 : w.heap.size + 1 ≤ w13.heap.size := by have := (Array.getElem?_eq_some_iff.1 k0).1; omega
            clear hz_k0 hz_t
            have hz_k0 : w.heap.size < w13.heap.size := (Array.getElem?_eq_some_iff.1 k0).1
            have hz_t : w11.heap.size < w13.heap.size := (Array.getElem?_eq_some_iff.1 t).1
            clear hB13
            clear k0_0 k0_1 k0_2 k0_3 k0_4 k0_5 t_0 t_1 t_2
            have k0_0 : w13.cell? ⟨w.heap.size, 0, none⟩ = some (.int .i64 0) := by rw [cell_of_block k0]; rfl
            have k0_1 : w13.cell? ⟨w.heap.size, 1, none⟩ = some (.int .i64 lo) := by rw [cell_of_block k0]; rfl
            have k0_2 : w13.cell? ⟨w.heap.size, 2, none⟩ = some (.slice aO nO cO) := by rw [cell_of_block k0]; rfl
            have k0_3 : w13.cell? ⟨w.heap.size, 3, none⟩ = some (.int .i64 16777216) := by rw [cell_of_block k0]; rfl
            have k0_4 : w13.cell? ⟨w.heap.size, 4, none⟩ = some (.int .i64 ly) := by rw [cell_of_block k0]; rfl
            have k0_5 : w13.cell? ⟨w.heap.size, 5, none⟩ = some (.slice aY nY cY) := by rw [cell_of_block k0]; rfl
            have t_0 : w13.cell? ⟨w11.heap.size, 0, none⟩ = some (.int .i64 4) := by rw [cell_of_block t]; rfl
            have t_1 : w13.cell? ⟨w11.heap.size, 1, none⟩ = some (.int .i64 hc) := by rw [cell_of_block t]; rfl
            have t_2 : w13.cell? ⟨w11.heap.size, 2, none⟩ = some (.int .i64 hf) := by rw [cell_of_block t]; rfl
            go_wp2
            go_ret2
            exact ⟨rfl, by (repeat (first | exact Below.refl _ _ | assumption | refine Below.drew ?_ | refine below_drewN ?_ _ | refine balloc ?_ _ | refine Below.setCell ?_ (by first | (simp; done) | (simp; omega) | omega) _ | refine bchain (by assumption) ?_))⟩
          · have hH1 := fun W h => hH W h x
            rw [he, hk4] at hH1
            have hL1 := fun W h => hL W h (x + 2)
            have hA1 := fun W => raddress_any (LD wo wy (x + 2)) (hu (x + 2)) W
            rw [had] at hA1
            obtain ⟨m, hm1, hm2, hm3⟩ := HS1.out hlt
            have hnr : rsv wo wy (nO + nY + 1 - (j + 1)) (adA (LD wo wy (x + 2))) = (r1, r2) := by
              rw [hm2, ← rsv_go he hk4 had, ← hm1]
              exact hrs.out
            have HNR := Lib.hid hnr
            have hnb : 0 ≤ adA (LD wo wy (x + 2)) ∧ adA (LD wo wy (x + 2)) ≤ 1099511627776 := by
              have h5 := (adB_iff.1 had).2
              have h6 := (hu (x + 2)).nonneg
              unfold adA
              rw [had, if_pos rfl]
              omega
            clear he hk4 had hnr hm1 hm2 hrs HS1 HS2
            generalize LD wo wy (x + 2) = xv at *
            generalize LE wo wy (x + 2) = yv at *
            generalize adA xv = av at *
            obtain ⟨hn0, hn1⟩ := hnb
            generalize HC wo wy x = hc at *
            generalize HF wo wy x = hf at *
            have hz_k0 : w.heap.size < wr.heap.size := (Array.getElem?_eq_some_iff.1 k0).1
            have k0_0 : wr.cell? ⟨w.heap.size, 0, none⟩ = some (.int .i64 0) := by rw [cell_of_block k0]; rfl
            have k0_1 : wr.cell? ⟨w.heap.size, 1, none⟩ = some (.int .i64 lo) := by rw [cell_of_block k0]; rfl
            have k0_2 : wr.cell? ⟨w.heap.size, 2, none⟩ = some (.slice aO nO cO) := by rw [cell_of_block k0]; rfl
            have k0_3 : wr.cell? ⟨w.heap.size, 3, none⟩ = some (.int .i64 16777216) := by rw [cell_of_block k0]; rfl
            have k0_4 : wr.cell? ⟨w.heap.size, 4, none⟩ = some (.int .i64 ly) := by rw [cell_of_block k0]; rfl
            have k0_5 : wr.cell? ⟨w.heap.size, 5, none⟩ = some (.slice aY nY cY) := by rw [cell_of_block k0]; rfl
            go_wp2_with fail
            refine (hH1 _ (by (repeat (first | exact Below.refl _ _ | assumption | refine Below.drew ?_ | refine below_drewN ?_ _ | refine balloc ?_ _ | refine Below.setCell ?_ (by first | (simp; done) | (simp; omega) | omega) _ | refine bchain (by assumption) ?_)))).mono ?_
            rintro e w11 ⟨rfl, hb11⟩
            have hB11 : Below wr.heap.size wr w11 := by (repeat (first | exact Below.refl _ _ | assumption | refine Below.drew ?_ | refine below_drewN ?_ _ | refine balloc ?_ _ | refine Below.setCell ?_ (by first | (simp; done) | (simp; omega) | omega) _ | refine bchain (by assumption) ?_))
            have k0 := bblock hB11 k0
            have hw11 := bchain hB11 hw10
            have hp11 : w.heap.size + 1 ≤ w11.heap.size := by have := (Array.getElem?_eq_some_iff.1 k0).1; omega
            clear hz_k0
            have hz_k0 : w.heap.size < w11.heap.size := (Array.getElem?_eq_some_iff.1 k0).1
            clear hB11
            clear k0_0 k0_1 k0_2 k0_3 k0_4 k0_5
            have k0_0 : w11.cell? ⟨w.heap.size, 0, none⟩ = some (.int .i64 0) := by rw [cell_of_block k0]; rfl
            have k0_1 : w11.cell? ⟨w.heap.size, 1, none⟩ = some (.int .i64 lo) := by rw [cell_of_block k0]; rfl
            have k0_2 : w11.cell? ⟨w.heap.size, 2, none⟩ = some (.slice aO nO cO) := by rw [cell_of_block k0]; rfl
            have k0_3 : w11.cell? ⟨w.heap.size, 3, none⟩ = some (.int .i64 16777216) := by rw [cell_of_block k0]; rfl
            have k0_4 : w11.cell? ⟨w.heap.size, 4, none⟩ = some (.int .i64 ly) := by rw [cell_of_block k0]; rfl
            have k0_5 : w11.cell? ⟨w.heap.size, 5, none⟩ = some (.slice aY nY cY) := by rw [cell_of_block k0]; rfl
            go_wp2_with fail
            refine (hL1 _ (by (repeat (first | exact Below.refl _ _ | assumption | refine Below.drew ?_ | refine below_drewN ?_ _ | refine balloc ?_ _ | refine Below.setCell ?_ (by first | (simp; done) | (simp; omega) | omega) _ | refine bchain (by assumption) ?_)))).mono ?_
            rintro e w12 ⟨rfl, hb12⟩
            have hB12 : Below w11.heap.size w11 w12 := by (repeat (first | exact Below.refl _ _ | assumption | refine Below.drew ?_ | refine below_drewN ?_ _ | refine balloc ?_ _ | refine Below.setCell ?_ (by first | (simp; done) | (simp; omega) | omega) _ | refine bchain (by assumption) ?_))
            have k0 := bblock hB12 k0
            have t : w12.heap[w11.heap.size]? = some (.cells #[.int .i64 4, .int .i64 hc, .int .i64 hf] 23 (0, 0)) := bblock hb12 (by repeat (first | exact alloc_at _ (by simp) | refine alloc_lt _ ?_))
            have hw12 := bchain hB12 hw11
            have hp12 : w.heap.size + 1 ≤ w12.heap.size := by have := (Array.getElem?_eq_some_iff.1 k0).1; omega
            clear hz_k0
            have hz_k0 : w.heap.size < w12.heap.size := (Array.getElem?_eq_some_iff.1 k0).1
            have hz_t : w11.heap.size < w12.heap.size := (Array.getElem?_eq_some_iff.1 t).1
            clear hB12
            clear k0_0 k0_1 k0_2 k0_3 k0_4 k0_5
            have k0_0 : w12.cell? ⟨w.heap.size, 0, none⟩ = some (.int .i64 0) := by rw [cell_of_block k0]; rfl
            have k0_1 : w12.cell? ⟨w.heap.size, 1, none⟩ = some (.int .i64 lo) := by rw [cell_of_block k0]; rfl
            have k0_2 : w12.cell? ⟨w.heap.size, 2, none⟩ = some (.slice aO nO cO) := by rw [cell_of_block k0]; rfl
            have k0_3 : w12.cell? ⟨w.heap.size, 3, none⟩ = some (.int .i64 16777216) := by rw [cell_of_block k0]; rfl
            have k0_4 : w12.cell? ⟨w.heap.size, 4, none⟩ = some (.int .i64 ly) := by rw [cell_of_block k0]; rfl
            have k0_5 : w12.cell? ⟨w.heap.size, 5, none⟩ = some (.slice aY nY cY) := by rw [cell_of_block k0]; rfl
            have t_0 : w12.cell? ⟨w11.heap.size, 0, none⟩ = some (.int .i64 4) := by rw [cell_of_block t]; rfl
            have t_1 : w12.cell? ⟨w11.heap.size, 1, none⟩ = some (.int .i64 hc) := by rw [cell_of_block t]; rfl
            have t_2 : w12.cell? ⟨w11.heap.size, 2, none⟩ = some (.int .i64 hf) := by rw [cell_of_block t]; rfl
            go_wp2_with fail
            refine (hA1 _).mono ?_
            rintro e w13 ⟨rfl, hb13⟩
            have hB13 : Below w12.heap.size w12 w13 := by (repeat (first | exact Below.refl _ _ | assumption | refine Below.drew ?_ | refine below_drewN ?_ _ | refine balloc ?_ _ | refine Below.setCell ?_ (by first | (simp; done) | (simp; omega) | omega) _ | refine bchain (by assumption) ?_))
            have k0 := bblock hB13 k0
            have t := bblock hB13 t
            have hw13 := bchain hB13 hw12
            have hp13 : w.heap.size + 1 ≤ w13.heap.size := by have := (Array.getElem?_eq_some_iff.1 k0).1; omega
            clear hz_k0 hz_t
            have hz_k0 : w.heap.size < w13.heap.size := (Array.getElem?_eq_some_iff.1 k0).1
            have hz_t : w11.heap.size < w13.heap.size := (Array.getElem?_eq_some_iff.1 t).1
            clear hB13
            clear k0_0 k0_1 k0_2 k0_3 k0_4 k0_5 t_0 t_1 t_2
            have k0_0 : w13.cell? ⟨w.heap.size, 0, none⟩ = some (.int .i64 0) := by rw [cell_of_block k0]; rfl
            have k0_1 : w13.cell? ⟨w.heap.size, 1, none⟩ = some (.int .i64 lo) := by rw [cell_of_block k0]; rfl
            have k0_2 : w13.cell? ⟨w.heap.size, 2, none⟩ = some (.slice aO nO cO) := by rw [cell_of_block k0]; rfl
            have k0_3 : w13.cell? ⟨w.heap.size, 3, none⟩ = some (.int .i64 16777216) := by rw [cell_of_block k0]; rfl
            have k0_4 : w13.cell? ⟨w.heap.size, 4, none⟩ = some (.int .i64 ly) := by rw [cell_of_block k0]; rfl
            have k0_5 : w13.cell? ⟨w.heap.size, 5, none⟩ = some (.slice aY nY cY) := by rw [cell_of_block k0]; rfl
            have t_0 : w13.cell? ⟨w11.heap.size, 0, none⟩ = some (.int .i64 4) := by rw [cell_of_block t]; rfl
            have t_1 : w13.cell? ⟨w11.heap.size, 1, none⟩ = some (.int .i64 hc) := by rw [cell_of_block t]; rfl
            have t_2 : w13.cell? ⟨w11.heap.size, 2, none⟩ = some (.int .i64 hf) := by rw [cell_of_block t]; rfl
            go_wp2
            go_roundw
            case rel => exact ⟨j + 1, sx + 1, av, hm3, HS3, (by go_num), rfl, HNR, ⟨hn0, hn1⟩, k0, hw13⟩
            case measure => simp [intOf]; omega
        · have hH1 := fun W h => hH W h x
          rw [he] at hH1
          obtain ⟨m, hm, _, _⟩ := HS1.out hlt
          have e := hrs.out.symm.trans ((congrArg (fun k => rsv wo wy k x) hm).trans (rsv_end he hk4 m))
          obtain ⟨rfl, rfl⟩ := Prod.mk.inj e
          have hb1 : (HK wo wy r1 != 4) = true := by simpa using hk4
          clear hrs e hm hH hL hu hrg he hk4 HS1 HS2 HS3
          generalize HK wo wy r1 = hk at *
          generalize HC wo wy r1 = hc at *
          generalize HF wo wy r1 = hf at *
          have hz_k0 : w.heap.size < wr.heap.size := (Array.getElem?_eq_some_iff.1 k0).1
          have k0_0 : wr.cell? ⟨w.heap.size, 0, none⟩ = some (.int .i64 0) := by rw [cell_of_block k0]; rfl
          have k0_1 : wr.cell? ⟨w.heap.size, 1, none⟩ = some (.int .i64 lo) := by rw [cell_of_block k0]; rfl
          have k0_2 : wr.cell? ⟨w.heap.size, 2, none⟩ = some (.slice aO nO cO) := by rw [cell_of_block k0]; rfl
          have k0_3 : wr.cell? ⟨w.heap.size, 3, none⟩ = some (.int .i64 16777216) := by rw [cell_of_block k0]; rfl
          have k0_4 : wr.cell? ⟨w.heap.size, 4, none⟩ = some (.int .i64 ly) := by rw [cell_of_block k0]; rfl
          have k0_5 : wr.cell? ⟨w.heap.size, 5, none⟩ = some (.slice aY nY cY) := by rw [cell_of_block k0]; rfl
          go_wp2_with fail
          refine (hH1 _ (by (repeat (first | exact Below.refl _ _ | assumption | refine Below.drew ?_ | refine below_drewN ?_ _ | refine balloc ?_ _ | refine Below.setCell ?_ (by first | (simp; done) | (simp; omega) | omega) _ | refine bchain (by assumption) ?_)))).mono ?_
          rintro e w11 ⟨rfl, hb11⟩
          have hB11 : Below wr.heap.size wr w11 := by (repeat (first | exact Below.refl _ _ | assumption | refine Below.drew ?_ | refine below_drewN ?_ _ | refine balloc ?_ _ | refine Below.setCell ?_ (by first | (simp; done) | (simp; omega) | omega) _ | refine bchain (by assumption) ?_))
          have k0 := bblock hB11 k0
          have hw11 := bchain hB11 hw10
          have hp11 : w.heap.size + 1 ≤ w11.heap.size := by have := (Array.getElem?_eq_some_iff.1 k0).1; omega
          clear hz_k0
          have hz_k0 : w.heap.size < w11.heap.size := (Array.getElem?_eq_some_iff.1 k0).1
          clear hB11
          clear k0_0 k0_1 k0_2 k0_3 k0_4 k0_5
          have k0_0 : w11.cell? ⟨w.heap.size, 0, none⟩ = some (.int .i64 0) := by rw [cell_of_block k0]; rfl
          have k0_1 : w11.cell? ⟨w.heap.size, 1, none⟩ = some (.int .i64 lo) := by rw [cell_of_block k0]; rfl
          have k0_2 : w11.cell? ⟨w.heap.size, 2, none⟩ = some (.slice aO nO cO) := by rw [cell_of_block k0]; rfl
          have k0_3 : w11.cell? ⟨w.heap.size, 3, none⟩ = some (.int .i64 16777216) := by rw [cell_of_block k0]; rfl
          have k0_4 : w11.cell? ⟨w.heap.size, 4, none⟩ = some (.int .i64 ly) := by rw [cell_of_block k0]; rfl
          have k0_5 : w11.cell? ⟨w.heap.size, 5, none⟩ = some (.slice aY nY cY) := by rw [cell_of_block k0]; rfl
          go_wp2
          go_ret2
          exact ⟨rfl, by (repeat (first | exact Below.refl _ _ | assumption | refine Below.drew ?_ | refine below_drewN ?_ _ | refine balloc ?_ _ | refine Below.setCell ?_ (by first | (simp; done) | (simp; omega) | omega) _ | refine bchain (by assumption) ?_))⟩
      · have hH1 := fun W h => hH W h x
        have e := hrs.out.symm.trans (rsv_err he _)
        obtain ⟨rfl, rfl⟩ := Prod.mk.inj e
        clear hrs e
        have hb1 : (HE wo wy x != 0) = true := by simpa using he
        clear hH hL hu hrg HS1 HS2 HS3
        generalize HK wo wy x = hk at *
        generalize HC wo wy x = hc at *
        generalize HF wo wy x = hf at *
        generalize HE wo wy x = er at *
        clear he
        have hz_k0 : w.heap.size < wr.heap.size := (Array.getElem?_eq_some_iff.1 k0).1
        have k0_0 : wr.cell? ⟨w.heap.size, 0, none⟩ = some (.int .i64 0) := by rw [cell_of_block k0]; rfl
        have k0_1 : wr.cell? ⟨w.heap.size, 1, none⟩ = some (.int .i64 lo) := by rw [cell_of_block k0]; rfl
        have k0_2 : wr.cell? ⟨w.heap.size, 2, none⟩ = some (.slice aO nO cO) := by rw [cell_of_block k0]; rfl
        have k0_3 : wr.cell? ⟨w.heap.size, 3, none⟩ = some (.int .i64 16777216) := by rw [cell_of_block k0]; rfl
        have k0_4 : wr.cell? ⟨w.heap.size, 4, none⟩ = some (.int .i64 ly) := by rw [cell_of_block k0]; rfl
        have k0_5 : wr.cell? ⟨w.heap.size, 5, none⟩ = some (.slice aY nY cY) := by rw [cell_of_block k0]; rfl
        go_wp2_with fail
        refine (hH1 _ (by (repeat (first | exact Below.refl _ _ | assumption | refine Below.drew ?_ | refine below_drewN ?_ _ | refine balloc ?_ _ | refine Below.setCell ?_ (by first | (simp; done) | (simp; omega) | omega) _ | refine bchain (by assumption) ?_)))).mono ?_
        rintro e w11 ⟨rfl, hb11⟩
        have hB11 : Below wr.heap.size wr w11 := by (repeat (first | exact Below.refl _ _ | assumption | refine Below.drew ?_ | refine below_drewN ?_ _ | refine balloc ?_ _ | refine Below.setCell ?_ (by first | (simp; done) | (simp; omega) | omega) _ | refine bchain (by assumption) ?_))
        have k0 := bblock hB11 k0
        have hw11 := bchain hB11 hw10
        have hp11 : w.heap.size + 1 ≤ w11.heap.size := by have := (Array.getElem?_eq_some_iff.1 k0).1; omega
        clear hz_k0
        have hz_k0 : w.heap.size < w11.heap.size := (Array.getElem?_eq_some_iff.1 k0).1
        clear hB11
        clear k0_0 k0_1 k0_2 k0_3 k0_4 k0_5
        have k0_0 : w11.cell? ⟨w.heap.size, 0, none⟩ = some (.int .i64 0) := by rw [cell_of_block k0]; rfl
        have k0_1 : w11.cell? ⟨w.heap.size, 1, none⟩ = some (.int .i64 lo) := by rw [cell_of_block k0]; rfl
        have k0_2 : w11.cell? ⟨w.heap.size, 2, none⟩ = some (.slice aO nO cO) := by rw [cell_of_block k0]; rfl
        have k0_3 : w11.cell? ⟨w.heap.size, 3, none⟩ = some (.int .i64 16777216) := by rw [cell_of_block k0]; rfl
        have k0_4 : w11.cell? ⟨w.heap.size, 4, none⟩ = some (.int .i64 ly) := by rw [cell_of_block k0]; rfl
        have k0_5 : w11.cell? ⟨w.heap.size, 5, none⟩ = some (.slice aY nY cY) := by rw [cell_of_block k0]; rfl
        go_wp2
        go_ret2
        exact ⟨rfl, by (repeat (first | exact Below.refl _ _ | assumption | refine Below.drew ?_ | refine below_drewN ?_ _ | refine balloc ?_ _ | refine Below.setCell ?_ (by first | (simp; done) | (simp; omega) | omega) _ | refine bchain (by assumption) ?_))⟩
    · have e0 := HS2.out hlt
      have e := hrs.out.symm.trans ((congrArg (fun k => rsv wo wy k x) e0).trans rfl)
      obtain ⟨rfl, rfl⟩ := Prod.mk.inj e
      clear hrs e e0 hH hL hu hrg HS1 HS2 HS3
      have hd1 : decide (sx ≤ (nO : Int) + (nY : Int)) = false := decide_eq_false hlt
      have hz_k0 : w.heap.size < wr.heap.size := (Array.getElem?_eq_some_iff.1 k0).1
      have k0_0 : wr.cell? ⟨w.heap.size, 0, none⟩ = some (.int .i64 0) := by rw [cell_of_block k0]; rfl
      have k0_1 : wr.cell? ⟨w.heap.size, 1, none⟩ = some (.int .i64 lo) := by rw [cell_of_block k0]; rfl
      have k0_2 : wr.cell? ⟨w.heap.size, 2, none⟩ = some (.slice aO nO cO) := by rw [cell_of_block k0]; rfl
      have k0_3 : wr.cell? ⟨w.heap.size, 3, none⟩ = some (.int .i64 16777216) := by rw [cell_of_block k0]; rfl
      have k0_4 : wr.cell? ⟨w.heap.size, 4, none⟩ = some (.int .i64 ly) := by rw [cell_of_block k0]; rfl
      have k0_5 : wr.cell? ⟨w.heap.size, 5, none⟩ = some (.slice aY nY cY) := by rw [cell_of_block k0]; rfl
      go_wp2
      go_ret2
      exact ⟨rfl, by (repeat (first | exact Below.refl _ _ | assumption | refine Below.drew ?_ | refine below_drewN ?_ _ | refine balloc ?_ _ | refine Below.setCell ?_ (by first | (simp; done) | (simp; omega) | omega) _ | refine bchain (by assumption) ?_))⟩
theorem rresolve_any {w : World} {aO : Option Addr} {nO cO : Nat} {aY : Option Addr} {nY cY : Nat} {lo ly : Int} {wo wy : List Int} {gO gY : Option Nat} (hm : RMem w aO nO cO aY nY cY lo ly wo wy gO gY) (a : Int) : Calls Try.prog 36 #[.agg #[.int .i64 0, .int .i64 lo, .slice aO nO cO, .int .i64 16777216, .int .i64 ly, .slice aY nY cY], .int .i64 a] w fun e w' => e = .returned (.tuple #[.int .i64 (RA wo wy a), .int .i64 (RE wo wy a)]) ∧ Below w.heap.size w w' := by
  unfold RA RE
  by_cases hl : LE wo wy a = 0
  · rw [if_pos hl, if_pos hl, hm.lO, hm.lY]
    exact rresolve_in hm a hl _ _ rfl
  · rw [if_neg hl, if_neg hl]
    exact rresolve_out hm a hl
end Go.Proofs.Ytcmhgjkijegpnaa
namespace Go.Proofs.Ytcmhgjkijegpnaa
open Go.RowKit
set_option linter.unusedSimpArgs false
set_option linter.unusedVariables false

theorem isE_of {p : Int → Bool} {wo wy : List Int} {a : Int} (he : HE wo wy a = 0) : isE p wo wy a = if p (HK wo wy a) = true then 0 else 7 := by
  unfold isE
  rw [if_neg (by simpa using he)]
theorem isE_bad {p : Int → Bool} {wo wy : List Int} {a : Int} (he : HE wo wy a ≠ 0) : isE p wo wy a = HE wo wy a := by
  unfold isE
  rw [if_pos he]
set_option maxRecDepth 100000 in
set_option maxHeartbeats 1000000 in
theorem rtostub_e {w : World} {aO : Option Addr} {nO cO : Nat} {aY : Option Addr} {nY cY : Nat} {lo ly : Int} {wo wy : List Int} {gO gY : Option Nat} (hm : RMem w aO nO cO aY nY cY lo ly wo wy gO gY) (a n u : Int) (he : HE wo wy a ≠ 0) :
    Calls Try.prog 57 #[.agg #[.int .i64 0, .int .i64 lo, .slice aO nO cO, .int .i64 16777216, .int .i64 ly, .slice aY nY cY], .int .i64 a, .int .i64 n, .int .u64 u] w (RNext w (fun v => .tuple #[v, .int .i64 (HE wo wy a)]) lo ly wo wy gO gY) := by
  have hH := fun W (h : Below w.heap.size w W) => rmhdr_any (hm.below h) a
  have hmB := fun W (H : Below w.heap.size w W) => hm.below H
  generalize HK wo wy a = hk at *
  generalize HC wo wy a = hc at *
  generalize HF wo wy a = hf at *
  generalize HE wo wy a = er at *
  have hb1 : (er != 0) = true := by simpa using he
  clear he
  have hw0 : Below w.heap.size w w := Below.refl _ _
  go_enter Try.func57, Try.ntmps57
  go_wp2_with fail
  refine (hH _ (by (repeat (first | exact Below.refl _ _ | assumption | refine Below.drew ?_ | refine below_drewN ?_ _ | refine balloc ?_ _ | refine Below.setCell ?_ (by first | (simp; done) | (simp; omega) | omega) _ | refine bchain (by assumption) ?_)))).mono ?_
  rintro e w1 ⟨rfl, hb1⟩
  have hB1 : Below w.heap.size w w1 := by (repeat (first | exact Below.refl _ _ | assumption | refine Below.drew ?_ | refine below_drewN ?_ _ | refine balloc ?_ _ | refine Below.setCell ?_ (by first | (simp; done) | (simp; omega) | omega) _ | refine bchain (by assumption) ?_))
  have k0 : w1.heap[w.heap.size]? = some (.cells #[.int .i64 0, .int .i64 lo, .slice aO nO cO, .int .i64 16777216, .int .i64 ly, .slice aY nY cY] 35 (0, 0)) := bblock hb1 (by repeat (first | exact alloc_at _ (by simp) | refine alloc_lt _ ?_))
  have r : w1.heap[w.heap.size + 1]? = some (.cells #[.int .i64 0, .int .i64 0, .slice none 0 0, .int .i64 0, .int .i64 0, .slice none 0 0] 35 (0, 0)) := bblock hb1 (by repeat (first | exact alloc_at _ (by simp) | refine alloc_lt _ ?_))
  have hw1 := bchain hB1 hw0
  have hp1 : w.heap.size + 2 ≤ w1.heap.size := by have := (Array.getElem?_eq_some_iff.1 r).1; omega
  have hz_k0 : w.heap.size < w1.heap.size := (Array.getElem?_eq_some_iff.1 k0).1
  have hz_r : w.heap.size + 1 < w1.heap.size := (Array.getElem?_eq_some_iff.1 r).1
  clear hB1
  have k0_0 : w1.cell? ⟨w.heap.size, 0, none⟩ = some (.int .i64 0) := by rw [cell_of_block k0]; rfl
  have k0_1 : w1.cell? ⟨w.heap.size, 1, none⟩ = some (.int .i64 lo) := by rw [cell_of_block k0]; rfl
  have k0_2 : w1.cell? ⟨w.heap.size, 2, none⟩ = some (.slice aO nO cO) := by rw [cell_of_block k0]; rfl
  have k0_3 : w1.cell? ⟨w.heap.size, 3, none⟩ = some (.int .i64 16777216) := by rw [cell_of_block k0]; rfl
  have k0_4 : w1.cell? ⟨w.heap.size, 4, none⟩ = some (.int .i64 ly) := by rw [cell_of_block k0]; rfl
  have k0_5 : w1.cell? ⟨w.heap.size, 5, none⟩ = some (.slice aY nY cY) := by rw [cell_of_block k0]; rfl
  have r_0 : w1.cell? ⟨w.heap.size + 1, 0, none⟩ = some (.int .i64 0) := by rw [cell_of_block r]; rfl
  have r_1 : w1.cell? ⟨w.heap.size + 1, 1, none⟩ = some (.int .i64 0) := by rw [cell_of_block r]; rfl
  have r_2 : w1.cell? ⟨w.heap.size + 1, 2, none⟩ = some (.slice none 0 0) := by rw [cell_of_block r]; rfl
  have r_3 : w1.cell? ⟨w.heap.size + 1, 3, none⟩ = some (.int .i64 0) := by rw [cell_of_block r]; rfl
  have r_4 : w1.cell? ⟨w.heap.size + 1, 4, none⟩ = some (.int .i64 0) := by rw [cell_of_block r]; rfl
  have r_5 : w1.cell? ⟨w.heap.size + 1, 5, none⟩ = some (.slice none 0 0) := by rw [cell_of_block r]; rfl
  have r_f : ∀ i, w1.frozen? ⟨w.heap.size + 1, i, none⟩ = false := frozen_of_block r
  go_wp2
  refine bodyPost_ret (v := .tuple #[.agg #[.int .i64 0, .int .i64 lo, .slice aO nO cO, .int .i64 16777216, .int .i64 ly, .slice aY nY cY], .int .i64 er]) (by simp [results, Try.results57, go_sem, k0_0, k0_1, k0_2, k0_3, k0_4, k0_5, r_0, r_1, r_2, r_3, r_4, r_5, r_f, hz_k0, hz_r]) rfl ?_
  refine rnext_fin (w := w) (wk := w1) (mk := fun v => .tuple #[v, .int .i64 er]) hm (hmB _ hw1) ?_ (fun G e => .inl e) (fun G e => .inl e) ?_
  · (repeat (first | (with_reducible refine Mods.alloc ?_ _) | (with_reducible refine two_set ?_ _ _ _ (.inl rfl)) | (with_reducible refine two_set ?_ _ _ _ (.inr rfl)) | (with_reducible exact Mods.refl _ _)))
  · (repeat (first | (with_reducible refine balloc ?_ _) | (with_reducible refine below_set ?_ _ _ _ (Nat.le_refl _)) | (with_reducible refine below_set ?_ _ _ _ (Nat.le_add_right _ _)) | (with_reducible assumption)))
set_option maxRecDepth 100000 in
set_option maxHeartbeats 1000000 in
theorem rtostub_3 {w : World} {aO : Option Addr} {nO cO : Nat} {aY : Option Addr} {nY cY : Nat} {lo ly : Int} {wo wy : List Int} {gO gY : Option Nat} (hm : RMem w aO nO cO aY nY cY lo ly wo wy gO gY) (a n u : Int) (he : HE wo wy a = 0) (hs : HK wo wy a = 3) :
    Calls Try.prog 57 #[.agg #[.int .i64 0, .int .i64 lo, .slice aO nO cO, .int .i64 16777216, .int .i64 ly, .slice aY nY cY], .int .i64 a, .int .i64 n, .int .u64 u] w (RNext w (fun v => .tuple #[v, .int .i64 7]) lo ly wo wy gO gY) := by
  have hH := fun W (h : Below w.heap.size w W) => rmhdr_any (hm.below h) a
  have hmB := fun W (H : Below w.heap.size w W) => hm.below H
  rw [he, hs] at hH
  generalize HC wo wy a = hc at *
  generalize HF wo wy a = hf at *
  clear he hs
  have hw0 : Below w.heap.size w w := Below.refl _ _
  go_enter Try.func57, Try.ntmps57
  go_wp2_with fail
  refine (hH _ (by (repeat (first | exact Below.refl _ _ | assumption | refine Below.drew ?_ | refine below_drewN ?_ _ | refine balloc ?_ _ | refine Below.setCell ?_ (by first | (simp; done) | (simp; omega) | omega) _ | refine bchain (by assumption) ?_)))).mono ?_
  rintro e w1 ⟨rfl, hb1⟩
  have hB1 : Below w.heap.size w w1 := by (repeat (first | exact Below.refl _ _ | assumption | refine Below.drew ?_ | refine below_drewN ?_ _ | refine balloc ?_ _ | refine Below.setCell ?_ (by first | (simp; done) | (simp; omega) | omega) _ | refine bchain (by assumption) ?_))
  have k0 : w1.heap[w.heap.size]? = some (.cells #[.int .i64 0, .int .i64 lo, .slice aO nO cO, .int .i64 16777216, .int .i64 ly, .slice aY nY cY] 35 (0, 0)) := bblock hb1 (by repeat (first | exact alloc_at _ (by simp) | refine alloc_lt _ ?_))
  have r : w1.heap[w.heap.size + 1]? = some (.cells #[.int .i64 0, .int .i64 0, .slice none 0 0, .int .i64 0, .int .i64 0, .slice none 0 0] 35 (0, 0)) := bblock hb1 (by repeat (first | exact alloc_at _ (by simp) | refine alloc_lt _ ?_))
  have hw1 := bchain hB1 hw0
  have hp1 : w.heap.size + 2 ≤ w1.heap.size := by have := (Array.getElem?_eq_some_iff.1 r).1; omega
  have hz_k0 : w.heap.size < w1.heap.size := (Array.getElem?_eq_some_iff.1 k0).1
  have hz_r : w.heap.size + 1 < w1.heap.size := (Array.getElem?_eq_some_iff.1 r).1
  clear hB1
  have k0_0 : w1.cell? ⟨w.heap.size, 0, none⟩ = some (.int .i64 0) := by rw [cell_of_block k0]; rfl
  have k0_1 : w1.cell? ⟨w.heap.size, 1, none⟩ = some (.int .i64 lo) := by rw [cell_of_block k0]; rfl
  have k0_2 : w1.cell? ⟨w.heap.size, 2, none⟩ = some (.slice aO nO cO) := by rw [cell_of_block k0]; rfl
  have k0_3 : w1.cell? ⟨w.heap.size, 3, none⟩ = some (.int .i64 16777216) := by rw [cell_of_block k0]; rfl
  have k0_4 : w1.cell? ⟨w.heap.size, 4, none⟩ = some (.int .i64 ly) := by rw [cell_of_block k0]; rfl
  have k0_5 : w1.cell? ⟨w.heap.size, 5, none⟩ = some (.slice aY nY cY) := by rw [cell_of_block k0]; rfl
  have r_0 : w1.cell? ⟨w.heap.size + 1, 0, none⟩ = some (.int .i64 0) := by rw [cell_of_block r]; rfl
  have r_1 : w1.cell? ⟨w.heap.size + 1, 1, none⟩ = some (.int .i64 0) := by rw [cell_of_block r]; rfl
  have r_2 : w1.cell? ⟨w.heap.size + 1, 2, none⟩ = some (.slice none 0 0) := by rw [cell_of_block r]; rfl
  have r_3 : w1.cell? ⟨w.heap.size + 1, 3, none⟩ = some (.int .i64 0) := by rw [cell_of_block r]; rfl
  have r_4 : w1.cell? ⟨w.heap.size + 1, 4, none⟩ = some (.int .i64 0) := by rw [cell_of_block r]; rfl
  have r_5 : w1.cell? ⟨w.heap.size + 1, 5, none⟩ = some (.slice none 0 0) := by rw [cell_of_block r]; rfl
  have r_f : ∀ i, w1.frozen? ⟨w.heap.size + 1, i, none⟩ = false := frozen_of_block r
  go_wp2
  refine bodyPost_ret (v := .tuple #[.agg #[.int .i64 0, .int .i64 lo, .slice aO nO cO, .int .i64 16777216, .int .i64 ly, .slice aY nY cY], .int .i64 7]) (by simp [results, Try.results57, go_sem, k0_0, k0_1, k0_2, k0_3, k0_4, k0_5, r_0, r_1, r_2, r_3, r_4, r_5, r_f, hz_k0, hz_r]) rfl ?_
  refine rnext_fin (w := w) (wk := w1) (mk := fun v => .tuple #[v, .int .i64 7]) hm (hmB _ hw1) ?_ (fun G e => .inl e) (fun G e => .inl e) ?_
  · (repeat (first | (with_reducible refine Mods.alloc ?_ _) | (with_reducible refine two_set ?_ _ _ _ (.inl rfl)) | (with_reducible refine two_set ?_ _ _ _ (.inr rfl)) | (with_reducible exact Mods.refl _ _)))
  · (repeat (first | (with_reducible refine balloc ?_ _) | (with_reducible refine below_set ?_ _ _ _ (Nat.le_refl _)) | (with_reducible refine below_set ?_ _ _ _ (Nat.le_add_right _ _)) | (with_reducible assumption)))
set_option maxRecDepth 100000 in
set_option maxHeartbeats 1000000 in
theorem rtostub_4 {w : World} {aO : Option Addr} {nO cO : Nat} {aY : Option Addr} {nY cY : Nat} {lo ly : Int} {wo wy : List Int} {gO gY : Option Nat} (hm : RMem w aO nO cO aY nY cY lo ly wo wy gO gY) (a n u : Int) (he : HE wo wy a = 0) (hs : HK wo wy a = 4) :
    Calls Try.prog 57 #[.agg #[.int .i64 0, .int .i64 lo, .slice aO nO cO, .int .i64 16777216, .int .i64 ly, .slice aY nY cY], .int .i64 a, .int .i64 n, .int .u64 u] w (RNext w (fun v => .tuple #[v, .int .i64 7]) lo ly wo wy gO gY) := by
  have hH := fun W (h : Below w.heap.size w W) => rmhdr_any (hm.below h) a
  have hmB := fun W (H : Below w.heap.size w W) => hm.below H
  rw [he, hs] at hH
  generalize HC wo wy a = hc at *
  generalize HF wo wy a = hf at *
  clear he hs
  have hw0 : Below w.heap.size w w := Below.refl _ _
  go_enter Try.func57, Try.ntmps57
  go_wp2_with fail
  refine (hH _ (by (repeat (first | exact Below.refl _ _ | assumption | refine Below.drew ?_ | refine below_drewN ?_ _ | refine balloc ?_ _ | refine Below.setCell ?_ (by first | (simp; done) | (simp; omega) | omega) _ | refine bchain (by assumption) ?_)))).mono ?_
  rintro e w1 ⟨rfl, hb1⟩
  have hB1 : Below w.heap.size w w1 := by (repeat (first | exact Below.refl _ _ | assumption | refine Below.drew ?_ | refine below_drewN ?_ _ | refine balloc ?_ _ | refine Below.setCell ?_ (by first | (simp; done) | (simp; omega) | omega) _ | refine bchain (by assumption) ?_))
  have k0 : w1.heap[w.heap.size]? = some (.cells #[.int .i64 0, .int .i64 lo, .slice aO nO cO, .int .i64 16777216, .int .i64 ly, .slice aY nY cY] 35 (0, 0)) := bblock hb1 (by repeat (first | exact alloc_at _ (by simp) | refine alloc_lt _ ?_))
  have r : w1.heap[w.heap.size + 1]? = some (.cells #[.int .i64 0, .int .i64 0, .slice none 0 0, .int .i64 0, .int .i64 0, .slice none 0 0] 35 (0, 0)) := bblock hb1 (by repeat (first | exact alloc_at _ (by simp) | refine alloc_lt _ ?_))
  have hw1 := bchain hB1 hw0
  have hp1 : w.heap.size + 2 ≤ w1.heap.size := by have := (Array.getElem?_eq_some_iff.1 r).1; omega
  have hz_k0 : w.heap.size < w1.heap.size := (Array.getElem?_eq_some_iff.1 k0).1
  have hz_r : w.heap.size + 1 < w1.heap.size := (Array.getElem?_eq_some_iff.1 r).1
  clear hB1
  have k0_0 : w1.cell? ⟨w.heap.size, 0, none⟩ = some (.int .i64 0) := by rw [cell_of_block k0]; rfl
  have k0_1 : w1.cell? ⟨w.heap.size, 1, none⟩ = some (.int .i64 lo) := by rw [cell_of_block k0]; rfl
  have k0_2 : w1.cell? ⟨w.heap.size, 2, none⟩ = some (.slice aO nO cO) := by rw [cell_of_block k0]; rfl
  have k0_3 : w1.cell? ⟨w.heap.size, 3, none⟩ = some (.int .i64 16777216) := by rw [cell_of_block k0]; rfl
  have k0_4 : w1.cell? ⟨w.heap.size, 4, none⟩ = some (.int .i64 ly) := by rw [cell_of_block k0]; rfl
  have k0_5 : w1.cell? ⟨w.heap.size, 5, none⟩ = some (.slice aY nY cY) := by rw [cell_of_block k0]; rfl
  have r_0 : w1.cell? ⟨w.heap.size + 1, 0, none⟩ = some (.int .i64 0) := by rw [cell_of_block r]; rfl
  have r_1 : w1.cell? ⟨w.heap.size + 1, 1, none⟩ = some (.int .i64 0) := by rw [cell_of_block r]; rfl
  have r_2 : w1.cell? ⟨w.heap.size + 1, 2, none⟩ = some (.slice none 0 0) := by rw [cell_of_block r]; rfl
  have r_3 : w1.cell? ⟨w.heap.size + 1, 3, none⟩ = some (.int .i64 0) := by rw [cell_of_block r]; rfl
  have r_4 : w1.cell? ⟨w.heap.size + 1, 4, none⟩ = some (.int .i64 0) := by rw [cell_of_block r]; rfl
  have r_5 : w1.cell? ⟨w.heap.size + 1, 5, none⟩ = some (.slice none 0 0) := by rw [cell_of_block r]; rfl
  have r_f : ∀ i, w1.frozen? ⟨w.heap.size + 1, i, none⟩ = false := frozen_of_block r
  go_wp2
  refine bodyPost_ret (v := .tuple #[.agg #[.int .i64 0, .int .i64 lo, .slice aO nO cO, .int .i64 16777216, .int .i64 ly, .slice aY nY cY], .int .i64 7]) (by simp [results, Try.results57, go_sem, k0_0, k0_1, k0_2, k0_3, k0_4, k0_5, r_0, r_1, r_2, r_3, r_4, r_5, r_f, hz_k0, hz_r]) rfl ?_
  refine rnext_fin (w := w) (wk := w1) (mk := fun v => .tuple #[v, .int .i64 7]) hm (hmB _ hw1) ?_ (fun G e => .inl e) (fun G e => .inl e) ?_
  · (repeat (first | (with_reducible refine Mods.alloc ?_ _) | (with_reducible refine two_set ?_ _ _ _ (.inl rfl)) | (with_reducible refine two_set ?_ _ _ _ (.inr rfl)) | (with_reducible exact Mods.refl _ _)))
  · (repeat (first | (with_reducible refine balloc ?_ _) | (with_reducible refine below_set ?_ _ _ _ (Nat.le_refl _)) | (with_reducible refine below_set ?_ _ _ _ (Nat.le_add_right _ _)) | (with_reducible assumption)))
set_option maxRecDepth 100000 in
set_option maxHeartbeats 1000000 in
theorem rtostub_lo {w : World} {aO : Option Addr} {nO cO : Nat} {aY : Option Addr} {nY cY : Nat} {lo ly : Int} {wo wy : List Int} {gO gY : Option Nat} (hm : RMem w aO nO cO aY nY cY lo ly wo wy gO gY) (a n u : Int) (he : HE wo wy a = 0) (h3 : HK wo wy a ≠ 3) (h4 : HK wo wy a ≠ 4) (hn : n < 1) :
    Calls Try.prog 57 #[.agg #[.int .i64 0, .int .i64 lo, .slice aO nO cO, .int .i64 16777216, .int .i64 ly, .slice aY nY cY], .int .i64 a, .int .i64 n, .int .u64 u] w (RNext w (fun v => .tuple #[v, .int .i64 1]) lo ly wo wy gO gY) := by
  have hH := fun W (h : Below w.heap.size w W) => rmhdr_any (hm.below h) a
  have hmB := fun W (H : Below w.heap.size w W) => hm.below H
  have n3 : (HK wo wy a == 3) = false := by simpa using h3
  have n4 : (HK wo wy a == 4) = false := by simpa using h4
  rw [he] at hH
  generalize HK wo wy a = hk at *
  generalize HC wo wy a = hc at *
  generalize HF wo wy a = hf at *
  have hd1 : decide (n < 1) = true := by simpa using hn
  clear he h3 h4
  have hw0 : Below w.heap.size w w := Below.refl _ _
  go_enter Try.func57, Try.ntmps57
  go_wp2_with fail
  refine (hH _ (by (repeat (first | exact Below.refl _ _ | assumption | refine Below.drew ?_ | refine below_drewN ?_ _ | refine balloc ?_ _ | refine Below.setCell ?_ (by first | (simp; done) | (simp; omega) | omega) _ | refine bchain (by assumption) ?_)))).mono ?_
  rintro e w1 ⟨rfl, hb1⟩
  have hB1 : Below w.heap.size w w1 := by (repeat (first | exact Below.refl _ _ | assumption | refine Below.drew ?_ | refine below_drewN ?_ _ | refine balloc ?_ _ | refine Below.setCell ?_ (by first | (simp; done) | (simp; omega) | omega) _ | refine bchain (by assumption) ?_))
  have k0 : w1.heap[w.heap.size]? = some (.cells #[.int .i64 0, .int .i64 lo, .slice aO nO cO, .int .i64 16777216, .int .i64 ly, .slice aY nY cY] 35 (0, 0)) := bblock hb1 (by repeat (first | exact alloc_at _ (by simp) | refine alloc_lt _ ?_))
  have r : w1.heap[w.heap.size + 1]? = some (.cells #[.int .i64 0, .int .i64 0, .slice none 0 0, .int .i64 0, .int .i64 0, .slice none 0 0] 35 (0, 0)) := bblock hb1 (by repeat (first | exact alloc_at _ (by simp) | refine alloc_lt _ ?_))
  have hw1 := bchain hB1 hw0
  have hp1 : w.heap.size + 2 ≤ w1.heap.size := by have := (Array.getElem?_eq_some_iff.1 r).1; omega
  have hz_k0 : w.heap.size < w1.heap.size := (Array.getElem?_eq_some_iff.1 k0).1
  have hz_r : w.heap.size + 1 < w1.heap.size := (Array.getElem?_eq_some_iff.1 r).1
  clear hB1
  have k0_0 : w1.cell? ⟨w.heap.size, 0, none⟩ = some (.int .i64 0) := by rw [cell_of_block k0]; rfl
  have k0_1 : w1.cell? ⟨w.heap.size, 1, none⟩ = some (.int .i64 lo) := by rw [cell_of_block k0]; rfl
  have k0_2 : w1.cell? ⟨w.heap.size, 2, none⟩ = some (.slice aO nO cO) := by rw [cell_of_block k0]; rfl
  have k0_3 : w1.cell? ⟨w.heap.size, 3, none⟩ = some (.int .i64 16777216) := by rw [cell_of_block k0]; rfl
  have k0_4 : w1.cell? ⟨w.heap.size, 4, none⟩ = some (.int .i64 ly) := by rw [cell_of_block k0]; rfl
  have k0_5 : w1.cell? ⟨w.heap.size, 5, none⟩ = some (.slice aY nY cY) := by rw [cell_of_block k0]; rfl
  have r_0 : w1.cell? ⟨w.heap.size + 1, 0, none⟩ = some (.int .i64 0) := by rw [cell_of_block r]; rfl
  have r_1 : w1.cell? ⟨w.heap.size + 1, 1, none⟩ = some (.int .i64 0) := by rw [cell_of_block r]; rfl
  have r_2 : w1.cell? ⟨w.heap.size + 1, 2, none⟩ = some (.slice none 0 0) := by rw [cell_of_block r]; rfl
  have r_3 : w1.cell? ⟨w.heap.size + 1, 3, none⟩ = some (.int .i64 0) := by rw [cell_of_block r]; rfl
  have r_4 : w1.cell? ⟨w.heap.size + 1, 4, none⟩ = some (.int .i64 0) := by rw [cell_of_block r]; rfl
  have r_5 : w1.cell? ⟨w.heap.size + 1, 5, none⟩ = some (.slice none 0 0) := by rw [cell_of_block r]; rfl
  have r_f : ∀ i, w1.frozen? ⟨w.heap.size + 1, i, none⟩ = false := frozen_of_block r
  go_wp2
  refine bodyPost_ret (v := .tuple #[.agg #[.int .i64 0, .int .i64 lo, .slice aO nO cO, .int .i64 16777216, .int .i64 ly, .slice aY nY cY], .int .i64 1]) (by simp [results, Try.results57, go_sem, k0_0, k0_1, k0_2, k0_3, k0_4, k0_5, r_0, r_1, r_2, r_3, r_4, r_5, r_f, hz_k0, hz_r]) rfl ?_
  refine rnext_fin (w := w) (wk := w1) (mk := fun v => .tuple #[v, .int .i64 1]) hm (hmB _ hw1) ?_ (fun G e => .inl e) (fun G e => .inl e) ?_
  · (repeat (first | (with_reducible refine Mods.alloc ?_ _) | (with_reducible refine two_set ?_ _ _ _ (.inl rfl)) | (with_reducible refine two_set ?_ _ _ _ (.inr rfl)) | (with_reducible exact Mods.refl _ _)))
  · (repeat (first | (with_reducible refine balloc ?_ _) | (with_reducible refine below_set ?_ _ _ _ (Nat.le_refl _)) | (with_reducible refine below_set ?_ _ _ _ (Nat.le_add_right _ _)) | (with_reducible assumption)))
set_option maxRecDepth 100000 in
set_option maxHeartbeats 1000000 in
theorem rtostub_hi {w : World} {aO : Option Addr} {nO cO : Nat} {aY : Option Addr} {nY cY : Nat} {lo ly : Int} {wo wy : List Int} {gO gY : Option Nat} (hm : RMem w aO nO cO aY nY cY lo ly wo wy gO gY) (a n u : Int) (he : HE wo wy a = 0) (h3 : HK wo wy a ≠ 3) (h4 : HK wo wy a ≠ 4) (hn0 : 1 ≤ n) (hn : 8 < n) :
    Calls Try.prog 57 #[.agg #[.int .i64 0, .int .i64 lo, .slice aO nO cO, .int .i64 16777216, .int .i64 ly, .slice aY nY cY], .int .i64 a, .int .i64 n, .int .u64 u] w (RNext w (fun v => .tuple #[v, .int .i64 1]) lo ly wo wy gO gY) := by
  have hH := fun W (h : Below w.heap.size w W) => rmhdr_any (hm.below h) a
  have hmB := fun W (H : Below w.heap.size w W) => hm.below H
  have n3 : (HK wo wy a == 3) = false := by simpa using h3
  have n4 : (HK wo wy a == 4) = false := by simpa using h4
  rw [he] at hH
  generalize HK wo wy a = hk at *
  generalize HC wo wy a = hc at *
  generalize HF wo wy a = hf at *
  have hd1 : decide (n < 1) = false := by simpa using hn0
  have hd2 : decide (8 < n) = true := by simpa using hn
  clear he h3 h4
  have hw0 : Below w.heap.size w w := Below.refl _ _
  go_enter Try.func57, Try.ntmps57
  go_wp2_with fail
  refine (hH _ (by (repeat (first | exact Below.refl _ _ | assumption | refine Below.drew ?_ | refine below_drewN ?_ _ | refine balloc ?_ _ | refine Below.setCell ?_ (by first | (simp; done) | (simp; omega) | omega) _ | refine bchain (by assumption) ?_)))).mono ?_
  rintro e w1 ⟨rfl, hb1⟩
  have hB1 : Below w.heap.size w w1 := by (repeat (first | exact Below.refl _ _ | assumption | refine Below.drew ?_ | refine below_drewN ?_ _ | refine balloc ?_ _ | refine Below.setCell ?_ (by first | (simp; done) | (simp; omega) | omega) _ | refine bchain (by assumption) ?_))
  have k0 : w1.heap[w.heap.size]? = some (.cells #[.int .i64 0, .int .i64 lo, .slice aO nO cO, .int .i64 16777216, .int .i64 ly, .slice aY nY cY] 35 (0, 0)) := bblock hb1 (by repeat (first | exact alloc_at _ (by simp) | refine alloc_lt _ ?_))
  have r : w1.heap[w.heap.size + 1]? = some (.cells #[.int .i64 0, .int .i64 0, .slice none 0 0, .int .i64 0, .int .i64 0, .slice none 0 0] 35 (0, 0)) := bblock hb1 (by repeat (first | exact alloc_at _ (by simp) | refine alloc_lt _ ?_))
  have hw1 := bchain hB1 hw0
  have hp1 : w.heap.size + 2 ≤ w1.heap.size := by have := (Array.getElem?_eq_some_iff.1 r).1; omega
  have hz_k0 : w.heap.size < w1.heap.size := (Array.getElem?_eq_some_iff.1 k0).1
  have hz_r : w.heap.size + 1 < w1.heap.size := (Array.getElem?_eq_some_iff.1 r).1
  clear hB1
  have k0_0 : w1.cell? ⟨w.heap.size, 0, none⟩ = some (.int .i64 0) := by rw [cell_of_block k0]; rfl
  have k0_1 : w1.cell? ⟨w.heap.size, 1, none⟩ = some (.int .i64 lo) := by rw [cell_of_block k0]; rfl
  have k0_2 : w1.cell? ⟨w.heap.size, 2, none⟩ = some (.slice aO nO cO) := by rw [cell_of_block k0]; rfl
  have k0_3 : w1.cell? ⟨w.heap.size, 3, none⟩ = some (.int .i64 16777216) := by rw [cell_of_block k0]; rfl
  have k0_4 : w1.cell? ⟨w.heap.size, 4, none⟩ = some (.int .i64 ly) := by rw [cell_of_block k0]; rfl
  have k0_5 : w1.cell? ⟨w.heap.size, 5, none⟩ = some (.slice aY nY cY) := by rw [cell_of_block k0]; rfl
  have r_0 : w1.cell? ⟨w.heap.size + 1, 0, none⟩ = some (.int .i64 0) := by rw [cell_of_block r]; rfl
  have r_1 : w1.cell? ⟨w.heap.size + 1, 1, none⟩ = some (.int .i64 0) := by rw [cell_of_block r]; rfl
  have r_2 : w1.cell? ⟨w.heap.size + 1, 2, none⟩ = some (.slice none 0 0) := by rw [cell_of_block r]; rfl
  have r_3 : w1.cell? ⟨w.heap.size + 1, 3, none⟩ = some (.int .i64 0) := by rw [cell_of_block r]; rfl
  have r_4 : w1.cell? ⟨w.heap.size + 1, 4, none⟩ = some (.int .i64 0) := by rw [cell_of_block r]; rfl
  have r_5 : w1.cell? ⟨w.heap.size + 1, 5, none⟩ = some (.slice none 0 0) := by rw [cell_of_block r]; rfl
  have r_f : ∀ i, w1.frozen? ⟨w.heap.size + 1, i, none⟩ = false := frozen_of_block r
  go_wp2
  refine bodyPost_ret (v := .tuple #[.agg #[.int .i64 0, .int .i64 lo, .slice aO nO cO, .int .i64 16777216, .int .i64 ly, .slice aY nY cY], .int .i64 1]) (by simp [results, Try.results57, go_sem, k0_0, k0_1, k0_2, k0_3, k0_4, k0_5, r_0, r_1, r_2, r_3, r_4, r_5, r_f, hz_k0, hz_r]) rfl ?_
  refine rnext_fin (w := w) (wk := w1) (mk := fun v => .tuple #[v, .int .i64 1]) hm (hmB _ hw1) ?_ (fun G e => .inl e) (fun G e => .inl e) ?_
  · (repeat (first | (with_reducible refine Mods.alloc ?_ _) | (with_reducible refine two_set ?_ _ _ _ (.inl rfl)) | (with_reducible refine two_set ?_ _ _ _ (.inr rfl)) | (with_reducible exact Mods.refl _ _)))
  · (repeat (first | (with_reducible refine balloc ?_ _) | (with_reducible refine below_set ?_ _ _ _ (Nat.le_refl _)) | (with_reducible refine below_set ?_ _ _ _ (Nat.le_add_right _ _)) | (with_reducible assumption)))
set_option maxRecDepth 100000 in
set_option maxHeartbeats 2000000 in
theorem rtostub_y {w : World} {aO : Option Addr} {nO cO : Nat} {aY : Option Addr} {nY cY : Nat} {lo ly : Int} {wo wy : List Int} {gO gY : Option Nat} (hm : RMem w aO nO cO aY nY cY lo ly wo wy gO gY) (a n u : Int) (hu : U64 u) (he : HE wo wy a = 0) (h3 : HK wo wy a ≠ 3) (h4 : HK wo wy a ≠ 4) (hn1 : 1 ≤ n) (hn2 : n ≤ 8) :
    Calls Try.prog 57 #[.agg #[.int .i64 0, .int .i64 lo, .slice aO nO cO, .int .i64 16777216, .int .i64 ly, .slice aY nY cY], .int .i64 a, .int .i64 n, .int .u64 u] w (RNext w (fun v => .tuple #[v, .int .i64 0]) lo ly (wrM wo wy a 3 [n, u]).1 (wrM wo wy a 3 [n, u]).2 gO gY) := by
  have hH := fun W (h : Below w.heap.size w W) => rmhdr_any (hm.below h) a
  have hpu : ∀ x ∈ [n, u], U64 x := by
    intro x hx
    simp only [List.mem_cons, List.not_mem_nil, or_false] at hx
    rcases hx with rfl | rfl
    · exact U64.of (by omega) (by omega)
    · exact hu
  have hWr := fun (W : World) (H : Below w.heap.size w W) (G : Nat) (hG : G = W.heap.size) => rwrite_any (hm.below (balloc H (.cells #[.int .u64 n, .int .u64 u] 56))) a 3 (.inl rfl) G 2 [n, u] (fun i x hx => by rw [cell_of_block (alloc_at _ hG)]; rcases i with _ | _ | i <;> simp at hx ⊢ <;> exact hx) hpu (by simp) (by omega) he
  have n3 : (HK wo wy a == 3) = false := by simpa using h3
  have n4 : (HK wo wy a == 4) = false := by simpa using h4
  rw [he] at hH
  generalize (wrM wo wy a 3 [n, u]).1 = wo2 at *
  generalize (wrM wo wy a 3 [n, u]).2 = wy2 at *
  generalize HK wo wy a = hk at *
  generalize HC wo wy a = hc at *
  generalize HF wo wy a = hf at *
  have hd1 : decide (n < 1) = false := by simpa using hn1
  have hd2 : decide (8 < n) = false := by simpa using hn2
  clear he h3 h4 hpu hu
  have hw0 : Below w.heap.size w w := Below.refl _ _
  go_enter Try.func57, Try.ntmps57
  go_wp2_with fail
  refine (hH _ (by (repeat (first | exact Below.refl _ _ | assumption | refine Below.drew ?_ | refine below_drewN ?_ _ | refine balloc ?_ _ | refine Below.setCell ?_ (by first | (simp; done) | (simp; omega) | omega) _ | refine bchain (by assumption) ?_)))).mono ?_
  rintro e w1 ⟨rfl, hb1⟩
  have hB1 : Below w.heap.size w w1 := by (repeat (first | exact Below.refl _ _ | assumption | refine Below.drew ?_ | refine below_drewN ?_ _ | refine balloc ?_ _ | refine Below.setCell ?_ (by first | (simp; done) | (simp; omega) | omega) _ | refine bchain (by assumption) ?_))
  have k0 : w1.heap[w.heap.size]? = some (.cells #[.int .i64 0, .int .i64 lo, .slice aO nO cO, .int .i64 16777216, .int .i64 ly, .slice aY nY cY] 35 (0, 0)) := bblock hb1 (by repeat (first | exact alloc_at _ (by simp) | refine alloc_lt _ ?_))
  have r : w1.heap[w.heap.size + 1]? = some (.cells #[.int .i64 0, .int .i64 0, .slice none 0 0, .int .i64 0, .int .i64 0, .slice none 0 0] 35 (0, 0)) := bblock hb1 (by repeat (first | exact alloc_at _ (by simp) | refine alloc_lt _ ?_))
  have hw1 := bchain hB1 hw0
  have hp1 : w.heap.size + 2 ≤ w1.heap.size := by have := (Array.getElem?_eq_some_iff.1 r).1; omega
  have hz_k0 : w.heap.size < w1.heap.size := (Array.getElem?_eq_some_iff.1 k0).1
  have hz_r : w.heap.size + 1 < w1.heap.size := (Array.getElem?_eq_some_iff.1 r).1
  clear hB1
  have k0_0 : w1.cell? ⟨w.heap.size, 0, none⟩ = some (.int .i64 0) := by rw [cell_of_block k0]; rfl
  have k0_1 : w1.cell? ⟨w.heap.size, 1, none⟩ = some (.int .i64 lo) := by rw [cell_of_block k0]; rfl
  have k0_2 : w1.cell? ⟨w.heap.size, 2, none⟩ = some (.slice aO nO cO) := by rw [cell_of_block k0]; rfl
  have k0_3 : w1.cell? ⟨w.heap.size, 3, none⟩ = some (.int .i64 16777216) := by rw [cell_of_block k0]; rfl
  have k0_4 : w1.cell? ⟨w.heap.size, 4, none⟩ = some (.int .i64 ly) := by rw [cell_of_block k0]; rfl
  have k0_5 : w1.cell? ⟨w.heap.size, 5, none⟩ = some (.slice aY nY cY) := by rw [cell_of_block k0]; rfl
  have r_0 : w1.cell? ⟨w.heap.size + 1, 0, none⟩ = some (.int .i64 0) := by rw [cell_of_block r]; rfl
  have r_1 : w1.cell? ⟨w.heap.size + 1, 1, none⟩ = some (.int .i64 0) := by rw [cell_of_block r]; rfl
  have r_2 : w1.cell? ⟨w.heap.size + 1, 2, none⟩ = some (.slice none 0 0) := by rw [cell_of_block r]; rfl
  have r_3 : w1.cell? ⟨w.heap.size + 1, 3, none⟩ = some (.int .i64 0) := by rw [cell_of_block r]; rfl
  have r_4 : w1.cell? ⟨w.heap.size + 1, 4, none⟩ = some (.int .i64 0) := by rw [cell_of_block r]; rfl
  have r_5 : w1.cell? ⟨w.heap.size + 1, 5, none⟩ = some (.slice none 0 0) := by rw [cell_of_block r]; rfl
  have r_f : ∀ i, w1.frozen? ⟨w.heap.size + 1, i, none⟩ = false := frozen_of_block r
  have t0 : True := trivial
  have hal0 : Below w.heap.size w (w1.alloc (.cells #[.int .i64 hk, .int .i64 hc, .int .i64 hf] 23)) := balloc hw1 _
  have hal := balloc hal0 (.cells #[.int .u64 n, .int .u64 u] 56)
  have hsz : w.heap.size + 2 ≤ (World.alloc (w1.alloc (.cells #[.int .i64 hk, .int .i64 hc, .int .i64 hf] 23)) (.cells #[.int .u64 n, .int .u64 u] 56)).heap.size := by simp; omega
  have r0 : (World.alloc (w1.alloc (.cells #[.int .i64 hk, .int .i64 hc, .int .i64 hf] 23)) (.cells #[.int .u64 n, .int .u64 u] 56)).heap[w.heap.size + 1]? = some (.cells #[.int .i64 0, .int .i64 0, .slice none 0 0, .int .i64 0, .int .i64 0, .slice none 0 0] 35 (0, 0)) := (by repeat (first | exact r | refine alloc_lt _ ?_))
  go_wp2_with fail
  refine (hWr _ hal0 _ (by simp)).mono ?_
  rintro e w9 ⟨aO9, nO9, cO9, aY9, nY9, cY9, gO9, gY9, rfl, hR9, hgO9, hgY9, hb9⟩
  have hw9 := bchain hb9 hal
  have r := bblock hb9 r0
  have hz_r : w.heap.size + 1 < w9.heap.size := (Array.getElem?_eq_some_iff.1 r).1
  have hO9 : ∀ G, gO9 = some G → gO = some G ∨ w.heap.size + 2 ≤ G := fun G e => (hgO9 G e).imp id (fun h => by omega)
  have hY9 : ∀ G, gY9 = some G → gY = some G ∨ w.heap.size + 2 ≤ G := fun G e => (hgY9 G e).imp id (fun h => by omega)
  clear hgO9 hgY9 hb9 hal hal0 hsz hWr r0
  clear k0_0 k0_1 k0_2 k0_3 k0_4 k0_5 r_0 r_1 r_2 r_3 r_4 r_5 r_f
  have r_0 : w9.cell? ⟨w.heap.size + 1, 0, none⟩ = some (.int .i64 0) := by rw [cell_of_block r]; rfl
  have r_1 : w9.cell? ⟨w.heap.size + 1, 1, none⟩ = some (.int .i64 0) := by rw [cell_of_block r]; rfl
  have r_2 : w9.cell? ⟨w.heap.size + 1, 2, none⟩ = some (.slice none 0 0) := by rw [cell_of_block r]; rfl
  have r_3 : w9.cell? ⟨w.heap.size + 1, 3, none⟩ = some (.int .i64 0) := by rw [cell_of_block r]; rfl
  have r_4 : w9.cell? ⟨w.heap.size + 1, 4, none⟩ = some (.int .i64 0) := by rw [cell_of_block r]; rfl
  have r_5 : w9.cell? ⟨w.heap.size + 1, 5, none⟩ = some (.slice none 0 0) := by rw [cell_of_block r]; rfl
  have r_f : ∀ i, w9.frozen? ⟨w.heap.size + 1, i, none⟩ = false := frozen_of_block r
  go_wp2
  refine bodyPost_ret (v := .tuple #[.agg #[.int .i64 0, .int .i64 lo, .slice aO9 nO9 cO9, .int .i64 16777216, .int .i64 ly, .slice aY9 nY9 cY9], .int .i64 0]) (by simp [results, Try.results57, go_sem, r_0, r_1, r_2, r_3, r_4, r_5, r_f, hz_r]) rfl ?_
  refine rnext_fin (w := w) (wk := w9) (mk := fun v => .tuple #[v, .int .i64 0]) hm hR9 ?_ hO9 hY9 ?_
  · (repeat (first | (with_reducible refine Mods.alloc ?_ _) | (with_reducible refine two_set ?_ _ _ _ (.inl rfl)) | (with_reducible refine two_set ?_ _ _ _ (.inr rfl)) | (with_reducible exact Mods.refl _ _)))
  · (repeat (first | (with_reducible refine balloc ?_ _) | (with_reducible refine below_set ?_ _ _ _ (Nat.le_refl _)) | (with_reducible refine below_set ?_ _ _ _ (Nat.le_add_right _ _)) | (with_reducible assumption)))
theorem rtostub_any {w : World} {aO : Option Addr} {nO cO : Nat} {aY : Option Addr} {nY cY : Nat} {lo ly : Int} {wo wy : List Int} {gO gY : Option Nat} (hm : RMem w aO nO cO aY nY cY lo ly wo wy gO gY) (a n u : Int) (hu : U64 u) : Calls Try.prog 57 #[.agg #[.int .i64 0, .int .i64 lo, .slice aO nO cO, .int .i64 16777216, .int .i64 ly, .slice aY nY cY], .int .i64 a, .int .i64 n, .int .u64 u] w (RNext w (fun v => .tuple #[v, .int .i64 (tsE wo wy a n)]) lo ly (tsM wo wy a n u).1 (tsM wo wy a n u).2 gO gY) := by
  by_cases he : HE wo wy a = 0
  · by_cases hst : stB (HK wo wy a) = true
    · have e0 : isE (fun k => !stB k) wo wy a = 7 := by rw [isE_of he]; simp [hst]
      have e : tsE wo wy a n = 7 := by unfold tsE; rw [e0, if_pos (by decide)]
      unfold tsM
      rw [e, if_neg (by decide)]
      rcases stB_iff.1 hst with h | h
      · exact rtostub_3 hm a n u he h
      · exact rtostub_4 hm a n u he h
    · have e0 : isE (fun k => !stB k) wo wy a = 0 := by rw [isE_of he]; simp [hst]
      have h3 : HK wo wy a ≠ 3 := fun h => hst (stB_iff.2 (.inl h))
      have h4 : HK wo wy a ≠ 4 := fun h => hst (stB_iff.2 (.inr h))
      by_cases h1 : n < 1
      · have hn : okM n = false := decide_eq_false (by omega)
        have e : tsE wo wy a n = 1 := by unfold tsE; rw [e0, if_neg (by decide), hn]; rfl
        unfold tsM
        rw [e, if_neg (by decide)]
        exact rtostub_lo hm a n u he h3 h4 h1
      · by_cases h2 : 8 < n
        · have hn : okM n = false := decide_eq_false (by omega)
          have e : tsE wo wy a n = 1 := by unfold tsE; rw [e0, if_neg (by decide), hn]; rfl
          unfold tsM
          rw [e, if_neg (by decide)]
          exact rtostub_hi hm a n u he h3 h4 (by omega) h2
        · have hn : okM n = true := decide_eq_true (by omega)
          have e : tsE wo wy a n = 0 := by unfold tsE; rw [e0, if_neg (by decide), hn]; rfl
          unfold tsM
          rw [e, if_pos rfl]
          exact rtostub_y hm a n u hu he h3 h4 (by omega) (by omega)
  · have e : tsE wo wy a n = HE wo wy a := by unfold tsE; rw [isE_bad he, if_pos he]
    unfold tsM
    rw [e, if_neg he]
    exact rtostub_e hm a n u he
set_option maxRecDepth 100000 in
set_option maxHeartbeats 1000000 in
theorem rtofwd_e {w : World} {aO : Option Addr} {nO cO : Nat} {aY : Option Addr} {nY cY : Nat} {lo ly : Int} {wo wy : List Int} {gO gY : Option Nat} (hm : RMem w aO nO cO aY nY cY lo ly wo wy gO gY) (a t : Int) (he : HE wo wy a ≠ 0) :
    Calls Try.prog 60 #[.agg #[.int .i64 0, .int .i64 lo, .slice aO nO cO, .int .i64 16777216, .int .i64 ly, .slice aY nY cY], .int .i64 a, .int .i64 t] w (RNext w (fun v => .tuple #[v, .int .i64 (HE wo wy a)]) lo ly wo wy gO gY) := by
  have hH := fun W (h : Below w.heap.size w W) => rmhdr_any (hm.below h) a
  have hmB := fun W (H : Below w.heap.size w W) => hm.below H
  generalize HK wo wy a = hk at *
  generalize HC wo wy a = hc at *
  generalize HF wo wy a = hf at *
  generalize HE wo wy a = er at *
  have hb1 : (er != 0) = true := by simpa using he
  clear he
  have hw0 : Below w.heap.size w w := Below.refl _ _
  go_enter Try.func60, Try.ntmps60
  go_wp2_with fail
  refine (hH _ (by (repeat (first | exact Below.refl _ _ | assumption | refine Below.drew ?_ | refine below_drewN ?_ _ | refine balloc ?_ _ | refine Below.setCell ?_ (by first | (simp; done) | (simp; omega) | omega) _ | refine bchain (by assumption) ?_)))).mono ?_
  rintro e w1 ⟨rfl, hb1⟩
  have hB1 : Below w.heap.size w w1 := by (repeat (first | exact Below.refl _ _ | assumption | refine Below.drew ?_ | refine below_drewN ?_ _ | refine balloc ?_ _ | refine Below.setCell ?_ (by first | (simp; done) | (simp; omega) | omega) _ | refine bchain (by assumption) ?_))
  have k0 : w1.heap[w.heap.size]? = some (.cells #[.int .i64 0, .int .i64 lo, .slice aO nO cO, .int .i64 16777216, .int .i64 ly, .slice aY nY cY] 35 (0, 0)) := bblock hb1 (by repeat (first | exact alloc_at _ (by simp) | refine alloc_lt _ ?_))
  have r : w1.heap[w.heap.size + 1]? = some (.cells #[.int .i64 0, .int .i64 0, .slice none 0 0, .int .i64 0, .int .i64 0, .slice none 0 0] 35 (0, 0)) := bblock hb1 (by repeat (first | exact alloc_at _ (by simp) | refine alloc_lt _ ?_))
  have hw1 := bchain hB1 hw0
  have hp1 : w.heap.size + 2 ≤ w1.heap.size := by have := (Array.getElem?_eq_some_iff.1 r).1; omega
  have hz_k0 : w.heap.size < w1.heap.size := (Array.getElem?_eq_some_iff.1 k0).1
  have hz_r : w.heap.size + 1 < w1.heap.size := (Array.getElem?_eq_some_iff.1 r).1
  clear hB1
  have k0_0 : w1.cell? ⟨w.heap.size, 0, none⟩ = some (.int .i64 0) := by rw [cell_of_block k0]; rfl
  have k0_1 : w1.cell? ⟨w.heap.size, 1, none⟩ = some (.int .i64 lo) := by rw [cell_of_block k0]; rfl
  have k0_2 : w1.cell? ⟨w.heap.size, 2, none⟩ = some (.slice aO nO cO) := by rw [cell_of_block k0]; rfl
  have k0_3 : w1.cell? ⟨w.heap.size, 3, none⟩ = some (.int .i64 16777216) := by rw [cell_of_block k0]; rfl
  have k0_4 : w1.cell? ⟨w.heap.size, 4, none⟩ = some (.int .i64 ly) := by rw [cell_of_block k0]; rfl
  have k0_5 : w1.cell? ⟨w.heap.size, 5, none⟩ = some (.slice aY nY cY) := by rw [cell_of_block k0]; rfl
  have r_0 : w1.cell? ⟨w.heap.size + 1, 0, none⟩ = some (.int .i64 0) := by rw [cell_of_block r]; rfl
  have r_1 : w1.cell? ⟨w.heap.size + 1, 1, none⟩ = some (.int .i64 0) := by rw [cell_of_block r]; rfl
  have r_2 : w1.cell? ⟨w.heap.size + 1, 2, none⟩ = some (.slice none 0 0) := by rw [cell_of_block r]; rfl
  have r_3 : w1.cell? ⟨w.heap.size + 1, 3, none⟩ = some (.int .i64 0) := by rw [cell_of_block r]; rfl
  have r_4 : w1.cell? ⟨w.heap.size + 1, 4, none⟩ = some (.int .i64 0) := by rw [cell_of_block r]; rfl
  have r_5 : w1.cell? ⟨w.heap.size + 1, 5, none⟩ = some (.slice none 0 0) := by rw [cell_of_block r]; rfl
  have r_f : ∀ i, w1.frozen? ⟨w.heap.size + 1, i, none⟩ = false := frozen_of_block r
  go_wp2
  refine bodyPost_ret (v := .tuple #[.agg #[.int .i64 0, .int .i64 lo, .slice aO nO cO, .int .i64 16777216, .int .i64 ly, .slice aY nY cY], .int .i64 er]) (by simp [results, Try.results60, go_sem, k0_0, k0_1, k0_2, k0_3, k0_4, k0_5, r_0, r_1, r_2, r_3, r_4, r_5, r_f, hz_k0, hz_r]) rfl ?_
  refine rnext_fin (w := w) (wk := w1) (mk := fun v => .tuple #[v, .int .i64 er]) hm (hmB _ hw1) ?_ (fun G e => .inl e) (fun G e => .inl e) ?_
  · (repeat (first | (with_reducible refine Mods.alloc ?_ _) | (with_reducible refine two_set ?_ _ _ _ (.inl rfl)) | (with_reducible refine two_set ?_ _ _ _ (.inr rfl)) | (with_reducible exact Mods.refl _ _)))
  · (repeat (first | (with_reducible refine balloc ?_ _) | (with_reducible refine below_set ?_ _ _ _ (Nat.le_refl _)) | (with_reducible refine below_set ?_ _ _ _ (Nat.le_add_right _ _)) | (with_reducible assumption)))
set_option maxRecDepth 100000 in
set_option maxHeartbeats 1000000 in
theorem rtofwd_4 {w : World} {aO : Option Addr} {nO cO : Nat} {aY : Option Addr} {nY cY : Nat} {lo ly : Int} {wo wy : List Int} {gO gY : Option Nat} (hm : RMem w aO nO cO aY nY cY lo ly wo wy gO gY) (a t : Int) (he : HE wo wy a = 0) (hs : HK wo wy a = 4) :
    Calls Try.prog 60 #[.agg #[.int .i64 0, .int .i64 lo, .slice aO nO cO, .int .i64 16777216, .int .i64 ly, .slice aY nY cY], .int .i64 a, .int .i64 t] w (RNext w (fun v => .tuple #[v, .int .i64 7]) lo ly wo wy gO gY) := by
  have hH := fun W (h : Below w.heap.size w W) => rmhdr_any (hm.below h) a
  have hmB := fun W (H : Below w.heap.size w W) => hm.below H
  rw [he, hs] at hH
  generalize HC wo wy a = hc at *
  generalize HF wo wy a = hf at *
  clear he hs
  have hw0 : Below w.heap.size w w := Below.refl _ _
  go_enter Try.func60, Try.ntmps60
  go_wp2_with fail
  refine (hH _ (by (repeat (first | exact Below.refl _ _ | assumption | refine Below.drew ?_ | refine below_drewN ?_ _ | refine balloc ?_ _ | refine Below.setCell ?_ (by first | (simp; done) | (simp; omega) | omega) _ | refine bchain (by assumption) ?_)))).mono ?_
  rintro e w1 ⟨rfl, hb1⟩
  have hB1 : Below w.heap.size w w1 := by (repeat (first | exact Below.refl _ _ | assumption | refine Below.drew ?_ | refine below_drewN ?_ _ | refine balloc ?_ _ | refine Below.setCell ?_ (by first | (simp; done) | (simp; omega) | omega) _ | refine bchain (by assumption) ?_))
  have k0 : w1.heap[w.heap.size]? = some (.cells #[.int .i64 0, .int .i64 lo, .slice aO nO cO, .int .i64 16777216, .int .i64 ly, .slice aY nY cY] 35 (0, 0)) := bblock hb1 (by repeat (first | exact alloc_at _ (by simp) | refine alloc_lt _ ?_))
  have r : w1.heap[w.heap.size + 1]? = some (.cells #[.int .i64 0, .int .i64 0, .slice none 0 0, .int .i64 0, .int .i64 0, .slice none 0 0] 35 (0, 0)) := bblock hb1 (by repeat (first | exact alloc_at _ (by simp) | refine alloc_lt _ ?_))
  have hw1 := bchain hB1 hw0
  have hp1 : w.heap.size + 2 ≤ w1.heap.size := by have := (Array.getElem?_eq_some_iff.1 r).1; omega
  have hz_k0 : w.heap.size < w1.heap.size := (Array.getElem?_eq_some_iff.1 k0).1
  have hz_r : w.heap.size + 1 < w1.heap.size := (Array.getElem?_eq_some_iff.1 r).1
  clear hB1
  have k0_0 : w1.cell? ⟨w.heap.size, 0, none⟩ = some (.int .i64 0) := by rw [cell_of_block k0]; rfl
  have k0_1 : w1.cell? ⟨w.heap.size, 1, none⟩ = some (.int .i64 lo) := by rw [cell_of_block k0]; rfl
  have k0_2 : w1.cell? ⟨w.heap.size, 2, none⟩ = some (.slice aO nO cO) := by rw [cell_of_block k0]; rfl
  have k0_3 : w1.cell? ⟨w.heap.size, 3, none⟩ = some (.int .i64 16777216) := by rw [cell_of_block k0]; rfl
  have k0_4 : w1.cell? ⟨w.heap.size, 4, none⟩ = some (.int .i64 ly) := by rw [cell_of_block k0]; rfl
  have k0_5 : w1.cell? ⟨w.heap.size, 5, none⟩ = some (.slice aY nY cY) := by rw [cell_of_block k0]; rfl
  have r_0 : w1.cell? ⟨w.heap.size + 1, 0, none⟩ = some (.int .i64 0) := by rw [cell_of_block r]; rfl
  have r_1 : w1.cell? ⟨w.heap.size + 1, 1, none⟩ = some (.int .i64 0) := by rw [cell_of_block r]; rfl
  have r_2 : w1.cell? ⟨w.heap.size + 1, 2, none⟩ = some (.slice none 0 0) := by rw [cell_of_block r]; rfl
  have r_3 : w1.cell? ⟨w.heap.size + 1, 3, none⟩ = some (.int .i64 0) := by rw [cell_of_block r]; rfl
  have r_4 : w1.cell? ⟨w.heap.size + 1, 4, none⟩ = some (.int .i64 0) := by rw [cell_of_block r]; rfl
  have r_5 : w1.cell? ⟨w.heap.size + 1, 5, none⟩ = some (.slice none 0 0) := by rw [cell_of_block r]; rfl
  have r_f : ∀ i, w1.frozen? ⟨w.heap.size + 1, i, none⟩ = false := frozen_of_block r
  go_wp2
  refine bodyPost_ret (v := .tuple #[.agg #[.int .i64 0, .int .i64 lo, .slice aO nO cO, .int .i64 16777216, .int .i64 ly, .slice aY nY cY], .int .i64 7]) (by simp [results, Try.results60, go_sem, k0_0, k0_1, k0_2, k0_3, k0_4, k0_5, r_0, r_1, r_2, r_3, r_4, r_5, r_f, hz_k0, hz_r]) rfl ?_
  refine rnext_fin (w := w) (wk := w1) (mk := fun v => .tuple #[v, .int .i64 7]) hm (hmB _ hw1) ?_ (fun G e => .inl e) (fun G e => .inl e) ?_
  · (repeat (first | (with_reducible refine Mods.alloc ?_ _) | (with_reducible refine two_set ?_ _ _ _ (.inl rfl)) | (with_reducible refine two_set ?_ _ _ _ (.inr rfl)) | (with_reducible exact Mods.refl _ _)))
  · (repeat (first | (with_reducible refine balloc ?_ _) | (with_reducible refine below_set ?_ _ _ _ (Nat.le_refl _)) | (with_reducible refine below_set ?_ _ _ _ (Nat.le_add_right _ _)) | (with_reducible assumption)))
set_option maxRecDepth 100000 in
set_option maxHeartbeats 1000000 in
theorem rtofwd_r {w : World} {aO : Option Addr} {nO cO : Nat} {aY : Option Addr} {nY cY : Nat} {lo ly : Int} {wo wy : List Int} {gO gY : Option Nat} (hm : RMem w aO nO cO aY nY cY lo ly wo wy gO gY) (a t : Int) (he : HE wo wy a = 0) (h4 : HK wo wy a ≠ 4) (hr : RE wo wy t ≠ 0) :
    Calls Try.prog 60 #[.agg #[.int .i64 0, .int .i64 lo, .slice aO nO cO, .int .i64 16777216, .int .i64 ly, .slice aY nY cY], .int .i64 a, .int .i64 t] w (RNext w (fun v => .tuple #[v, .int .i64 1]) lo ly wo wy gO gY) := by
  have hH := fun W (h : Below w.heap.size w W) => rmhdr_any (hm.below h) a
  have hmB := fun W (H : Below w.heap.size w W) => hm.below H
  have hV := fun W (h : Below w.heap.size w W) => rresolve_any (hm.below h) t
  have n4 : (HK wo wy a == 4) = false := by simpa using h4
  rw [he] at hH
  generalize HK wo wy a = hk at *
  generalize HC wo wy a = hc at *
  generalize HF wo wy a = hf at *
  generalize RA wo wy t = ra at *
  generalize RE wo wy t = re at *
  have hb1 : (re != 0) = true := by simpa using hr
  clear he h4 hr
  have hw0 : Below w.heap.size w w := Below.refl _ _
  go_enter Try.func60, Try.ntmps60
  go_wp2_with fail
  refine (hH _ (by (repeat (first | exact Below.refl _ _ | assumption | refine Below.drew ?_ | refine below_drewN ?_ _ | refine balloc ?_ _ | refine Below.setCell ?_ (by first | (simp; done) | (simp; omega) | omega) _ | refine bchain (by assumption) ?_)))).mono ?_
  rintro e w1 ⟨rfl, hb1⟩
  have hB1 : Below w.heap.size w w1 := by (repeat (first | exact Below.refl _ _ | assumption | refine Below.drew ?_ | refine below_drewN ?_ _ | refine balloc ?_ _ | refine Below.setCell ?_ (by first | (simp; done) | (simp; omega) | omega) _ | refine bchain (by assumption) ?_))
  have k0 : w1.heap[w.heap.size]? = some (.cells #[.int .i64 0, .int .i64 lo, .slice aO nO cO, .int .i64 16777216, .int .i64 ly, .slice aY nY cY] 35 (0, 0)) := bblock hb1 (by repeat (first | exact alloc_at _ (by simp) | refine alloc_lt _ ?_))
  have r : w1.heap[w.heap.size + 1]? = some (.cells #[.int .i64 0, .int .i64 0, .slice none 0 0, .int .i64 0, .int .i64 0, .slice none 0 0] 35 (0, 0)) := bblock hb1 (by repeat (first | exact alloc_at _ (by simp) | refine alloc_lt _ ?_))
  have hw1 := bchain hB1 hw0
  have hp1 : w.heap.size + 2 ≤ w1.heap.size := by have := (Array.getElem?_eq_some_iff.1 r).1; omega
  have hz_k0 : w.heap.size < w1.heap.size := (Array.getElem?_eq_some_iff.1 k0).1
  have hz_r : w.heap.size + 1 < w1.heap.size := (Array.getElem?_eq_some_iff.1 r).1
  clear hB1
  have k0_0 : w1.cell? ⟨w.heap.size, 0, none⟩ = some (.int .i64 0) := by rw [cell_of_block k0]; rfl
  have k0_1 : w1.cell? ⟨w.heap.size, 1, none⟩ = some (.int .i64 lo) := by rw [cell_of_block k0]; rfl
  have k0_2 : w1.cell? ⟨w.heap.size, 2, none⟩ = some (.slice aO nO cO) := by rw [cell_of_block k0]; rfl
  have k0_3 : w1.cell? ⟨w.heap.size, 3, none⟩ = some (.int .i64 16777216) := by rw [cell_of_block k0]; rfl
  have k0_4 : w1.cell? ⟨w.heap.size, 4, none⟩ = some (.int .i64 ly) := by rw [cell_of_block k0]; rfl
  have k0_5 : w1.cell? ⟨w.heap.size, 5, none⟩ = some (.slice aY nY cY) := by rw [cell_of_block k0]; rfl
  have r_0 : w1.cell? ⟨w.heap.size + 1, 0, none⟩ = some (.int .i64 0) := by rw [cell_of_block r]; rfl
  have r_1 : w1.cell? ⟨w.heap.size + 1, 1, none⟩ = some (.int .i64 0) := by rw [cell_of_block r]; rfl
  have r_2 : w1.cell? ⟨w.heap.size + 1, 2, none⟩ = some (.slice none 0 0) := by rw [cell_of_block r]; rfl
  have r_3 : w1.cell? ⟨w.heap.size + 1, 3, none⟩ = some (.int .i64 0) := by rw [cell_of_block r]; rfl
  have r_4 : w1.cell? ⟨w.heap.size + 1, 4, none⟩ = some (.int .i64 0) := by rw [cell_of_block r]; rfl
  have r_5 : w1.cell? ⟨w.heap.size + 1, 5, none⟩ = some (.slice none 0 0) := by rw [cell_of_block r]; rfl
  have r_f : ∀ i, w1.frozen? ⟨w.heap.size + 1, i, none⟩ = false := frozen_of_block r
  go_wp2_with fail
  refine (hV _ (by (repeat (first | exact Below.refl _ _ | assumption | refine Below.drew ?_ | refine below_drewN ?_ _ | refine balloc ?_ _ | refine Below.setCell ?_ (by first | (simp; done) | (simp; omega) | omega) _ | refine bchain (by assumption) ?_)))).mono ?_
  rintro e w2 ⟨rfl, hb2⟩
  have hB2 : Below w1.heap.size w1 w2 := by (repeat (first | exact Below.refl _ _ | assumption | refine Below.drew ?_ | refine below_drewN ?_ _ | refine balloc ?_ _ | refine Below.setCell ?_ (by first | (simp; done) | (simp; omega) | omega) _ | refine bchain (by assumption) ?_))
  have k0 := bblock hB2 k0
  have r := bblock hB2 r
  have tt : w2.heap[w1.heap.size]? = some (.cells #[.int .i64 hk, .int .i64 hc, .int .i64 hf] 23 (0, 0)) := bblock hb2 (by repeat (first | exact alloc_at _ (by simp) | refine alloc_lt _ ?_))
  have hw2 := bchain hB2 hw1
  have hp2 : w.heap.size + 2 ≤ w2.heap.size := by have := (Array.getElem?_eq_some_iff.1 r).1; omega
  clear hz_k0 hz_r
  have hz_k0 : w.heap.size < w2.heap.size := (Array.getElem?_eq_some_iff.1 k0).1
  have hz_r : w.heap.size + 1 < w2.heap.size := (Array.getElem?_eq_some_iff.1 r).1
  have hz_tt : w1.heap.size < w2.heap.size := (Array.getElem?_eq_some_iff.1 tt).1
  clear hB2
  clear k0_0 k0_1 k0_2 k0_3 k0_4 k0_5 r_0 r_1 r_2 r_3 r_4 r_5 r_f
  have k0_0 : w2.cell? ⟨w.heap.size, 0, none⟩ = some (.int .i64 0) := by rw [cell_of_block k0]; rfl
  have k0_1 : w2.cell? ⟨w.heap.size, 1, none⟩ = some (.int .i64 lo) := by rw [cell_of_block k0]; rfl
  have k0_2 : w2.cell? ⟨w.heap.size, 2, none⟩ = some (.slice aO nO cO) := by rw [cell_of_block k0]; rfl
  have k0_3 : w2.cell? ⟨w.heap.size, 3, none⟩ = some (.int .i64 16777216) := by rw [cell_of_block k0]; rfl
  have k0_4 : w2.cell? ⟨w.heap.size, 4, none⟩ = some (.int .i64 ly) := by rw [cell_of_block k0]; rfl
  have k0_5 : w2.cell? ⟨w.heap.size, 5, none⟩ = some (.slice aY nY cY) := by rw [cell_of_block k0]; rfl
  have r_0 : w2.cell? ⟨w.heap.size + 1, 0, none⟩ = some (.int .i64 0) := by rw [cell_of_block r]; rfl
  have r_1 : w2.cell? ⟨w.heap.size + 1, 1, none⟩ = some (.int .i64 0) := by rw [cell_of_block r]; rfl
  have r_2 : w2.cell? ⟨w.heap.size + 1, 2, none⟩ = some (.slice none 0 0) := by rw [cell_of_block r]; rfl
  have r_3 : w2.cell? ⟨w.heap.size + 1, 3, none⟩ = some (.int .i64 0) := by rw [cell_of_block r]; rfl
  have r_4 : w2.cell? ⟨w.heap.size + 1, 4, none⟩ = some (.int .i64 0) := by rw [cell_of_block r]; rfl
  have r_5 : w2.cell? ⟨w.heap.size + 1, 5, none⟩ = some (.slice none 0 0) := by rw [cell_of_block r]; rfl
  have r_f : ∀ i, w2.frozen? ⟨w.heap.size + 1, i, none⟩ = false := frozen_of_block r
  have tt_0 : w2.cell? ⟨w1.heap.size, 0, none⟩ = some (.int .i64 hk) := by rw [cell_of_block tt]; rfl
  have tt_1 : w2.cell? ⟨w1.heap.size, 1, none⟩ = some (.int .i64 hc) := by rw [cell_of_block tt]; rfl
  have tt_2 : w2.cell? ⟨w1.heap.size, 2, none⟩ = some (.int .i64 hf) := by rw [cell_of_block tt]; rfl
  go_wp2
  refine bodyPost_ret (v := .tuple #[.agg #[.int .i64 0, .int .i64 lo, .slice aO nO cO, .int .i64 16777216, .int .i64 ly, .slice aY nY cY], .int .i64 1]) (by simp [results, Try.results60, go_sem, k0_0, k0_1, k0_2, k0_3, k0_4, k0_5, r_0, r_1, r_2, r_3, r_4, r_5, r_f, tt_0, tt_1, tt_2, hz_k0, hz_r, hz_tt]) rfl ?_
  refine rnext_fin (w := w) (wk := w2) (mk := fun v => .tuple #[v, .int .i64 1]) hm (hmB _ hw2) ?_ (fun G e => .inl e) (fun G e => .inl e) ?_
  · (repeat (first | (with_reducible refine Mods.alloc ?_ _) | (with_reducible refine two_set ?_ _ _ _ (.inl rfl)) | (with_reducible refine two_set ?_ _ _ _ (.inr rfl)) | (with_reducible exact Mods.refl _ _)))
  · (repeat (first | (with_reducible refine balloc ?_ _) | (with_reducible refine below_set ?_ _ _ _ (Nat.le_refl _)) | (with_reducible refine below_set ?_ _ _ _ (Nat.le_add_right _ _)) | (with_reducible assumption)))
set_option maxRecDepth 100000 in
set_option maxHeartbeats 1000000 in
theorem rtofwd_s {w : World} {aO : Option Addr} {nO cO : Nat} {aY : Option Addr} {nY cY : Nat} {lo ly : Int} {wo wy : List Int} {gO gY : Option Nat} (hm : RMem w aO nO cO aY nY cY lo ly wo wy gO gY) (a t : Int) (he : HE wo wy a = 0) (h4 : HK wo wy a ≠ 4) (hr : RE wo wy t = 0) (hs : RA wo wy t = a) :
    Calls Try.prog 60 #[.agg #[.int .i64 0, .int .i64 lo, .slice aO nO cO, .int .i64 16777216, .int .i64 ly, .slice aY nY cY], .int .i64 a, .int .i64 t] w (RNext w (fun v => .tuple #[v, .int .i64 1]) lo ly wo wy gO gY) := by
  have hH := fun W (h : Below w.heap.size w W) => rmhdr_any (hm.below h) a
  have hmB := fun W (H : Below w.heap.size w W) => hm.below H
  have hV := fun W (h : Below w.heap.size w W) => rresolve_any (hm.below h) t
  have n4 : (HK wo wy a == 4) = false := by simpa using h4
  rw [he] at hH
  rw [hr, hs] at hV
  generalize HK wo wy a = hk at *
  generalize HC wo wy a = hc at *
  generalize HF wo wy a = hf at *
  clear he h4 hr hs
  have hw0 : Below w.heap.size w w := Below.refl _ _
  go_enter Try.func60, Try.ntmps60
  go_wp2_with fail
  refine (hH _ (by (repeat (first | exact Below.refl _ _ | assumption | refine Below.drew ?_ | refine below_drewN ?_ _ | refine balloc ?_ _ | refine Below.setCell ?_ (by first | (simp; done) | (simp; omega) | omega) _ | refine bchain (by assumption) ?_)))).mono ?_
  rintro e w1 ⟨rfl, hb1⟩
  have hB1 : Below w.heap.size w w1 := by (repeat (first | exact Below.refl _ _ | assumption | refine Below.drew ?_ | refine below_drewN ?_ _ | refine balloc ?_ _ | refine Below.setCell ?_ (by first | (simp; done) | (simp; omega) | omega) _ | refine bchain (by assumption) ?_))
  have k0 : w1.heap[w.heap.size]? = some (.cells #[.int .i64 0, .int .i64 lo, .slice aO nO cO, .int .i64 16777216, .int .i64 ly, .slice aY nY cY] 35 (0, 0)) := bblock hb1 (by repeat (first | exact alloc_at _ (by simp) | refine alloc_lt _ ?_))
  have r : w1.heap[w.heap.size + 1]? = some (.cells #[.int .i64 0, .int .i64 0, .slice none 0 0, .int .i64 0, .int .i64 0, .slice none 0 0] 35 (0, 0)) := bblock hb1 (by repeat (first | exact alloc_at _ (by simp) | refine alloc_lt _ ?_))
  have hw1 := bchain hB1 hw0
  have hp1 : w.heap.size + 2 ≤ w1.heap.size := by have := (Array.getElem?_eq_some_iff.1 r).1; omega
  have hz_k0 : w.heap.size < w1.heap.size := (Array.getElem?_eq_some_iff.1 k0).1
  have hz_r : w.heap.size + 1 < w1.heap.size := (Array.getElem?_eq_some_iff.1 r).1
  clear hB1
  have k0_0 : w1.cell? ⟨w.heap.size, 0, none⟩ = some (.int .i64 0) := by rw [cell_of_block k0]; rfl
  have k0_1 : w1.cell? ⟨w.heap.size, 1, none⟩ = some (.int .i64 lo) := by rw [cell_of_block k0]; rfl
  have k0_2 : w1.cell? ⟨w.heap.size, 2, none⟩ = some (.slice aO nO cO) := by rw [cell_of_block k0]; rfl
  have k0_3 : w1.cell? ⟨w.heap.size, 3, none⟩ = some (.int .i64 16777216) := by rw [cell_of_block k0]; rfl
  have k0_4 : w1.cell? ⟨w.heap.size, 4, none⟩ = some (.int .i64 ly) := by rw [cell_of_block k0]; rfl
  have k0_5 : w1.cell? ⟨w.heap.size, 5, none⟩ = some (.slice aY nY cY) := by rw [cell_of_block k0]; rfl
  have r_0 : w1.cell? ⟨w.heap.size + 1, 0, none⟩ = some (.int .i64 0) := by rw [cell_of_block r]; rfl
  have r_1 : w1.cell? ⟨w.heap.size + 1, 1, none⟩ = some (.int .i64 0) := by rw [cell_of_block r]; rfl
  have r_2 : w1.cell? ⟨w.heap.size + 1, 2, none⟩ = some (.slice none 0 0) := by rw [cell_of_block r]; rfl
  have r_3 : w1.cell? ⟨w.heap.size + 1, 3, none⟩ = some (.int .i64 0) := by rw [cell_of_block r]; rfl
  have r_4 : w1.cell? ⟨w.heap.size + 1, 4, none⟩ = some (.int .i64 0) := by rw [cell_of_block r]; rfl
  have r_5 : w1.cell? ⟨w.heap.size + 1, 5, none⟩ = some (.slice none 0 0) := by rw [cell_of_block r]; rfl
  have r_f : ∀ i, w1.frozen? ⟨w.heap.size + 1, i, none⟩ = false := frozen_of_block r
  go_wp2_with fail
  refine (hV _ (by (repeat (first | exact Below.refl _ _ | assumption | refine Below.drew ?_ | refine below_drewN ?_ _ | refine balloc ?_ _ | refine Below.setCell ?_ (by first | (simp; done) | (simp; omega) | omega) _ | refine bchain (by assumption) ?_)))).mono ?_
  rintro e w2 ⟨rfl, hb2⟩
  have hB2 : Below w1.heap.size w1 w2 := by (repeat (first | exact Below.refl _ _ | assumption | refine Below.drew ?_ | refine below_drewN ?_ _ | refine balloc ?_ _ | refine Below.setCell ?_ (by first | (simp; done) | (simp; omega) | omega) _ | refine bchain (by assumption) ?_))
  have k0 := bblock hB2 k0
  have r := bblock hB2 r
  have tt : w2.heap[w1.heap.size]? = some (.cells #[.int .i64 hk, .int .i64 hc, .int .i64 hf] 23 (0, 0)) := bblock hb2 (by repeat (first | exact alloc_at _ (by simp) | refine alloc_lt _ ?_))
  have hw2 := bchain hB2 hw1
  have hp2 : w.heap.size + 2 ≤ w2.heap.size := by have := (Array.getElem?_eq_some_iff.1 r).1; omega
  clear hz_k0 hz_r
  have hz_k0 : w.heap.size < w2.heap.size := (Array.getElem?_eq_some_iff.1 k0).1
  have hz_r : w.heap.size + 1 < w2.heap.size := (Array.getElem?_eq_some_iff.1 r).1
  have hz_tt : w1.heap.size < w2.heap.size := (Array.getElem?_eq_some_iff.1 tt).1
  clear hB2
  clear k0_0 k0_1 k0_2 k0_3 k0_4 k0_5 r_0 r_1 r_2 r_3 r_4 r_5 r_f
  have k0_0 : w2.cell? ⟨w.heap.size, 0, none⟩ = some (.int .i64 0) := by rw [cell_of_block k0]; rfl
  have k0_1 : w2.cell? ⟨w.heap.size, 1, none⟩ = some (.int .i64 lo) := by rw [cell_of_block k0]; rfl
  have k0_2 : w2.cell? ⟨w.heap.size, 2, none⟩ = some (.slice aO nO cO) := by rw [cell_of_block k0]; rfl
  have k0_3 : w2.cell? ⟨w.heap.size, 3, none⟩ = some (.int .i64 16777216) := by rw [cell_of_block k0]; rfl
  have k0_4 : w2.cell? ⟨w.heap.size, 4, none⟩ = some (.int .i64 ly) := by rw [cell_of_block k0]; rfl
  have k0_5 : w2.cell? ⟨w.heap.size, 5, none⟩ = some (.slice aY nY cY) := by rw [cell_of_block k0]; rfl
  have r_0 : w2.cell? ⟨w.heap.size + 1, 0, none⟩ = some (.int .i64 0) := by rw [cell_of_block r]; rfl
  have r_1 : w2.cell? ⟨w.heap.size + 1, 1, none⟩ = some (.int .i64 0) := by rw [cell_of_block r]; rfl
  have r_2 : w2.cell? ⟨w.heap.size + 1, 2, none⟩ = some (.slice none 0 0) := by rw [cell_of_block r]; rfl
  have r_3 : w2.cell? ⟨w.heap.size + 1, 3, none⟩ = some (.int .i64 0) := by rw [cell_of_block r]; rfl
  have r_4 : w2.cell? ⟨w.heap.size + 1, 4, none⟩ = some (.int .i64 0) := by rw [cell_of_block r]; rfl
  have r_5 : w2.cell? ⟨w.heap.size + 1, 5, none⟩ = some (.slice none 0 0) := by rw [cell_of_block r]; rfl
  have r_f : ∀ i, w2.frozen? ⟨w.heap.size + 1, i, none⟩ = false := frozen_of_block r
  have tt_0 : w2.cell? ⟨w1.heap.size, 0, none⟩ = some (.int .i64 hk) := by rw [cell_of_block tt]; rfl
  have tt_1 : w2.cell? ⟨w1.heap.size, 1, none⟩ = some (.int .i64 hc) := by rw [cell_of_block tt]; rfl
  have tt_2 : w2.cell? ⟨w1.heap.size, 2, none⟩ = some (.int .i64 hf) := by rw [cell_of_block tt]; rfl
  go_wp2
  refine bodyPost_ret (v := .tuple #[.agg #[.int .i64 0, .int .i64 lo, .slice aO nO cO, .int .i64 16777216, .int .i64 ly, .slice aY nY cY], .int .i64 1]) (by simp [results, Try.results60, go_sem, k0_0, k0_1, k0_2, k0_3, k0_4, k0_5, r_0, r_1, r_2, r_3, r_4, r_5, r_f, tt_0, tt_1, tt_2, hz_k0, hz_r, hz_tt]) rfl ?_
  refine rnext_fin (w := w) (wk := w2) (mk := fun v => .tuple #[v, .int .i64 1]) hm (hmB _ hw2) ?_ (fun G e => .inl e) (fun G e => .inl e) ?_
  · (repeat (first | (with_reducible refine Mods.alloc ?_ _) | (with_reducible refine two_set ?_ _ _ _ (.inl rfl)) | (with_reducible refine two_set ?_ _ _ _ (.inr rfl)) | (with_reducible exact Mods.refl _ _)))
  · (repeat (first | (with_reducible refine balloc ?_ _) | (with_reducible refine below_set ?_ _ _ _ (Nat.le_refl _)) | (with_reducible refine below_set ?_ _ _ _ (Nat.le_add_right _ _)) | (with_reducible assumption)))
set_option maxRecDepth 100000 in
set_option maxHeartbeats 2000000 in
theorem rtofwd_y {w : World} {aO : Option Addr} {nO cO : Nat} {aY : Option Addr} {nY cY : Nat} {lo ly : Int} {wo wy : List Int} {gO gY : Option Nat} (hm : RMem w aO nO cO aY nY cY lo ly wo wy gO gY) (a t : Int) (he : HE wo wy a = 0) (h4 : HK wo wy a ≠ 4) (hr : RE wo wy t = 0) (hs : RA wo wy t ≠ a) :
    Calls Try.prog 60 #[.agg #[.int .i64 0, .int .i64 lo, .slice aO nO cO, .int .i64 16777216, .int .i64 ly, .slice aY nY cY], .int .i64 a, .int .i64 t] w (RNext w (fun v => .tuple #[v, .int .i64 0]) lo ly (wrM wo wy a 4 [faW t]).1 (wrM wo wy a 4 [faW t]).2 gO gY) := by
  have hH := fun W (h : Below w.heap.size w W) => rmhdr_any (hm.below h) a
  have hpu : ∀ x ∈ [faW t], U64 x := by
    intro x hx
    simp only [List.mem_cons, List.not_mem_nil, or_false] at hx
    rw [hx]
    exact faU t
  have hF := fun W => rfromaddr_any t W
  have hWr := fun (W : World) (H : Below w.heap.size w W) (G : Nat) (hG : G = W.heap.size) => rwrite_any (hm.below (balloc H (.cells #[.int .u64 (faW t)] 56))) a 4 (.inr rfl) G 1 [faW t] (fun i x hx => by rw [cell_of_block (alloc_at _ hG)]; rcases i with _ | i <;> simp at hx ⊢ <;> exact hx) hpu (by simp) (by omega) he
  have hV := fun W (h : Below w.heap.size w W) => rresolve_any (hm.below h) t
  have n4 : (HK wo wy a == 4) = false := by simpa using h4
  rw [he] at hH
  rw [hr] at hV
  generalize (wrM wo wy a 4 [faW t]).1 = wo2 at *
  generalize (wrM wo wy a 4 [faW t]).2 = wy2 at *
  generalize faW t = fw at *
  generalize faE t = fe at *
  generalize HK wo wy a = hk at *
  generalize HC wo wy a = hc at *
  generalize HF wo wy a = hf at *
  generalize RA wo wy t = ra at *
  have hb2 : (ra == a) = false := by simpa using hs
  clear he h4 hpu hr hs
  have hw0 : Below w.heap.size w w := Below.refl _ _
  go_enter Try.func60, Try.ntmps60
  go_wp2_with fail
  refine (hH _ (by (repeat (first | exact Below.refl _ _ | assumption | refine Below.drew ?_ | refine below_drewN ?_ _ | refine balloc ?_ _ | refine Below.setCell ?_ (by first | (simp; done) | (simp; omega) | omega) _ | refine bchain (by assumption) ?_)))).mono ?_
  rintro e w1 ⟨rfl, hb1⟩
  have hB1 : Below w.heap.size w w1 := by (repeat (first | exact Below.refl _ _ | assumption | refine Below.drew ?_ | refine below_drewN ?_ _ | refine balloc ?_ _ | refine Below.setCell ?_ (by first | (simp; done) | (simp; omega) | omega) _ | refine bchain (by assumption) ?_))
  have k0 : w1.heap[w.heap.size]? = some (.cells #[.int .i64 0, .int .i64 lo, .slice aO nO cO, .int .i64 16777216, .int .i64 ly, .slice aY nY cY] 35 (0, 0)) := bblock hb1 (by repeat (first | exact alloc_at _ (by simp) | refine alloc_lt _ ?_))
  have r : w1.heap[w.heap.size + 1]? = some (.cells #[.int .i64 0, .int .i64 0, .slice none 0 0, .int .i64 0, .int .i64 0, .slice none 0 0] 35 (0, 0)) := bblock hb1 (by repeat (first | exact alloc_at _ (by simp) | refine alloc_lt _ ?_))
  have hw1 := bchain hB1 hw0
  have hp1 : w.heap.size + 2 ≤ w1.heap.size := by have := (Array.getElem?_eq_some_iff.1 r).1; omega
  have hz_k0 : w.heap.size < w1.heap.size := (Array.getElem?_eq_some_iff.1 k0).1
  have hz_r : w.heap.size + 1 < w1.heap.size := (Array.getElem?_eq_some_iff.1 r).1
  clear hB1
  have k0_0 : w1.cell? ⟨w.heap.size, 0, none⟩ = some (.int .i64 0) := by rw [cell_of_block k0]; rfl
  have k0_1 : w1.cell? ⟨w.heap.size, 1, none⟩ = some (.int .i64 lo) := by rw [cell_of_block k0]; rfl
  have k0_2 : w1.cell? ⟨w.heap.size, 2, none⟩ = some (.slice aO nO cO) := by rw [cell_of_block k0]; rfl
  have k0_3 : w1.cell? ⟨w.heap.size, 3, none⟩ = some (.int .i64 16777216) := by rw [cell_of_block k0]; rfl
  have k0_4 : w1.cell? ⟨w.heap.size, 4, none⟩ = some (.int .i64 ly) := by rw [cell_of_block k0]; rfl
  have k0_5 : w1.cell? ⟨w.heap.size, 5, none⟩ = some (.slice aY nY cY) := by rw [cell_of_block k0]; rfl
  have r_0 : w1.cell? ⟨w.heap.size + 1, 0, none⟩ = some (.int .i64 0) := by rw [cell_of_block r]; rfl
  have r_1 : w1.cell? ⟨w.heap.size + 1, 1, none⟩ = some (.int .i64 0) := by rw [cell_of_block r]; rfl
  have r_2 : w1.cell? ⟨w.heap.size + 1, 2, none⟩ = some (.slice none 0 0) := by rw [cell_of_block r]; rfl
  have r_3 : w1.cell? ⟨w.heap.size + 1, 3, none⟩ = some (.int .i64 0) := by rw [cell_of_block r]; rfl
  have r_4 : w1.cell? ⟨w.heap.size + 1, 4, none⟩ = some (.int .i64 0) := by rw [cell_of_block r]; rfl
  have r_5 : w1.cell? ⟨w.heap.size + 1, 5, none⟩ = some (.slice none 0 0) := by rw [cell_of_block r]; rfl
  have r_f : ∀ i, w1.frozen? ⟨w.heap.size + 1, i, none⟩ = false := frozen_of_block r
  go_wp2_with fail
  refine (hV _ (by (repeat (first | exact Below.refl _ _ | assumption | refine Below.drew ?_ | refine below_drewN ?_ _ | refine balloc ?_ _ | refine Below.setCell ?_ (by first | (simp; done) | (simp; omega) | omega) _ | refine bchain (by assumption) ?_)))).mono ?_
  rintro e w2 ⟨rfl, hb2⟩
  have hB2 : Below w1.heap.size w1 w2 := by (repeat (first | exact Below.refl _ _ | assumption | refine Below.drew ?_ | refine below_drewN ?_ _ | refine balloc ?_ _ | refine Below.setCell ?_ (by first | (simp; done) | (simp; omega) | omega) _ | refine bchain (by assumption) ?_))
  have k0 := bblock hB2 k0
  have r := bblock hB2 r
  have t0 : w2.heap[w1.heap.size]? = some (.cells #[.int .i64 hk, .int .i64 hc, .int .i64 hf] 23 (0, 0)) := bblock hb2 (by repeat (first | exact alloc_at _ (by simp) | refine alloc_lt _ ?_))
  have hw2 := bchain hB2 hw1
  have hp2 : w.heap.size + 2 ≤ w2.heap.size := by have := (Array.getElem?_eq_some_iff.1 r).1; omega
  clear hz_k0 hz_r
  have hz_k0 : w.heap.size < w2.heap.size := (Array.getElem?_eq_some_iff.1 k0).1
  have hz_r : w.heap.size + 1 < w2.heap.size := (Array.getElem?_eq_some_iff.1 r).1
  have hz_t0 : w1.heap.size < w2.heap.size := (Array.getElem?_eq_some_iff.1 t0).1
  clear hB2
  clear k0_0 k0_1 k0_2 k0_3 k0_4 k0_5 r_0 r_1 r_2 r_3 r_4 r_5 r_f
  have k0_0 : w2.cell? ⟨w.heap.size, 0, none⟩ = some (.int .i64 0) := by rw [cell_of_block k0]; rfl
  have k0_1 : w2.cell? ⟨w.heap.size, 1, none⟩ = some (.int .i64 lo) := by rw [cell_of_block k0]; rfl
  have k0_2 : w2.cell? ⟨w.heap.size, 2, none⟩ = some (.slice aO nO cO) := by rw [cell_of_block k0]; rfl
  have k0_3 : w2.cell? ⟨w.heap.size, 3, none⟩ = some (.int .i64 16777216) := by rw [cell_of_block k0]; rfl
  have k0_4 : w2.cell? ⟨w.heap.size, 4, none⟩ = some (.int .i64 ly) := by rw [cell_of_block k0]; rfl
  have k0_5 : w2.cell? ⟨w.heap.size, 5, none⟩ = some (.slice aY nY cY) := by rw [cell_of_block k0]; rfl
  have r_0 : w2.cell? ⟨w.heap.size + 1, 0, none⟩ = some (.int .i64 0) := by rw [cell_of_block r]; rfl
  have r_1 : w2.cell? ⟨w.heap.size + 1, 1, none⟩ = some (.int .i64 0) := by rw [cell_of_block r]; rfl
  have r_2 : w2.cell? ⟨w.heap.size + 1, 2, none⟩ = some (.slice none 0 0) := by rw [cell_of_block r]; rfl
  have r_3 : w2.cell? ⟨w.heap.size + 1, 3, none⟩ = some (.int .i64 0) := by rw [cell_of_block r]; rfl
  have r_4 : w2.cell? ⟨w.heap.size + 1, 4, none⟩ = some (.int .i64 0) := by rw [cell_of_block r]; rfl
  have r_5 : w2.cell? ⟨w.heap.size + 1, 5, none⟩ = some (.slice none 0 0) := by rw [cell_of_block r]; rfl
  have r_f : ∀ i, w2.frozen? ⟨w.heap.size + 1, i, none⟩ = false := frozen_of_block r
  have t0_0 : w2.cell? ⟨w1.heap.size, 0, none⟩ = some (.int .i64 hk) := by rw [cell_of_block t0]; rfl
  have t0_1 : w2.cell? ⟨w1.heap.size, 1, none⟩ = some (.int .i64 hc) := by rw [cell_of_block t0]; rfl
  have t0_2 : w2.cell? ⟨w1.heap.size, 2, none⟩ = some (.int .i64 hf) := by rw [cell_of_block t0]; rfl
  go_wp2_with fail
  refine (hF _).mono ?_
  rintro e w3 ⟨rfl, hb3⟩
  have hB3 : Below w2.heap.size w2 w3 := by (repeat (first | exact Below.refl _ _ | assumption | refine Below.drew ?_ | refine below_drewN ?_ _ | refine balloc ?_ _ | refine Below.setCell ?_ (by first | (simp; done) | (simp; omega) | omega) _ | refine bchain (by assumption) ?_))
  have k0 := bblock hB3 k0
  have r := bblock hB3 r
  have t0 := bblock hB3 t0
  have hw3 := bchain hB3 hw2
  have hp3 : w.heap.size + 2 ≤ w3.heap.size := by have := (Array.getElem?_eq_some_iff.1 r).1; omega
  clear hz_k0 hz_r hz_t0
  have hz_k0 : w.heap.size < w3.heap.size := (Array.getElem?_eq_some_iff.1 k0).1
  have hz_r : w.heap.size + 1 < w3.heap.size := (Array.getElem?_eq_some_iff.1 r).1
  have hz_t0 : w1.heap.size < w3.heap.size := (Array.getElem?_eq_some_iff.1 t0).1
  clear hB3
  clear k0_0 k0_1 k0_2 k0_3 k0_4 k0_5 r_0 r_1 r_2 r_3 r_4 r_5 r_f t0_0 t0_1 t0_2
  have k0_0 : w3.cell? ⟨w.heap.size, 0, none⟩ = some (.int .i64 0) := by rw [cell_of_block k0]; rfl
  have k0_1 : w3.cell? ⟨w.heap.size, 1, none⟩ = some (.int .i64 lo) := by rw [cell_of_block k0]; rfl
  have k0_2 : w3.cell? ⟨w.heap.size, 2, none⟩ = some (.slice aO nO cO) := by rw [cell_of_block k0]; rfl
  have k0_3 : w3.cell? ⟨w.heap.size, 3, none⟩ = some (.int .i64 16777216) := by rw [cell_of_block k0]; rfl
  have k0_4 : w3.cell? ⟨w.heap.size, 4, none⟩ = some (.int .i64 ly) := by rw [cell_of_block k0]; rfl
  have k0_5 : w3.cell? ⟨w.heap.size, 5, none⟩ = some (.slice aY nY cY) := by rw [cell_of_block k0]; rfl
  have r_0 : w3.cell? ⟨w.heap.size + 1, 0, none⟩ = some (.int .i64 0) := by rw [cell_of_block r]; rfl
  have r_1 : w3.cell? ⟨w.heap.size + 1, 1, none⟩ = some (.int .i64 0) := by rw [cell_of_block r]; rfl
  have r_2 : w3.cell? ⟨w.heap.size + 1, 2, none⟩ = some (.slice none 0 0) := by rw [cell_of_block r]; rfl
  have r_3 : w3.cell? ⟨w.heap.size + 1, 3, none⟩ = some (.int .i64 0) := by rw [cell_of_block r]; rfl
  have r_4 : w3.cell? ⟨w.heap.size + 1, 4, none⟩ = some (.int .i64 0) := by rw [cell_of_block r]; rfl
  have r_5 : w3.cell? ⟨w.heap.size + 1, 5, none⟩ = some (.slice none 0 0) := by rw [cell_of_block r]; rfl
  have r_f : ∀ i, w3.frozen? ⟨w.heap.size + 1, i, none⟩ = false := frozen_of_block r
  have t0_0 : w3.cell? ⟨w1.heap.size, 0, none⟩ = some (.int .i64 hk) := by rw [cell_of_block t0]; rfl
  have t0_1 : w3.cell? ⟨w1.heap.size, 1, none⟩ = some (.int .i64 hc) := by rw [cell_of_block t0]; rfl
  have t0_2 : w3.cell? ⟨w1.heap.size, 2, none⟩ = some (.int .i64 hf) := by rw [cell_of_block t0]; rfl
  have hal0 : Below w.heap.size w w3 := hw3
  have hal := balloc hal0 (.cells #[.int .u64 fw] 56)
  have hsz : w.heap.size + 2 ≤ (World.alloc w3 (.cells #[.int .u64 fw] 56)).heap.size := by simp; omega
  have r0 : (World.alloc w3 (.cells #[.int .u64 fw] 56)).heap[w.heap.size + 1]? = some (.cells #[.int .i64 0, .int .i64 0, .slice none 0 0, .int .i64 0, .int .i64 0, .slice none 0 0] 35 (0, 0)) := (by repeat (first | exact r | refine alloc_lt _ ?_))
  go_wp2_with fail
  refine (hWr _ hal0 _ (by simp)).mono ?_
  rintro e w9 ⟨aO9, nO9, cO9, aY9, nY9, cY9, gO9, gY9, rfl, hR9, hgO9, hgY9, hb9⟩
  have hw9 := bchain hb9 hal
  have r := bblock hb9 r0
  have hz_r : w.heap.size + 1 < w9.heap.size := (Array.getElem?_eq_some_iff.1 r).1
  have hO9 : ∀ G, gO9 = some G → gO = some G ∨ w.heap.size + 2 ≤ G := fun G e => (hgO9 G e).imp id (fun h => by omega)
  have hY9 : ∀ G, gY9 = some G → gY = some G ∨ w.heap.size + 2 ≤ G := fun G e => (hgY9 G e).imp id (fun h => by omega)
  clear hgO9 hgY9 hb9 hal hal0 hsz hWr r0
  clear k0_0 k0_1 k0_2 k0_3 k0_4 k0_5 r_0 r_1 r_2 r_3 r_4 r_5 r_f t0_0 t0_1 t0_2
  have r_0 : w9.cell? ⟨w.heap.size + 1, 0, none⟩ = some (.int .i64 0) := by rw [cell_of_block r]; rfl
  have r_1 : w9.cell? ⟨w.heap.size + 1, 1, none⟩ = some (.int .i64 0) := by rw [cell_of_block r]; rfl
  have r_2 : w9.cell? ⟨w.heap.size + 1, 2, none⟩ = some (.slice none 0 0) := by rw [cell_of_block r]; rfl
  have r_3 : w9.cell? ⟨w.heap.size + 1, 3, none⟩ = some (.int .i64 0) := by rw [cell_of_block r]; rfl
  have r_4 : w9.cell? ⟨w.heap.size + 1, 4, none⟩ = some (.int .i64 0) := by rw [cell_of_block r]; rfl
  have r_5 : w9.cell? ⟨w.heap.size + 1, 5, none⟩ = some (.slice none 0 0) := by rw [cell_of_block r]; rfl
  have r_f : ∀ i, w9.frozen? ⟨w.heap.size + 1, i, none⟩ = false := frozen_of_block r
  go_wp2
  refine bodyPost_ret (v := .tuple #[.agg #[.int .i64 0, .int .i64 lo, .slice aO9 nO9 cO9, .int .i64 16777216, .int .i64 ly, .slice aY9 nY9 cY9], .int .i64 0]) (by simp [results, Try.results60, go_sem, r_0, r_1, r_2, r_3, r_4, r_5, r_f, hz_r]) rfl ?_
  refine rnext_fin (w := w) (wk := w9) (mk := fun v => .tuple #[v, .int .i64 0]) hm hR9 ?_ hO9 hY9 ?_
  · (repeat (first | (with_reducible refine Mods.alloc ?_ _) | (with_reducible refine two_set ?_ _ _ _ (.inl rfl)) | (with_reducible refine two_set ?_ _ _ _ (.inr rfl)) | (with_reducible exact Mods.refl _ _)))
  · (repeat (first | (with_reducible refine balloc ?_ _) | (with_reducible refine below_set ?_ _ _ _ (Nat.le_refl _)) | (with_reducible refine below_set ?_ _ _ _ (Nat.le_add_right _ _)) | (with_reducible assumption)))
theorem rtofwd_any {w : World} {aO : Option Addr} {nO cO : Nat} {aY : Option Addr} {nY cY : Nat} {lo ly : Int} {wo wy : List Int} {gO gY : Option Nat} (hm : RMem w aO nO cO aY nY cY lo ly wo wy gO gY) (a t : Int) : Calls Try.prog 60 #[.agg #[.int .i64 0, .int .i64 lo, .slice aO nO cO, .int .i64 16777216, .int .i64 ly, .slice aY nY cY], .int .i64 a, .int .i64 t] w (RNext w (fun v => .tuple #[v, .int .i64 (tfE wo wy a t)]) lo ly (tfM wo wy a t).1 (tfM wo wy a t).2 gO gY) := by
  by_cases he : HE wo wy a = 0
  · by_cases h4 : HK wo wy a = 4
    · have e0 : isE (fun k => k != 4) wo wy a = 7 := by rw [isE_of he]; simp [h4]
      have e : tfE wo wy a t = 7 := by unfold tfE; rw [e0, if_pos (by decide)]
      unfold tfM
      rw [e, if_neg (by decide)]
      exact rtofwd_4 hm a t he h4
    · have e0 : isE (fun k => k != 4) wo wy a = 0 := by rw [isE_of he]; simp [h4]
      by_cases hr : RE wo wy t = 0
      · by_cases hs : RA wo wy t = a
        · have hb : tfB wo wy a t = true := decide_eq_true (.inr hs)
          have e : tfE wo wy a t = 1 := by unfold tfE; rw [e0, if_neg (by decide), hb]; rfl
          unfold tfM
          rw [e, if_neg (by decide)]
          exact rtofwd_s hm a t he h4 hr hs
        · have hb : tfB wo wy a t = false := decide_eq_false (fun h => h.elim (fun h => h hr) hs)
          have e : tfE wo wy a t = 0 := by unfold tfE; rw [e0, if_neg (by decide), hb]; rfl
          unfold tfM
          rw [e, if_pos rfl]
          exact rtofwd_y hm a t he h4 hr hs
      · have hb : tfB wo wy a t = true := decide_eq_true (.inl hr)
        have e : tfE wo wy a t = 1 := by unfold tfE; rw [e0, if_neg (by decide), hb]; rfl
        unfold tfM
        rw [e, if_neg (by decide)]
        exact rtofwd_r hm a t he h4 hr
  · have e : tfE wo wy a t = HE wo wy a := by unfold tfE; rw [isE_bad he, if_pos he]
    unfold tfM
    rw [e, if_neg he]
    exact rtofwd_e hm a t he
end Go.Proofs.Ytcmhgjkijegpnaa
namespace Go.Proofs.Ytcmhgjkijegpnaa
open Go.RowKit
set_option linter.unusedSimpArgs false
set_option linter.unusedVariables false

def Four (w : World) : Nat → Prop := fun k => k = w.heap.size ∨ k = w.heap.size + 3
theorem four_set {w wk W : World} (h : Mods (Four w) wk W) (b off : Nat) (u : Value) (hb : b = w.heap.size ∨ b = w.heap.size + 3) : Mods (Four w) wk (W.setCell ⟨b, off, none⟩ u) := h.setCell (p := ⟨b, off, none⟩) (.inl hb) u
theorem rnext_fin4 {w wk W : World} {mk : Value → Value} {lo ly : Int} {wo wy wo' wy' : List Int} {gO gY gO' gY' : Option Nat} {aO : Option Addr} {nO cO : Nat} {aY : Option Addr} {nY cY : Nat} {aO' : Option Addr} {nO' cO' : Nat} {aY' : Option Addr} {nY' cY' : Nat}
    (hm : RMem w aO nO cO aY nY cY lo ly wo wy gO gY) (hk : RMem wk aO' nO' cO' aY' nY' cY' lo ly wo' wy' gO' gY') (hF : Mods (Four w) wk W) (hgO : ∀ G, gO' = some G → gO = some G ∨ w.heap.size + 4 ≤ G) (hgY : ∀ G, gY' = some G → gY = some G ∨ w.heap.size + 4 ≤ G) (hB : Below w.heap.size w W) :
    RNext w mk lo ly wo' wy' gO gY (.returned (mk (.agg #[.int .i64 0, .int .i64 lo, .slice aO' nO' cO', .int .i64 16777216, .int .i64 ly, .slice aY' nY' cY']))) W := by
  have l1 := hm.old.lt'
  have l2 := hm.yng.lt'
  refine ⟨aO', nO', cO', aY', nY', cY', gO', gY', rfl, ⟨hk.lO, hk.lY, hk.old.mods hF (fun G e => ?_), hk.yng.mods hF (fun G e => ?_), hk.okO, hk.okY, hk.lim⟩, fun G e => (hgO G e).imp id (fun h => by omega), fun G e => (hgY G e).imp id (fun h => by omega), hB⟩
  · rintro (h | h) <;> rcases hgO G e with h' | h' <;> first | omega | (have := l1 G h'; omega)
  · rintro (h | h) <;> rcases hgY G e with h' | h' <;> first | omega | (have := l2 G h'; omega)
set_option maxRecDepth 100000 in
set_option maxHeartbeats 2000000 in
theorem rmalloc_O {w : World} {aO : Option Addr} {nO cO : Nat} {aY : Option Addr} {nY cY : Nat} {lo ly : Int} {wo wy : List Int} {gO gY : Option Nat} (hm : RMem w aO nO cO aY nY cY lo ly wo wy gO gY) (k c f m s : Int) :
    Calls Try.prog 14 #[.agg #[.int .i64 0, .int .i64 lo, .slice aO nO cO, .int .i64 16777216, .int .i64 ly, .slice aY nY cY], .bool false, .agg #[.int .i64 k, .int .i64 c, .int .i64 f], .agg #[.int .i64 m, .int .i64 s]] w (RNext w (fun v => .tuple #[v, .int .i64 (alA 0 lo wo k c f m s), .int .i64 (alE 0 lo wo k c f m s)]) lo ly (alW 0 lo wo k c f m s) (wy) gO gY) := by
  have hS := fun W (H : Below w.heap.size w W) => ralloc_any (hm.below H).mdO hm.okO k c f m s
  have hk2 := alOk hm.okO k c f m s
  have hmB := fun W (H : Below w.heap.size w W) => hm.below H
  generalize alE 0 lo wo k c f m s = er at *
  generalize alA 0 lo wo k c f m s = ad at *
  generalize hw2 : alW 0 lo wo k c f m s = ws2 at *
  clear hw2
  have hw0 : Below w.heap.size w w := Below.refl _ _
  go_enter Try.func14, Try.ntmps14
  go_wp2_with fail
  refine (hS _ (by (repeat (first | exact Below.refl _ _ | assumption | refine Below.drew ?_ | refine below_drewN ?_ _ | refine balloc ?_ _ | refine Below.setCell ?_ (by first | (simp; done) | (simp; omega) | omega) _ | refine bchain (by assumption) ?_)))).mono ?_
  rintro e w1 ⟨v2, rfl, g2, hmd2, hg2, hb1⟩
  have hB1 : Below w.heap.size w w1 := by (repeat (first | exact Below.refl _ _ | assumption | refine Below.drew ?_ | refine below_drewN ?_ _ | refine balloc ?_ _ | refine Below.setCell ?_ (by first | (simp; done) | (simp; omega) | omega) _ | refine bchain (by assumption) ?_))
  have k0 : w1.heap[w.heap.size]? = some (.cells #[.int .i64 0, .int .i64 lo, .slice aO nO cO, .int .i64 16777216, .int .i64 ly, .slice aY nY cY] 35 (0, 0)) := bblock hb1 (by repeat (first | exact alloc_at _ (by simp) | refine alloc_lt _ ?_))
  have hb : w1.heap[w.heap.size + 1]? = some (.cells #[.int .i64 k, .int .i64 c, .int .i64 f] 23 (0, 0)) := bblock hb1 (by repeat (first | exact alloc_at _ (by simp) | refine alloc_lt _ ?_))
  have ib : w1.heap[w.heap.size + 2]? = some (.cells #[.int .i64 m, .int .i64 s] 25 (0, 0)) := bblock hb1 (by repeat (first | exact alloc_at _ (by simp) | refine alloc_lt _ ?_))
  have r : w1.heap[w.heap.size + 3]? = some (.cells #[.int .i64 0, .int .i64 0, .slice none 0 0, .int .i64 0, .int .i64 0, .slice none 0 0] 35 (0, 0)) := bblock hb1 (by repeat (first | exact alloc_at _ (by simp) | refine alloc_lt _ ?_))
  have hw1 := bchain hB1 hw0
  have hp1 : w.heap.size + 4 ≤ w1.heap.size := by have := (Array.getElem?_eq_some_iff.1 r).1; omega
  have hz_k0 : w.heap.size < w1.heap.size := (Array.getElem?_eq_some_iff.1 k0).1
  have hz_hb : w.heap.size + 1 < w1.heap.size := (Array.getElem?_eq_some_iff.1 hb).1
  have hz_ib : w.heap.size + 2 < w1.heap.size := (Array.getElem?_eq_some_iff.1 ib).1
  have hz_r : w.heap.size + 3 < w1.heap.size := (Array.getElem?_eq_some_iff.1 r).1
  clear hB1
  have hmd3 := hmd2
  obtain ⟨A2, c2, rfl, hr2⟩ := hmd2
  have hgl : ∀ G, g2 = some G → gO = some G ∨ w.heap.size + 4 ≤ G := fun G e => (hg2 G e).imp id (fun h => by simp at h; omega)
  have hmk := hmB _ hw1
  generalize hL : ws2.length = N2 at *
  have HL := Lib.hid hL
  have k0_0 : w1.cell? ⟨w.heap.size, 0, none⟩ = some (.int .i64 0) := by rw [cell_of_block k0]; rfl
  have k0_1 : w1.cell? ⟨w.heap.size, 1, none⟩ = some (.int .i64 lo) := by rw [cell_of_block k0]; rfl
  have k0_2 : w1.cell? ⟨w.heap.size, 2, none⟩ = some (.slice aO nO cO) := by rw [cell_of_block k0]; rfl
  have k0_3 : w1.cell? ⟨w.heap.size, 3, none⟩ = some (.int .i64 16777216) := by rw [cell_of_block k0]; rfl
  have k0_4 : w1.cell? ⟨w.heap.size, 4, none⟩ = some (.int .i64 ly) := by rw [cell_of_block k0]; rfl
  have k0_5 : w1.cell? ⟨w.heap.size, 5, none⟩ = some (.slice aY nY cY) := by rw [cell_of_block k0]; rfl
  have k0_f : ∀ i, w1.frozen? ⟨w.heap.size, i, none⟩ = false := frozen_of_block k0
  have hb_0 : w1.cell? ⟨w.heap.size + 1, 0, none⟩ = some (.int .i64 k) := by rw [cell_of_block hb]; rfl
  have hb_1 : w1.cell? ⟨w.heap.size + 1, 1, none⟩ = some (.int .i64 c) := by rw [cell_of_block hb]; rfl
  have hb_2 : w1.cell? ⟨w.heap.size + 1, 2, none⟩ = some (.int .i64 f) := by rw [cell_of_block hb]; rfl
  have ib_0 : w1.cell? ⟨w.heap.size + 2, 0, none⟩ = some (.int .i64 m) := by rw [cell_of_block ib]; rfl
  have ib_1 : w1.cell? ⟨w.heap.size + 2, 1, none⟩ = some (.int .i64 s) := by rw [cell_of_block ib]; rfl
  have r_0 : w1.cell? ⟨w.heap.size + 3, 0, none⟩ = some (.int .i64 0) := by rw [cell_of_block r]; rfl
  have r_1 : w1.cell? ⟨w.heap.size + 3, 1, none⟩ = some (.int .i64 0) := by rw [cell_of_block r]; rfl
  have r_2 : w1.cell? ⟨w.heap.size + 3, 2, none⟩ = some (.slice none 0 0) := by rw [cell_of_block r]; rfl
  have r_3 : w1.cell? ⟨w.heap.size + 3, 3, none⟩ = some (.int .i64 0) := by rw [cell_of_block r]; rfl
  have r_4 : w1.cell? ⟨w.heap.size + 3, 4, none⟩ = some (.int .i64 0) := by rw [cell_of_block r]; rfl
  have r_5 : w1.cell? ⟨w.heap.size + 3, 5, none⟩ = some (.slice none 0 0) := by rw [cell_of_block r]; rfl
  have r_f : ∀ i, w1.frozen? ⟨w.heap.size + 3, i, none⟩ = false := frozen_of_block r
  have hRM : RMem w1 A2 N2 c2 aY nY cY lo ly ws2 wy g2 gY := ⟨hL, hmk.lY, hr2, hmk.yng, hk2, hmk.okY, hmk.lim⟩
  clear hL hr2 hmd3 hmk hS hmB hg2
  go_wp2
  refine bodyPost_ret (v := .tuple #[.agg #[.int .i64 0, .int .i64 lo, .slice A2 N2 c2, .int .i64 16777216, .int .i64 ly, .slice aY nY cY], .int .i64 ad, .int .i64 er]) (by simp [results, Try.results14, go_sem, k0_0, k0_1, k0_2, k0_3, k0_4, k0_5, k0_f, hb_0, hb_1, hb_2, ib_0, ib_1, r_0, r_1, r_2, r_3, r_4, r_5, r_f, hz_k0, hz_hb, hz_ib, hz_r]) rfl ?_
  refine rnext_fin4 (w := w) (wk := w1) (mk := fun v => .tuple #[v, .int .i64 ad, .int .i64 er]) hm hRM ?_ hgl (fun G e => .inl e) ?_
  · (repeat (first | (with_reducible refine Mods.alloc ?_ _) | (with_reducible refine four_set ?_ _ _ _ (.inl rfl)) | (with_reducible refine four_set ?_ _ _ _ (.inr rfl)) | (with_reducible exact Mods.refl _ _)))
  · (repeat (first | (with_reducible refine balloc ?_ _) | (with_reducible refine below_set ?_ _ _ _ (by omega)) | (with_reducible assumption)))
set_option maxRecDepth 100000 in
set_option maxHeartbeats 2000000 in
theorem rmalloc_Y {w : World} {aO : Option Addr} {nO cO : Nat} {aY : Option Addr} {nY cY : Nat} {lo ly : Int} {wo wy : List Int} {gO gY : Option Nat} (hm : RMem w aO nO cO aY nY cY lo ly wo wy gO gY) (k c f m s : Int) :
    Calls Try.prog 14 #[.agg #[.int .i64 0, .int .i64 lo, .slice aO nO cO, .int .i64 16777216, .int .i64 ly, .slice aY nY cY], .bool true, .agg #[.int .i64 k, .int .i64 c, .int .i64 f], .agg #[.int .i64 m, .int .i64 s]] w (RNext w (fun v => .tuple #[v, .int .i64 (alA 16777216 ly wy k c f m s), .int .i64 (alE 16777216 ly wy k c f m s)]) lo ly (wo) (alW 16777216 ly wy k c f m s) gO gY) := by
  have hS := fun W (H : Below w.heap.size w W) => ralloc_any (hm.below H).mdY hm.okY k c f m s
  have hk2 := alOk hm.okY k c f m s
  have hmB := fun W (H : Below w.heap.size w W) => hm.below H
  generalize alE 16777216 ly wy k c f m s = er at *
  generalize alA 16777216 ly wy k c f m s = ad at *
  generalize hw2 : alW 16777216 ly wy k c f m s = ws2 at *
  clear hw2
  have hw0 : Below w.heap.size w w := Below.refl _ _
  go_enter Try.func14, Try.ntmps14
  go_wp2_with fail
  refine (hS _ (by (repeat (first | exact Below.refl _ _ | assumption | refine Below.drew ?_ | refine below_drewN ?_ _ | refine balloc ?_ _ | refine Below.setCell ?_ (by first | (simp; done) | (simp; omega) | omega) _ | refine bchain (by assumption) ?_)))).mono ?_
  rintro e w1 ⟨v2, rfl, g2, hmd2, hg2, hb1⟩
  have hB1 : Below w.heap.size w w1 := by (repeat (first | exact Below.refl _ _ | assumption | refine Below.drew ?_ | refine below_drewN ?_ _ | refine balloc ?_ _ | refine Below.setCell ?_ (by first | (simp; done) | (simp; omega) | omega) _ | refine bchain (by assumption) ?_))
  have k0 : w1.heap[w.heap.size]? = some (.cells #[.int .i64 0, .int .i64 lo, .slice aO nO cO, .int .i64 16777216, .int .i64 ly, .slice aY nY cY] 35 (0, 0)) := bblock hb1 (by repeat (first | exact alloc_at _ (by simp) | refine alloc_lt _ ?_))
  have hb : w1.heap[w.heap.size + 1]? = some (.cells #[.int .i64 k, .int .i64 c, .int .i64 f] 23 (0, 0)) := bblock hb1 (by repeat (first | exact alloc_at _ (by simp) | refine alloc_lt _ ?_))
  have ib : w1.heap[w.heap.size + 2]? = some (.cells #[.int .i64 m, .int .i64 s] 25 (0, 0)) := bblock hb1 (by repeat (first | exact alloc_at _ (by simp) | refine alloc_lt _ ?_))
  have r : w1.heap[w.heap.size + 3]? = some (.cells #[.int .i64 0, .int .i64 0, .slice none 0 0, .int .i64 0, .int .i64 0, .slice none 0 0] 35 (0, 0)) := bblock hb1 (by repeat (first | exact alloc_at _ (by simp) | refine alloc_lt _ ?_))
  have hw1 := bchain hB1 hw0
  have hp1 : w.heap.size + 4 ≤ w1.heap.size := by have := (Array.getElem?_eq_some_iff.1 r).1; omega
  have hz_k0 : w.heap.size < w1.heap.size := (Array.getElem?_eq_some_iff.1 k0).1
  have hz_hb : w.heap.size + 1 < w1.heap.size := (Array.getElem?_eq_some_iff.1 hb).1
  have hz_ib : w.heap.size + 2 < w1.heap.size := (Array.getElem?_eq_some_iff.1 ib).1
  have hz_r : w.heap.size + 3 < w1.heap.size := (Array.getElem?_eq_some_iff.1 r).1
  clear hB1
  have hmd3 := hmd2
  obtain ⟨A2, c2, rfl, hr2⟩ := hmd2
  have hgl : ∀ G, g2 = some G → gY = some G ∨ w.heap.size + 4 ≤ G := fun G e => (hg2 G e).imp id (fun h => by simp at h; omega)
  have hmk := hmB _ hw1
  generalize hL : ws2.length = N2 at *
  have HL := Lib.hid hL
  have k0_0 : w1.cell? ⟨w.heap.size, 0, none⟩ = some (.int .i64 0) := by rw [cell_of_block k0]; rfl
  have k0_1 : w1.cell? ⟨w.heap.size, 1, none⟩ = some (.int .i64 lo) := by rw [cell_of_block k0]; rfl
  have k0_2 : w1.cell? ⟨w.heap.size, 2, none⟩ = some (.slice aO nO cO) := by rw [cell_of_block k0]; rfl
  have k0_3 : w1.cell? ⟨w.heap.size, 3, none⟩ = some (.int .i64 16777216) := by rw [cell_of_block k0]; rfl
  have k0_4 : w1.cell? ⟨w.heap.size, 4, none⟩ = some (.int .i64 ly) := by rw [cell_of_block k0]; rfl
  have k0_5 : w1.cell? ⟨w.heap.size, 5, none⟩ = some (.slice aY nY cY) := by rw [cell_of_block k0]; rfl
  have k0_f : ∀ i, w1.frozen? ⟨w.heap.size, i, none⟩ = false := frozen_of_block k0
  have hb_0 : w1.cell? ⟨w.heap.size + 1, 0, none⟩ = some (.int .i64 k) := by rw [cell_of_block hb]; rfl
  have hb_1 : w1.cell? ⟨w.heap.size + 1, 1, none⟩ = some (.int .i64 c) := by rw [cell_of_block hb]; rfl
  have hb_2 : w1.cell? ⟨w.heap.size + 1, 2, none⟩ = some (.int .i64 f) := by rw [cell_of_block hb]; rfl
  have ib_0 : w1.cell? ⟨w.heap.size + 2, 0, none⟩ = some (.int .i64 m) := by rw [cell_of_block ib]; rfl
  have ib_1 : w1.cell? ⟨w.heap.size + 2, 1, none⟩ = some (.int .i64 s) := by rw [cell_of_block ib]; rfl
  have r_0 : w1.cell? ⟨w.heap.size + 3, 0, none⟩ = some (.int .i64 0) := by rw [cell_of_block r]; rfl
  have r_1 : w1.cell? ⟨w.heap.size + 3, 1, none⟩ = some (.int .i64 0) := by rw [cell_of_block r]; rfl
  have r_2 : w1.cell? ⟨w.heap.size + 3, 2, none⟩ = some (.slice none 0 0) := by rw [cell_of_block r]; rfl
  have r_3 : w1.cell? ⟨w.heap.size + 3, 3, none⟩ = some (.int .i64 0) := by rw [cell_of_block r]; rfl
  have r_4 : w1.cell? ⟨w.heap.size + 3, 4, none⟩ = some (.int .i64 0) := by rw [cell_of_block r]; rfl
  have r_5 : w1.cell? ⟨w.heap.size + 3, 5, none⟩ = some (.slice none 0 0) := by rw [cell_of_block r]; rfl
  have r_f : ∀ i, w1.frozen? ⟨w.heap.size + 3, i, none⟩ = false := frozen_of_block r
  have hRM : RMem w1 aO nO cO A2 N2 c2 lo ly wo ws2 gO g2 := ⟨hmk.lO, hL, hmk.old, hr2, hmk.okO, hk2, hmk.lim⟩
  clear hL hr2 hmd3 hmk hS hmB hg2
  go_wp2
  refine bodyPost_ret (v := .tuple #[.agg #[.int .i64 0, .int .i64 lo, .slice aO nO cO, .int .i64 16777216, .int .i64 ly, .slice A2 N2 c2], .int .i64 ad, .int .i64 er]) (by simp [results, Try.results14, go_sem, k0_0, k0_1, k0_2, k0_3, k0_4, k0_5, k0_f, hb_0, hb_1, hb_2, ib_0, ib_1, r_0, r_1, r_2, r_3, r_4, r_5, r_f, hz_k0, hz_hb, hz_ib, hz_r]) rfl ?_
  refine rnext_fin4 (w := w) (wk := w1) (mk := fun v => .tuple #[v, .int .i64 ad, .int .i64 er]) hm hRM ?_ (fun G e => .inl e) hgl ?_
  · (repeat (first | (with_reducible refine Mods.alloc ?_ _) | (with_reducible refine four_set ?_ _ _ _ (.inl rfl)) | (with_reducible refine four_set ?_ _ _ _ (.inr rfl)) | (with_reducible exact Mods.refl _ _)))
  · (repeat (first | (with_reducible refine balloc ?_ _) | (with_reducible refine below_set ?_ _ _ _ (by omega)) | (with_reducible assumption)))
/-- Alloc, at every input. -/
def amE (lo ly : Int) (wo wy : List Int) (y : Bool) (k c f m s : Int) : Int := if y then alE 16777216 ly wy k c f m s else alE 0 lo wo k c f m s
def amA (lo ly : Int) (wo wy : List Int) (y : Bool) (k c f m s : Int) : Int := if y then alA 16777216 ly wy k c f m s else alA 0 lo wo k c f m s
def amO (lo : Int) (wo : List Int) (y : Bool) (k c f m s : Int) : List Int := if y then wo else alW 0 lo wo k c f m s
def amY (ly : Int) (wy : List Int) (y : Bool) (k c f m s : Int) : List Int := if y then alW 16777216 ly wy k c f m s else wy
theorem rmalloc_any {w : World} {aO : Option Addr} {nO cO : Nat} {aY : Option Addr} {nY cY : Nat} {lo ly : Int} {wo wy : List Int} {gO gY : Option Nat} (hm : RMem w aO nO cO aY nY cY lo ly wo wy gO gY) (y : Bool) (k c f m s : Int) : Calls Try.prog 14 #[.agg #[.int .i64 0, .int .i64 lo, .slice aO nO cO, .int .i64 16777216, .int .i64 ly, .slice aY nY cY], .bool y, .agg #[.int .i64 k, .int .i64 c, .int .i64 f], .agg #[.int .i64 m, .int .i64 s]] w (RNext w (fun v => .tuple #[v, .int .i64 (amA lo ly wo wy y k c f m s), .int .i64 (amE lo ly wo wy y k c f m s)]) lo ly (amO lo wo y k c f m s) (amY ly wy y k c f m s) gO gY) := by
  unfold amE amA amO amY
  cases y
  · exact rmalloc_O hm k c f m s
  · exact rmalloc_Y hm k c f m s
end Go.Proofs.Ytcmhgjkijegpnaa
namespace Go.Proofs.Ytcmhgjkijegpnaa
open Go.RowKit
set_option linter.unusedSimpArgs false
set_option linter.unusedVariables false

/-- The limit of a new memory. -/
def nmL (limit : Int) : Int := if limit < 0 then 0 else if limit ≤ 16777216 then limit else 16777216
theorem nmL_bd (limit : Int) : 0 ≤ nmL limit ∧ nmL limit ≤ 16777216 := by unfold nmL; split <;> (try split) <;> omega
theorem newLm_at {b L : Int} (h0 : 0 ≤ b) (h1 : 0 ≤ L) (h2 : L ≤ 16777216) (h3 : b ≤ 16777216) : newLm b (b + L) = b + L := by unfold newLm; omega
theorem new_ok {b L : Int} (h0 : 0 ≤ b) (h1 : 0 ≤ L) (h2 : L ≤ 16777216) (h3 : b ≤ 16777216) : SpOk b (b + L) [] := ⟨h0, by simp; omega, by omega, fun x h => by cases h⟩
theorem space_made {w : World} {k : Nat} {b lm : Int} (h : w.heap[k]? = some (.cells #[.int .i64 b, .int .i64 lm, .slice none 0 0] 88 (0, 0))) : SpAt w k b lm [] none := ⟨none, 0, h, ⟨by simp, by omega, .inl ⟨rfl, rfl⟩⟩, by simp⟩
theorem mem_made {w : World} {b1 b2 : Nat} {L : Int} (h0 : 0 ≤ L) (h1 : L ≤ 16777216) (h : w.heap[b1]? = some (.cells #[.int .i64 0, .int .i64 L, .slice none 0 0] 88 (0, 0))) (h' : w.heap[b2]? = some (.cells #[.int .i64 16777216, .int .i64 (16777216 + L), .slice none 0 0] 88 (0, 0))) (hn : b1 ≠ b2) : MemAt w b1 b2 L (16777216 + L) [] [] none none :=
  ⟨space_made h, space_made h', (by have := new_ok (b := 0) (by omega) h0 h1 (by omega); rwa [show (0 : Int) + L = L by omega] at this), new_ok (by omega) h0 h1 (by omega), h1, hn, by simp, by simp, by simp⟩
def NewMem (w : World) (L : Int) (e : Ending) (w' : World) : Prop := ∃ b1 b2, w.heap.size ≤ b1 ∧ w.heap.size ≤ b2 ∧ e = .returned (.agg #[.pointer (some ⟨b1, 0, none⟩), .pointer (some ⟨b2, 0, none⟩)]) ∧ MemAt w' b1 b2 L (16777216 + L) [] [] none none ∧ Below w.heap.size w w'
set_option maxRecDepth 100000 in
set_option maxHeartbeats 1000000 in
theorem onew_any (limit : Int) (w : World) : Calls Try.prog 10 #[.int .i64 limit] w (NewMem w (nmL limit)) := by
  obtain ⟨l0, l1⟩ := nmL_bd limit
  have hX : min (max limit 0) 16777216 = nmL limit := by unfold nmL; split <;> (try split) <;> omega
  generalize nmL limit = L at *
  have n1 := fun W => new_any 0 L W
  have n2 := fun W => new_any 16777216 (16777216 + L) W
  rw [show max (0 : Int) 0 = 0 by decide, show newLm 0 L = L by have := newLm_at (b := 0) (by omega) l0 l1 (by omega); rwa [show (0 : Int) + L = L by omega] at this] at n1
  rw [show max (16777216 : Int) 0 = 16777216 by decide, newLm_at (by omega) l0 l1 (by omega)] at n2
  have hm := fun (W : World) => mem_made (w := W) (b1 := w.heap.size + 1) (b2 := w.heap.size + 2) l0 l1
  go_enter Try.func10, Try.ntmps10
  go_wp2_with fail
  refine (n1 _).mono ?_
  rintro e _ ⟨rfl, rfl⟩
  go_wp2_with fail
  refine (n2 _).mono ?_
  rintro e _ ⟨rfl, rfl⟩
  go_wp2
  refine bodyPost_ret (v := .agg #[.pointer (some ⟨w.heap.size + 1, 0, none⟩), .pointer (some ⟨w.heap.size + 2, 0, none⟩)]) (by simp [results, Try.results10, go_sem]) rfl ?_
  refine ⟨w.heap.size + 1, w.heap.size + 2, by omega, by omega, rfl, hm _ ?_ ?_ (by omega), by (repeat (first | exact Below.refl _ _ | assumption | refine Below.drew ?_ | refine below_drewN ?_ _ | refine balloc ?_ _ | refine Below.setCell ?_ (by first | (simp; done) | (simp; omega) | omega) _ | refine bchain (by assumption) ?_))⟩
  · repeat (first | exact alloc_at _ (by simp) | refine alloc_lt _ ?_)
  · repeat (first | exact alloc_at _ (by simp) | refine alloc_lt _ ?_)
def RNew (w : World) (L : Int) (e : Ending) (w' : World) : Prop := ∃ (aO : Option Addr) (cO : Nat) (aY : Option Addr) (cY : Nat), e = .returned (.agg #[.int .i64 0, .int .i64 L, .slice aO 0 cO, .int .i64 16777216, .int .i64 (16777216 + L), .slice aY 0 cY]) ∧ RMem w' aO 0 cO aY 0 cY L (16777216 + L) [] [] none none ∧ Below w.heap.size w w'
set_option maxRecDepth 100000 in
set_option maxHeartbeats 1000000 in
theorem rmnew_any (limit : Int) (w : World) : Calls Try.prog 11 #[.int .i64 limit] w (RNew w (nmL limit)) := by
  obtain ⟨l0, l1⟩ := nmL_bd limit
  have hX : max 0 (min limit 16777216) = nmL limit := by unfold nmL; split <;> (try split) <;> omega
  generalize nmL limit = L at *
  have n1 := fun W => rnew_any 0 L W
  have n2 := fun W => rnew_any 16777216 (16777216 + L) W
  rw [show max (0 : Int) 0 = 0 by decide, show newLm 0 L = L by have := newLm_at (b := 0) (by omega) l0 l1 (by omega); rwa [show (0 : Int) + L = L by omega] at this] at n1
  rw [show max (16777216 : Int) 0 = 16777216 by decide, newLm_at (by omega) l0 l1 (by omega)] at n2
  have ok1 : SpOk 0 L [] := by have := new_ok (b := 0) (by omega) l0 l1 (by omega); rwa [show (0 : Int) + L = L by omega] at this
  have ok2 : SpOk 16777216 (16777216 + L) [] := new_ok (by omega) l0 l1 (by omega)
  go_enter Try.func11, Try.ntmps11
  go_wp2_with fail
  refine (n1 _).mono ?_
  rintro e w1 ⟨⟨v1, rfl, hv1⟩, hb1⟩
  obtain ⟨aO, cO, rfl, hrO⟩ := hv1
  have r := bblock hb1 (alloc_at (w := w) (.cells #[.int .i64 0, .int .i64 0, .slice none 0 0, .int .i64 0, .int .i64 0, .slice none 0 0] 35) (k := w.heap.size) rfl)
  have hw1 : Below w.heap.size w w1 := by (repeat (first | exact Below.refl _ _ | assumption | refine Below.drew ?_ | refine below_drewN ?_ _ | refine balloc ?_ _ | refine Below.setCell ?_ (by first | (simp; done) | (simp; omega) | omega) _ | refine bchain (by assumption) ?_))
  have HO := Lib.hid hrO
  clear hrO hb1
  go_wp2_with fail
  refine (n2 _).mono ?_
  rintro e w2 ⟨⟨v2, rfl, hv2⟩, hb2⟩
  obtain ⟨aY, cY, rfl, hrY⟩ := hv2
  have r := bblock hb2 r
  have hw2 := bchain hb2 hw1
  have hRM : RMem w2 aO 0 cO aY 0 cY L (16777216 + L) [] [] none none := ⟨rfl, rfl, HO.out.keep (fun G o e => by cases e), hrY, ok1, ok2, l1⟩
  clear hrY HO hb2 n1 n2
  have r_0 : w2.cell? ⟨w.heap.size, 0, none⟩ = some (.int .i64 0) := by rw [cell_of_block r]; rfl
  have r_1 : w2.cell? ⟨w.heap.size, 1, none⟩ = some (.int .i64 0) := by rw [cell_of_block r]; rfl
  have r_2 : w2.cell? ⟨w.heap.size, 2, none⟩ = some (.slice none 0 0) := by rw [cell_of_block r]; rfl
  have r_3 : w2.cell? ⟨w.heap.size, 3, none⟩ = some (.int .i64 0) := by rw [cell_of_block r]; rfl
  have r_4 : w2.cell? ⟨w.heap.size, 4, none⟩ = some (.int .i64 0) := by rw [cell_of_block r]; rfl
  have r_5 : w2.cell? ⟨w.heap.size, 5, none⟩ = some (.slice none 0 0) := by rw [cell_of_block r]; rfl
  have r_f : ∀ i, w2.frozen? ⟨w.heap.size, i, none⟩ = false := frozen_of_block r
  have hz_r : w.heap.size < w2.heap.size := (Array.getElem?_eq_some_iff.1 r).1
  go_wp2
  refine bodyPost_ret (v := .agg #[.int .i64 0, .int .i64 L, .slice aO 0 cO, .int .i64 16777216, .int .i64 (16777216 + L), .slice aY 0 cY]) (by simp [results, Try.results11, go_sem, r_0, r_1, r_2, r_3, r_4, r_5, hz_r]) rfl ?_
  refine ⟨aO, cO, aY, cY, rfl, ⟨rfl, rfl, hRM.old.keep (fun G o e => by cases e), hRM.yng.keep (fun G o e => by cases e), ok1, ok2, l1⟩, ?_⟩
  (repeat (first | (with_reducible refine balloc ?_ _) | (with_reducible refine below_set ?_ _ _ _ (Nat.le_refl _)) | (with_reducible refine below_set ?_ _ _ _ (Nat.le_add_right _ _)) | (with_reducible assumption)))
end Go.Proofs.Ytcmhgjkijegpnaa
namespace Go.Proofs.Ytcmhgjkijegpnaa
open Go.RowKit
set_option linter.unusedSimpArgs false
set_option linter.unusedVariables false

theorem mem_old' {w : World} {bO bY : Nat} {lo ly : Int} {wo wy : List Int} {gO gY : Option Nat} (hm : MemAt w bO bY lo ly wo wy gO gY) {w' : World} {wo' : List Int} (hn : SpNext w bO 0 lo wo' gO w') (hk : SpOk 0 lo wo') : ∃ gO', MemAt w' bO bY lo ly wo' wy gO' gY ∧ Mods (MS bO bY gO gY) w w' ∧ (∀ G, gO' = some G → gO = some G ∨ w.heap.size ≤ G) := by
  obtain ⟨g', hs, hM, hg⟩ := hn
  have l1 := hm.yng.lt
  have l2 := hm.yng.glt
  refine ⟨g', ⟨hs, hm.yng.mods hM (not_sps (Ne.symm hm.bb) (fun G e => fun h => hm.gb (by rw [e, h]))) (fun G e => not_sps (fun h => hm.bg (by rw [e, h])) (fun G' e' h => hm.gg G' e' (by rw [e, h]))), hk, hm.okY, hm.lim, hm.bb, fun e => ?_, hm.bg, fun G e e' => ?_⟩, hM.mono (fun k hk => .inl hk), hg⟩
  · rcases hg _ e with h | h
    · exact hm.gb h
    · omega
  · rcases hg _ e with h | h
    · exact hm.gg G h e'
    · have := l2 G e'; omega
theorem mem_yng' {w : World} {bO bY : Nat} {lo ly : Int} {wo wy : List Int} {gO gY : Option Nat} (hm : MemAt w bO bY lo ly wo wy gO gY) {w' : World} {wy' : List Int} (hn : SpNext w bY 16777216 ly wy' gY w') (hk : SpOk 16777216 ly wy') : ∃ gY', MemAt w' bO bY lo ly wo wy' gO gY' ∧ Mods (MS bO bY gO gY) w w' ∧ (∀ G, gY' = some G → gY = some G ∨ w.heap.size ≤ G) := by
  obtain ⟨g', hs, hM, hg⟩ := hn
  have l1 := hm.old.lt
  have l2 := hm.old.glt
  refine ⟨g', ⟨hm.old.mods hM (not_sps hm.bb (fun G e => fun h => hm.bg (by rw [e, h]))) (fun G e => not_sps (fun h => hm.gb (by rw [e, h])) (fun G' e' h => hm.gg G e (by rw [e', h]))), hs, hm.okO, hk, hm.lim, hm.bb, hm.gb, fun e => ?_, fun G e e' => ?_⟩, hM.mono (fun k hk => .inr hk), hg⟩
  · rcases hg _ e with h | h
    · exact hm.bg h
    · omega
  · rcases hg _ e' with h | h
    · exact hm.gg G e h
    · have := l2 G e; omega
theorem aw1 : nmL 100 = 100 := by decide
theorem aw2 : alA 0 100 [] 0 1 3 1 1 = 0 ∧ alE 0 100 [] 0 1 3 1 1 = 0 := by decide
def awO1 : List Int := alW 0 100 [] 0 1 3 1 1
def awO2 : List Int := sfO awO1 [] 0 2 5
def awO3 : List Int := (tsM awO2 [] 0 2 9).1
theorem aw3 : sfE awO1 [] 0 2 = 0 ∧ sfY awO1 [] 0 2 5 = [] := by decide
theorem aw4 : LD awO2 [] 4 = 5 ∧ LE awO2 [] 4 = 0 := by decide
theorem aw5 : tsE awO2 [] 0 2 = 0 ∧ (tsM awO2 [] 0 2 9).2 = [] := by decide
theorem aw6a : sbE awO3 [] 0 = 0 := by decide
theorem aw6 : sbN awO3 [] 0 = 2 ∧ sbU awO3 [] 0 = 9 ∧ sbE awO3 [] 0 = 0 := by
  refine ⟨?_, by decide, aw6a⟩
  unfold sbN
  rw [if_pos aw6a, show LD awO3 [] (0 + 2) = 2 by decide]
  unfold wrap64; omega
theorem aw7 : LD awO3 [] 4 = 0 ∧ LE awO3 [] 4 = 0 ∧ LD awO3 [] 3 = 9 ∧ LE awO3 [] 3 = 0 := by decide
end Go.Proofs.Ytcmhgjkijegpnaa
namespace Go.Proofs.Ytcmhgjkijegpnaa
open Go.RowKit
set_option linter.unusedSimpArgs false
set_option linter.unusedVariables false

set_option maxRecDepth 100000 in
set_option maxHeartbeats 2000000 in
theorem awake7 (w : World) : Calls Try.prog 9 #[] w fun e w' => e = .returned (.bool true) ∧ Below w.heap.size w w' := by
  have n1 := fun W => onew_any 100 W
  rw [aw1] at n1
  go_enter Try.func9, Try.ntmps9
  go_wp2_with fail
  refine (n1 _).mono ?_
  rintro e w1 ⟨b1, b2, hb1, hb2, rfl, hm1, hw1⟩
  clear n1
  have hl1 := hm1.old.lt
  have hl2 := hm1.yng.lt
  have hm1a := hm1.below (balloc (Below.refl _ w1) (.cells #[.pointer (some ⟨b1, 0, none⟩), .pointer (some ⟨b2, 0, none⟩)] 29))
  have k0 : (w1.alloc (.cells #[.pointer (some ⟨b1, 0, none⟩), .pointer (some ⟨b2, 0, none⟩)] 29)).heap[w1.heap.size]? = some (.cells #[.pointer (some ⟨b1, 0, none⟩), .pointer (some ⟨b2, 0, none⟩)] 29 (0, 0)) := alloc_get _ _
  have hA := alloc_any hm1a.old hm1a.okO 0 1 3 1 1
  rw [aw2.1, aw2.2] at hA
  have hn0 := hm1a.fresh
  have hw1a : Below w.heap.size w (w1.alloc (.cells #[.pointer (some ⟨b1, 0, none⟩), .pointer (some ⟨b2, 0, none⟩)] 29)) := balloc hw1 _
  go_wp2_with fail
  refine hA.mono ?_
  rintro e w2 ⟨rfl, hx2⟩
  obtain ⟨g2, hm2, hM2, hg2⟩ := mem_old' hm1a hx2 (alOk hm1a.okO 0 1 3 1 1)
  change MemAt w2 b1 b2 100 (16777216 + 100) awO1 [] g2 none at hm2
  have hs2 := hM2.size
  have hG2 : ∀ G, g2 = some G → w1.heap.size + 1 ≤ G := fun G e => (hg2 G e).elim (fun h => by cases h) (fun h => by simpa using h)
  have hq1 : ¬ MS b1 b2 none none w1.heap.size := by
    rintro ((h | h) | (h | h))
    · omega
    · cases h
    · omega
    · cases h
  have hq2 : ¬ MS b1 b2 g2 none w1.heap.size := by
    rintro ((h | h) | (h | h))
    · omega
    · have := hG2 _ h; omega
    · omega
    · cases h
  have hge1 : ∀ k, MS b1 b2 none none k → w.heap.size ≤ k := by
    rintro k ((h | h) | (h | h))
    · omega
    · cases h
    · omega
    · cases h
  have hge2 : ∀ k, MS b1 b2 g2 none k → w.heap.size ≤ k := by
    rintro k ((h | h) | (h | h))
    · omega
    · have := hG2 _ h; omega
    · omega
    · cases h
  have k0 := mblock hM2 k0 hq1
  have hw2 : Below w.heap.size w w2 := hw1a.trans (hM2.below (by simp; omega) hge1)
  have hSF := msetf_any hm2 0 2 5 (U64.of (by omega) (by omega))
  rw [aw3.1, aw3.2] at hSF
  change Calls _ _ _ _ (fun e w' => e = .returned (.int .i64 0) ∧ MemAt w' b1 b2 100 (16777216 + 100) awO2 [] g2 none ∧ _) at hSF
  simp at hs2
  clear hx2 hM2 hA hn0 hm1 hm1a hm2 hg2 hG2 hw1 hw1a hq1 hge1
  have k0_0 : w2.cell? ⟨w1.heap.size, 0, none⟩ = some (.pointer (some ⟨b1, 0, none⟩)) := by rw [cell_of_block k0]; rfl
  have k0_1 : w2.cell? ⟨w1.heap.size, 1, none⟩ = some (.pointer (some ⟨b2, 0, none⟩)) := by rw [cell_of_block k0]; rfl
  go_wp2_with fail
  refine hSF.mono ?_
  rintro e w3 ⟨rfl, hm3, hM3⟩
  have k0 := mblock hM3 k0 hq2
  have hs3 := hM3.size
  have hw3 : Below w.heap.size w w3 := hw2.trans (hM3.below hw2.size hge2)
  have hLd := mload_any hm3 4
  rw [aw4.1, aw4.2] at hLd
  clear hSF hM3 k0_0 k0_1
  have k0_0 : w3.cell? ⟨w1.heap.size, 0, none⟩ = some (.pointer (some ⟨b1, 0, none⟩)) := by rw [cell_of_block k0]; rfl
  have k0_1 : w3.cell? ⟨w1.heap.size, 1, none⟩ = some (.pointer (some ⟨b2, 0, none⟩)) := by rw [cell_of_block k0]; rfl
  go_wp2_with fail
  refine hLd.mono ?_
  rintro e w4 ⟨rfl, hb4⟩
  have k0 := bblock hb4 k0
  have hm4 := hm3.below hb4
  have hw4 := bchain hb4 hw3
  have hs4 := hb4.size
  have hTS := tostub_any hm4 0 2 9 (U64.of (by omega) (by omega))
  rw [aw5.1, aw5.2] at hTS
  change Calls _ _ _ _ (fun e w' => e = .returned (.int .i64 0) ∧ MemAt w' b1 b2 100 (16777216 + 100) awO3 [] g2 none ∧ _) at hTS
  clear hLd hb4 hm3 k0_0 k0_1
  have k0_0 : w4.cell? ⟨w1.heap.size, 0, none⟩ = some (.pointer (some ⟨b1, 0, none⟩)) := by rw [cell_of_block k0]; rfl
  have k0_1 : w4.cell? ⟨w1.heap.size, 1, none⟩ = some (.pointer (some ⟨b2, 0, none⟩)) := by rw [cell_of_block k0]; rfl
  go_wp2_with fail
  refine hTS.mono ?_
  rintro e w5 ⟨rfl, hm5, hM5⟩
  have k0 := mblock hM5 k0 hq2
  have hw5 : Below w.heap.size w w5 := hw4.trans (hM5.below hw4.size hge2)
  have hSt := mstub_any hm5 0
  rw [aw6.1, aw6.2.1, aw6.2.2] at hSt
  clear hTS hM5 hm4 k0_0 k0_1
  have k0_0 : w5.cell? ⟨w1.heap.size, 0, none⟩ = some (.pointer (some ⟨b1, 0, none⟩)) := by rw [cell_of_block k0]; rfl
  have k0_1 : w5.cell? ⟨w1.heap.size, 1, none⟩ = some (.pointer (some ⟨b2, 0, none⟩)) := by rw [cell_of_block k0]; rfl
  go_wp2_with fail
  refine hSt.mono ?_
  rintro e w6 ⟨rfl, hb6⟩
  have k0 := bblock hb6 k0
  have hm6 := hm5.below hb6
  have hw6 := bchain hb6 hw5
  have hL4 := mload_any hm6 4
  rw [aw7.1, aw7.2.1] at hL4
  clear hSt hb6 hm5 k0_0 k0_1
  have k0_0 : w6.cell? ⟨w1.heap.size, 0, none⟩ = some (.pointer (some ⟨b1, 0, none⟩)) := by rw [cell_of_block k0]; rfl
  have k0_1 : w6.cell? ⟨w1.heap.size, 1, none⟩ = some (.pointer (some ⟨b2, 0, none⟩)) := by rw [cell_of_block k0]; rfl
  go_wp2_with fail
  refine hL4.mono ?_
  rintro e w7 ⟨rfl, hb7⟩
  have k0 := bblock hb7 k0
  have hm7 := hm6.below hb7
  have hw7 := bchain hb7 hw6
  have hL3 := mload_any hm7 3
  rw [aw7.2.2.1, aw7.2.2.2] at hL3
  clear hL4 hb7 hm6 k0_0 k0_1
  have k0_0 : w7.cell? ⟨w1.heap.size, 0, none⟩ = some (.pointer (some ⟨b1, 0, none⟩)) := by rw [cell_of_block k0]; rfl
  have k0_1 : w7.cell? ⟨w1.heap.size, 1, none⟩ = some (.pointer (some ⟨b2, 0, none⟩)) := by rw [cell_of_block k0]; rfl
  go_wp2_with fail
  refine hL3.mono ?_
  rintro e w8 ⟨rfl, hb8⟩
  go_wp2
  go_ret
  exact ⟨rfl, bchain hb8 hw7⟩
end Go.Proofs.Ytcmhgjkijegpnaa
