/-
  refmeshlaw07.ObjectCalls.
-/
import Derived.Test.YtcmhgjkijegpnaaGN
import Derived.Test.YtcmhgjkijegpnaaGH
namespace Go.Proofs.Ytcmhgjkijegpnaa
open Go.RowKit
set_option linter.unusedSimpArgs false
set_option linter.unusedVariables false

set_option maxRecDepth 100000 in
set_option maxHeartbeats 1000000 in
theorem ocalls_any (a : Option Addr) (l : List Op7) (cap : Nat) (hcap : l.length ≤ cap) (hc63 : cap ≤ 9223372036854775807) (w : World) (hops : Ops7 w a l) :
    Calls Try.prog 4 #[.slice a l.length cap] w fun e w' => e = .returned (.bool true) ∧ Below w.heap.size w w' := by
  have ha := awake7
  by_cases h : 24 < l.length
  · have hd : decide (24 < l.length) = true := by simpa using h
    clear hops
    generalize l.length = n at *
    go_enter Try.func4, Try.ntmps4
    go_wp2_with fail
    refine (ha _).mono ?_
    rintro e w1 ⟨rfl, hb1⟩
    go_wp2
    go_ret
    exact ⟨rfl, by (repeat (first | exact Below.refl _ _ | assumption | refine Below.drew ?_ | refine below_drewN ?_ _ | refine balloc ?_ _ | refine Below.setCell ?_ (by first | (simp; done) | (simp; omega) | omega) _ | refine bchain (by assumption) ?_))⟩
  · have hB := fun W (H : Below w.heap.size w W) => built7_any a l cap true hcap hc63 (by omega) W (hops.below H)
    have hd : decide (24 < l.length) = false := by simpa using h
    clear hops
    generalize run7 200 16777416 true ⟨[], [], []⟩ l = X at *
    generalize l.length = n at *
    go_enter Try.func4, Try.ntmps4
    go_wp2_with fail
    refine (ha _).mono ?_
    rintro e w1 ⟨rfl, hb1⟩
    have hw1 : Below w.heap.size w w1 := by (repeat (first | exact Below.refl _ _ | assumption | refine Below.drew ?_ | refine below_drewN ?_ _ | refine balloc ?_ _ | refine Below.setCell ?_ (by first | (simp; done) | (simp; omega) | omega) _ | refine bchain (by assumption) ?_))
    go_wp2_with fail
    refine (hB _ hw1).mono ?_
    rintro e w2 ⟨bO, bY, aO, nO, cO, aY, nY, cY, lv, gO, gY, rO, rY, rfl, hI, hb2⟩
    obtain ⟨A, lc, rfl, _, _, _⟩ := lst_of_row hI.lst
    unfold wcs
    have hw2 := bchain hb2 hw1
    clear hB hI
    go_wp2
    go_ret
    exact ⟨rfl, by (repeat (first | exact Below.refl _ _ | assumption | refine Below.drew ?_ | refine below_drewN ?_ _ | refine balloc ?_ _ | refine Below.setCell ?_ (by first | (simp; done) | (simp; omega) | omega) _ | refine bchain (by assumption) ?_))⟩
end Go.Proofs.Ytcmhgjkijegpnaa
