/-
  The walks of DistanceStubs and DistanceRounds.
-/
import Derived.Test.YtbkfjhbebhnijaaDsO
namespace Go.Proofs.Ytbkfjhbebhnijaa
open Go.RowKit Go.Maps Go.WideElems Go.ChangeShapes Go.MapKept
set_option linter.unusedSimpArgs false
set_option linter.unusedVariables false

set_option maxRecDepth 100000 in
set_option maxHeartbeats 8000000 in
theorem dstubs_any (r : Bool) {v : Value} {l : List Int} (w : World) (h : IntsV w v l) :
    Calls Try.prog 3 #[.bool r, v] w fun e w' => e = .returned (.bool true) ∧ Below w.heap.size w w' := by
  have hS := fun W (H : Below w.heap.size w W) => stub_any r (h.below H)
  have hR := fun W (H : Below w.heap.size w W) => rstub_any r (h.below H)
  generalize stubA r l = y at *
  obtain ⟨a, c, rfl, n1, m1, _⟩ := h
  generalize l.length = n at *
  go_enter Try.func3, Try.ntmps3
  go_wp2_with fail
  refine (awake_any _).mono ?_
  rintro e w1 ⟨rfl, hb1⟩
  have hc1 : Below w.heap.size w w1 := by (repeat (first | exact Below.refl _ _ | assumption | refine Below.drew ?_ | refine below_drewN ?_ _ | refine balloc ?_ _ | refine Below.setCell ?_ (by first | (simp; done) | (simp; omega) | omega) _ | refine bchain (by assumption) ?_))
  clear hb1
  by_cases hl : (40 : Int) < (n : Int)
  · have hd : decide ((40 : Int) < (n : Int)) = true := by simpa using hl
    clear hS hR
    go_wp2
    go_ret
    exact ⟨by simp, by (repeat (first | exact Below.refl _ _ | assumption | refine Below.drew ?_ | refine below_drewN ?_ _ | refine balloc ?_ _ | refine Below.setCell ?_ (by first | (simp; done) | (simp; omega) | omega) _ | refine bchain (by assumption) ?_))⟩
  · have hd : decide ((40 : Int) < (n : Int)) = false := by simpa using hl
    go_wp2_with fail
    refine (hS _ hc1).mono ?_
    rintro e w2 ⟨rfl, hb2⟩
    have hc2 : Below w.heap.size w w2 := by (repeat (first | exact Below.refl _ _ | assumption | refine Below.drew ?_ | refine below_drewN ?_ _ | refine balloc ?_ _ | refine Below.setCell ?_ (by first | (simp; done) | (simp; omega) | omega) _ | refine bchain (by assumption) ?_))
    clear hb2 hc1 hS
    go_wp2_with fail
    refine (hR _ hc2).mono ?_
    rintro e w3 ⟨rfl, hb3⟩
    go_wp2
    go_ret
    exact ⟨by simp, by (repeat (first | exact Below.refl _ _ | assumption | refine Below.drew ?_ | refine below_drewN ?_ _ | refine balloc ?_ _ | refine Below.setCell ?_ (by first | (simp; done) | (simp; omega) | omega) _ | refine bchain (by assumption) ?_))⟩
set_option maxRecDepth 100000 in
set_option maxHeartbeats 8000000 in
theorem drounds_any {ve vr vd : Value} {E : List (Int × Int)} {R D : List Int} (w : World) (he : EdgV w ve E) (hr : IntsV w vr R) (hd : IntsV w vd D) :
    Calls Try.prog 4 #[ve, vr, vd] w fun e w' => e = .returned (.bool true) ∧ Below w.heap.size w w' := by
  have hF := fun W (H : Below w.heap.size w W) => few_any (he.below H) (hr.below H) (hd.below H)
  go_enter Try.func4, Try.ntmps4
  go_wp2_with fail
  refine (awake_any _).mono ?_
  rintro e w1 ⟨rfl, hb1⟩
  have hc1 : Below w.heap.size w w1 := by (repeat (first | exact Below.refl _ _ | assumption | refine Below.drew ?_ | refine below_drewN ?_ _ | refine balloc ?_ _ | refine Below.setCell ?_ (by first | (simp; done) | (simp; omega) | omega) _ | refine bchain (by assumption) ?_))
  clear hb1
  go_wp2_with fail
  refine (hF _ hc1).mono ?_
  rintro e w2 ⟨b, rfl, hb, hb2⟩
  have hc2 : Below w.heap.size w w2 := by (repeat (first | exact Below.refl _ _ | assumption | refine Below.drew ?_ | refine below_drewN ?_ _ | refine balloc ?_ _ | refine Below.setCell ?_ (by first | (simp; done) | (simp; omega) | omega) _ | refine bchain (by assumption) ?_))
  clear hb2 hc1 hF
  cases b
  · clear hb
    go_wp2
    go_ret
    exact ⟨by simp, by (repeat (first | exact Below.refl _ _ | assumption | refine Below.drew ?_ | refine below_drewN ?_ _ | refine balloc ?_ _ | refine Below.setCell ?_ (by first | (simp; done) | (simp; omega) | omega) _ | refine bchain (by assumption) ?_))⟩
  · obtain ⟨z1, z2, z3⟩ := hb rfl
    have hA := fun W (H : Below w.heap.size w W) => round_any (he.below H) (hr.below H) (hd.below H) (by omega) (by omega) (by omega)
    have hB := fun W (H : Below w.heap.size w W) => rround_any (he.below H) (hr.below H) (hd.below H) (by omega) (by omega)
    clear hb z1 z2 z3 he hr hd
    go_wp2_with fail
    refine (hA _ hc2).mono ?_
    rintro e w3 ⟨v3, rfl, hi3, hb3⟩
    have hc3 : Below w.heap.size w w3 := by (repeat (first | exact Below.refl _ _ | assumption | refine Below.drew ?_ | refine below_drewN ?_ _ | refine balloc ?_ _ | refine Below.setCell ?_ (by first | (simp; done) | (simp; omega) | omega) _ | refine bchain (by assumption) ?_))
    clear hb3 hc2 hA
    go_wp2_with fail
    refine (hB _ hc3).mono ?_
    rintro e w4 ⟨v4, rfl, hi4, hb4⟩
    have hc4 : Below w.heap.size w w4 := by (repeat (first | exact Below.refl _ _ | assumption | refine Below.drew ?_ | refine below_drewN ?_ _ | refine balloc ?_ _ | refine Below.setCell ?_ (by first | (simp; done) | (simp; omega) | omega) _ | refine bchain (by assumption) ?_))
    have hi3 := hi3.below hb4
    have hI := fun W (H : Below w4.heap.size w4 W) => ints_any (hi3.below H) (hi4.below H)
    clear hb4 hc3 hB
    go_wp2_with fail
    refine (hI _ (by (repeat (first | exact Below.refl _ _ | assumption | refine Below.drew ?_ | refine below_drewN ?_ _ | refine balloc ?_ _ | refine Below.setCell ?_ (by first | (simp; done) | (simp; omega) | omega) _ | refine bchain (by assumption) ?_)))).mono ?_
    rintro e w5 ⟨rfl, hb5⟩
    go_wp2
    go_ret
    exact ⟨by simp, by (repeat (first | exact Below.refl _ _ | assumption | refine Below.drew ?_ | refine below_drewN ?_ _ | refine balloc ?_ _ | refine Below.setCell ?_ (by first | (simp; done) | (simp; omega) | omega) _ | refine bchain (by assumption) ?_))⟩
end Go.Proofs.Ytbkfjhbebhnijaa
