/-
  The walk of DistanceMonotone. Printed by gen_DsQ.py.
-/
import Derived.Test.YtbkfjhbebhnijaaDsV
namespace Go.Proofs.Ytbkfjhbebhnijaa
open Go.RowKit Go.Maps Go.WideElems Go.ChangeShapes Go.MapKept
set_option linter.unusedSimpArgs false
set_option linter.unusedVariables false

set_option maxRecDepth 100000 in
set_option maxHeartbeats 8000000 in
theorem dmono_any {ve vr vd va : Value} {E : List (Int × Int)} {R D A : List Int} (w : World) (he : EdgV w ve E) (hr : IntsV w vr R) (hd : IntsV w vd D) (ha : IntsV w va A) (hDw : ∀ (i : Nat) (x : Int), D[i]? = some x → -9223372036854775808 ≤ x ∧ x ≤ 9223372036854775807) :
    Calls Try.prog 8 #[ve, vr, vd, va] w fun e w' => e = .returned (.bool true) ∧ Below w.heap.size w w' := by
  have hF := fun W (H : Below w.heap.size w W) => few_any (he.below H) (hr.below H) (hd.below H)
  have hA := fun (W : World) (H : Below w.heap.size w W) (h1 : E.length ≤ 60) (h2 : R.length ≤ 10) (v : Value) (X : List Int) (hX : IntsV W v X) (hl : X.length ≤ 40) => round_any (he.below H) (hr.below H) hX (by omega) (by omega) (by omega)
  have HA := Lib.hid hA
  have HDV := Lib.hid hd
  have HDw := Lib.hid hDw
  obtain ⟨a3, c3, rfl, n3, m3, r3⟩ := hd
  obtain ⟨a4, c4, rfl, n4, m4, r4⟩ := ha
  have rD := fun t (ht : t < D.length) => IntsV.get r3 ht
  have RD := Lib.hid rD
  have rA := fun t (ht : t < A.length) => IntsV.get r4 ht
  have RA := Lib.hid rA
  clear he hr r3 r4 rD rA hDw hA
  obtain ⟨nd, hnd⟩ : ∃ k, D.length = k := ⟨_, rfl⟩
  obtain ⟨na, hna⟩ : ∃ k, A.length = k := ⟨_, rfl⟩
  have HND := Lib.hid hnd
  rw [hnd] at RD n3 HDV ⊢
  simp only [hnd] at hF
  rw [hna] at RA n4 ⊢
  clear hnd hna
  go_enter Try.func8, Try.ntmps8
  go_wp2_with fail
  refine (awake_any _).mono ?_
  rintro e w1 ⟨rfl, hb1⟩
  have hc1 : Below w.heap.size w w1 := by (repeat (first | exact Below.refl _ _ | assumption | refine Below.drew ?_ | refine below_drewN ?_ _ | refine balloc ?_ _ | refine Below.setCell ?_ (by first | (simp; done) | (simp; omega) | omega) _ | refine bchain (by assumption) ?_))
  clear hb1
  go_wp2_with fail
  refine (hF _ hc1).mono ?_
  rintro e w2 ⟨b, rfl, hb, hb2⟩
  have hc2 : Below w.heap.size w w2 := by (repeat (first | exact Below.refl _ _ | assumption | refine Below.drew ?_ | refine below_drewN ?_ _ | refine balloc ?_ _ | refine Below.setCell ?_ (by first | (simp; done) | (simp; omega) | omega) _ | refine bchain (by assumption) ?_))
  clear hb2 hc1 hF
  by_cases hlen : na = nd
  case neg =>
    have hnn : ((na : Int) != (nd : Int)) = true := by simp; omega
    have hnn2 : (na != nd) = true := by simp; omega
    cases b
    · clear hb
      go_wp2
      go_ret
      exact ⟨by simp, by (repeat (first | exact Below.refl _ _ | assumption | refine Below.drew ?_ | refine below_drewN ?_ _ | refine balloc ?_ _ | refine Below.setCell ?_ (by first | (simp; done) | (simp; omega) | omega) _ | refine bchain (by assumption) ?_))⟩
    · clear hb
      go_wp2
      go_ret
      exact ⟨by simp, by (repeat (first | exact Below.refl _ _ | assumption | refine Below.drew ?_ | refine below_drewN ?_ _ | refine balloc ?_ _ | refine Below.setCell ?_ (by first | (simp; done) | (simp; omega) | omega) _ | refine bchain (by assumption) ?_))⟩
  subst hlen
  have hnn : ((na : Int) != (na : Int)) = false := by simp
  cases b
  · clear hb
    go_wp2
    go_ret
    exact ⟨by simp, by (repeat (first | exact Below.refl _ _ | assumption | refine Below.drew ?_ | refine below_drewN ?_ _ | refine balloc ?_ _ | refine Below.setCell ?_ (by first | (simp; done) | (simp; omega) | omega) _ | refine bchain (by assumption) ?_))⟩
  · obtain ⟨z1, z2, z3⟩ := hb rfl
    have Z1 := Lib.hid z1
    have Z2 := Lib.hid z2
    clear hb z1 z2
    go_wp2_with fail
    go_loopw [9, 10] (fun v9 i wr => ∃ (k : Nat) (M : List Int), k ≤ na ∧ i = .int .i64 k ∧ QAt wr w2.heap.size v9 M ∧ M.length = k ∧ (∀ (j : Nat) (x y : Int), D[j]? = some x → M[j]? = some y → x ≤ y) ∧ Below w2.heap.size w2 wr) (fun v9 i _ => na - (intOf i).toNat)
    case atStart => exact ⟨0, [], Nat.zero_le _, rfl, QAt.made w2 (Nat.le_refl _), rfl, fun j x y _ hy => by simp at hy, balloc (Below.refl _ _) _⟩
    case round =>
      obtain ⟨k, M, hk, rfl, hQ, hMl, hM, hbr⟩ := hrel
      have HM := Lib.hid hM
      have HML := Lib.hid hMl
      clear hM hMl
      have hbw := bchain hbr hc2
      by_cases hkn : k < na
      · obtain ⟨b1, f1, x, e1, hx, q1⟩ := RD.out k hkn
        cases e1
        obtain ⟨b2, f2, y, e2, hy, q2⟩ := RA.out k hkn
        cases e2
        have QA1 := Lib.hid q1
        have QA2 := Lib.hid q2
        have q1 := bcellv hbw q1
        have q2 := bcellv hbw q2
        have s1 : ((k : Int)).toNat = k := by omega
        have hxw := HDw.out k x hx
        have HX := Lib.hid hx
        clear hx hy
        by_cases g1 : y < 0
        · have d1 : decide (y < 0) = true := by simpa using g1
          go_wp2
          go_ret
          exact ⟨by simp, by (repeat (first | exact Below.refl _ _ | assumption | refine Below.drew ?_ | refine below_drewN ?_ _ | refine balloc ?_ _ | refine Below.setCell ?_ (by first | (simp; done) | (simp; omega) | omega) _ | refine bchain (by assumption) ?_))⟩
        have d1 : decide (y < 0) = false := by simpa using g1
        by_cases g2 : 1073741824 < y
        · have d2 : decide (1073741824 < y) = true := by simpa using g2
          go_wp2
          go_ret
          exact ⟨by simp, by (repeat (first | exact Below.refl _ _ | assumption | refine Below.drew ?_ | refine below_drewN ?_ _ | refine balloc ?_ _ | refine Below.setCell ?_ (by first | (simp; done) | (simp; omega) | omega) _ | refine bchain (by assumption) ?_))⟩
        have d2 : decide (1073741824 < y) = false := by simpa using g2
        by_cases g3 : 1073741824 < x
        · have d3 : decide (1073741824 < x) = true := by simpa using g3
          go_wp2
          go_ret
          exact ⟨by simp, by (repeat (first | exact Below.refl _ _ | assumption | refine Below.drew ?_ | refine below_drewN ?_ _ | refine balloc ?_ _ | refine Below.setCell ?_ (by first | (simp; done) | (simp; omega) | omega) _ | refine bchain (by assumption) ?_))⟩
        have d3 : decide (1073741824 < x) = false := by simpa using g3
        have s2 : wrap64 (x + y) = x + y := IntWalk.wrap64_in _ (by omega)
        have s3 : IntKind.i64.wrap (x + y) = x + y := IntWalk.i64_in _ (by omega)
        have hzw : w2.heap.size ≤ wr.heap.size := hbr.size
        have hml : M.length ≤ 100000 := by have := HML.out; omega
        have HMLE := Lib.hid hml
        clear hml
        obtain ⟨a9, c9, e9⟩ := id hQ.form
        subst e9
        go_wp2_with fail
        go_region_held3 (fun w' => w'.cell? ⟨b1, f1 + k, none⟩ = some (.int .i64 x) ∧ w'.cell? ⟨b2, f2 + k, none⟩ = some (.int .i64 y)) (first | (with_reducible exact ⟨q1, q2⟩) | go_keep) (first
          | (refine oper_append_row (by rfl) (.tmp 54) (.tmp 64) (by rfl) (by rfl) (x + y) wr.drew (by rfl) hQ.drew (by rfl) (by rfl) hbr.drew hzw HMLE.out ?_; intro v4 w4 hq4 hb4 hz4; have q1 := bcellv (bchain hb4 hc2) QA1.out; have q2 := bcellv (bchain hb4 hc2) QA2.out))
        go_wp2
        go_roundw
        case rel =>
          refine ⟨k + 1, M ++ [x + y], by omega, by go_num, hq4, by rw [List.length_append, HML.out]; rfl, fun j u z hu hz => ?_, hb4⟩
          by_cases hj : j < k
          · rw [List.getElem?_append_left (by have := HML.out; omega)] at hz
            exact HM.out j u z hu hz
          · rw [List.getElem?_append_right (by have := HML.out; omega)] at hz
            have hj2 : j = k := by have := (List.getElem?_eq_some_iff.1 hz).1; have := HML.out; simp at *; omega
            subst hj2
            rw [HML.out, Nat.sub_self] at hz
            rw [HX.out] at hu
            cases hu
            cases hz
            omega
        case measure => simp [intOf]; omega
      · have hkn' : k = na := by omega
        subst hkn'
        have hml := HML.out
        have hlaw := Lib.hid (mono_law (E := E) (R := R) (hml.trans HND.out.symm) HM.out)
        have hIm := hQ.ints
        have hX := fun W (H : Below w.heap.size w W) => HA.out W H Z1.out Z2.out _ D (HDV.out.below H) (by have := HND.out; omega)
        have hY := fun W (H : Below w.heap.size w W) (H2 : Below wr.heap.size wr W) => HA.out W H Z1.out Z2.out _ M (hIm.below H2) (by omega)
        have HY := Lib.hid hY
        clear hml hQ hIm HA HDV hY
        go_wp2_with fail
        refine (hX _ hbw).mono ?_
        rintro e w3 ⟨v3, rfl, hi3, hb3⟩
        have hc3 : Below w.heap.size w w3 := by (repeat (first | exact Below.refl _ _ | assumption | refine Below.drew ?_ | refine below_drewN ?_ _ | refine balloc ?_ _ | refine Below.setCell ?_ (by first | (simp; done) | (simp; omega) | omega) _ | refine bchain (by assumption) ?_))
        have hY := HY.out w3 hc3 hb3
        clear hX HY
        go_wp2_with fail
        refine hY.mono ?_
        rintro e w4 ⟨v4, rfl, hi4, hb4⟩
        have hc4 : Below w.heap.size w w4 := by (repeat (first | exact Below.refl _ _ | assumption | refine Below.drew ?_ | refine below_drewN ?_ _ | refine balloc ?_ _ | refine Below.setCell ?_ (by first | (simp; done) | (simp; omega) | omega) _ | refine bchain (by assumption) ?_))
        have hi3 := hi3.below hb4
        clear hY hb3 hb4 hc3
        obtain ⟨h1, h2⟩ := hlaw.out
        have HL2 := Lib.hid h2
        obtain ⟨a5, c5, rfl, n5, m5, r5⟩ := hi3
        obtain ⟨a6, c6, rfl, n6, m6, r6⟩ := hi4
        have rX := fun t (ht : t < (rndA E R D).length) => IntsV.get r5 ht
        have rY := fun t (ht : t < (rndA E R M).length) => IntsV.get r6 ht
        have RX := Lib.hid rX
        have RY := Lib.hid rY
        rw [← h1] at RY n6 ⊢
        clear h1 h2 hlaw r5 r6 rX rY
        obtain ⟨nx, hnx⟩ : ∃ n, (rndA E R D).length = n := ⟨_, rfl⟩
        rw [hnx] at RX RY n5 n6 ⊢
        clear hnx
        have hnn3 : ((nx : Int) != (nx : Int)) = false := by simp
        obtain ⟨wo, hwo⟩ : ∃ W, W = wr := ⟨_, rfl⟩
        subst hwo
        go_wp2_with fail
        go_loopw [13] (fun i wr => ∃ t : Nat, t ≤ nx ∧ i = .int .i64 t ∧ Below w4.heap.size w4 wr) (fun i _ => nx - (intOf i).toNat)
        case atStart => exact ⟨0, Nat.zero_le _, rfl, Below.refl _ _⟩
        case round =>
          obtain ⟨t, ht, rfl, hbk⟩ := hrel
          by_cases htn : t < nx
          · obtain ⟨b5, f5, x, e5, hx, q5⟩ := RX.out t htn
            cases e5
            obtain ⟨b6, f6, y, e6, hy, q6⟩ := RY.out t htn
            cases e6
            have hxy := HL2.out t x y hx hy
            have q5 := bcellv hbk q5
            have q6 := bcellv hbk q6
            have s7 : ((t : Int)).toNat = t := by omega
            have hd9 : decide (y < x) = false := by simp; omega
            clear hx hy
            go_wp2_with fail
            go_quiet (fail)
            go_wp2
            go_roundw
            case rel => exact ⟨t + 1, by omega, by go_num, by (repeat (first | exact Below.refl _ _ | assumption | refine Below.drew ?_ | refine below_drewN ?_ _ | refine balloc ?_ _ | refine Below.setCell ?_ (by first | (simp; done) | (simp; omega) | omega) _ | refine bchain (by assumption) ?_))⟩
            case measure => simp [intOf]; omega
          · have htn' : t = nx := by omega
            subst htn'
            go_wp2
            go_ret
            exact ⟨by simp, by (repeat (first | exact Below.refl _ _ | assumption | refine Below.drew ?_ | refine below_drewN ?_ _ | refine balloc ?_ _ | refine Below.setCell ?_ (by first | (simp; done) | (simp; omega) | omega) _ | refine bchain (by assumption) ?_))⟩
end Go.Proofs.Ytbkfjhbebhnijaa
