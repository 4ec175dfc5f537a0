/-
  The walk of DistanceGrows. Printed by gen_DsQ.py.
-/
import Derived.Test.YtbkfjhbebhnijaaDsP
namespace Go.Proofs.Ytbkfjhbebhnijaa
open Go.RowKit Go.Maps Go.WideElems Go.ChangeShapes Go.MapKept
set_option linter.unusedSimpArgs false
set_option linter.unusedVariables false

set_option maxRecDepth 100000 in
set_option maxHeartbeats 8000000 in
theorem dgrows_any {ve vr vd : Value} {E : List (Int × Int)} {R D : List Int} (n : Int) (hn : 0 ≤ n ∧ n ≤ 255) (w : World) (he : EdgV w ve E) (hr : IntsV w vr R) (hd : IntsV w vd D) :
    Calls Try.prog 7 #[ve, vr, vd, .int .u8 n] w fun e w' => e = .returned (.bool true) ∧ Below w.heap.size w w' := by
  have hF := fun W (H : Below w.heap.size w W) => few_any (he.below H) (hr.below H) (hd.below H)
  go_enter Try.func7, Try.ntmps7
  go_wp2_with fail
  refine (awake_any _).mono ?_
  rintro e w1 ⟨rfl, hb1⟩
  have hc1 : Below w.heap.size w w1 := by (repeat (first | exact Below.refl _ _ | assumption | refine Below.drew ?_ | refine below_drewN ?_ _ | refine balloc ?_ _ | refine Below.setCell ?_ (by first | (simp; done) | (simp; omega) | omega) _ | refine bchain (by assumption) ?_))
  clear hb1
  go_wp2_with fail
  refine (hF _ hc1).mono ?_
  rintro e w2 ⟨b, rfl, hb, hb2⟩
  have hc2 : Below w.heap.size w w2 := by (repeat (first | exact Below.refl _ _ | assumption | refine Below.drew ?_ | refine below_drewN ?_ _ | refine balloc ?_ _ | refine Below.setCell ?_ (by first | (simp; done) | (simp; omega) | omega) _ | refine bchain (by assumption) ?_))
  clear hb2 hc1 hF
  cases b
  · clear hb
    go_wp2
    go_ret
    exact ⟨by simp, by (repeat (first | exact Below.refl _ _ | assumption | refine Below.drew ?_ | refine below_drewN ?_ _ | refine balloc ?_ _ | refine Below.setCell ?_ (by first | (simp; done) | (simp; omega) | omega) _ | refine bchain (by assumption) ?_))⟩
  · obtain ⟨z1, z2, z3⟩ := hb rfl
    have hA := fun (W : World) (H : Below w.heap.size w W) (v : Value) (X : List Int) (hX : IntsV W v X) (hl : X.length ≤ 10001) => round_any (he.below H) (hr.below H) hX hl (by omega) (by omega)
    have HA := Lib.hid hA
    have hBo := fun W (H : Below w.heap.size w W) => bound_any (he.below H) (hr.below H) (by omega) (by omega)
    have hBl := Lib.hid (bnd_law E R)
    have HD := Lib.hid (show D.length ≤ 10001 by omega)
    have hd2 := hd.below hc2
    clear hb z1 z2 z3 he hr hA hd
    go_wp2_with fail
    refine (hBo _ hc2).mono ?_
    rintro e w3 ⟨v3, rfl, hi3, hb3⟩
    have hc3 : Below w.heap.size w w3 := by (repeat (first | exact Below.refl _ _ | assumption | refine Below.drew ?_ | refine below_drewN ?_ _ | refine balloc ?_ _ | refine Below.setCell ?_ (by first | (simp; done) | (simp; omega) | omega) _ | refine bchain (by assumption) ?_))
    have hd3 := hd2.below hb3
    clear hb3 hc2 hBo hd2
    obtain ⟨m, hm⟩ : ∃ m : Nat, n.tmod 12 = (m : Int) := ⟨(n.tmod 12).toNat, by rw [Int.tmod_eq_emod_of_nonneg hn.1]; omega⟩
    have hm11 : m ≤ 11 := by rw [Int.tmod_eq_emod_of_nonneg hn.1] at hm; omega
    obtain ⟨a3, c3, rfl, n3, m3, r3⟩ := hi3
    have rB := fun t (ht : t < (bndA E R).length) => IntsV.get r3 ht
    have RB := Lib.hid rB
    clear r3 rB
    obtain ⟨nb, hnb⟩ : ∃ k, (bndA E R).length = k := ⟨_, rfl⟩
    rw [hnb] at RB n3 ⊢
    have HNB := Lib.hid hnb
    clear hnb
    have hw0 : IntKind.u8.wrap (m : Int) = m := by rw [IntKind.wrap]; simp [IntKind.bits, IntKind.signed]; omega
    go_wp2_with fail
    go_loopw [10, 11] (fun v10 i wr => ∃ t : Nat, t ≤ m ∧ i = .int .i64 ((t : Int) + 1) ∧ IntsV wr v10 (rndN E R t D) ∧ Below w3.heap.size w3 wr) (fun v10 i _ => m + 1 - (intOf i).toNat)
    case atStart => exact ⟨0, Nat.zero_le _, rfl, hd3, Below.refl _ _⟩
    case round =>
      clear hd3
      obtain ⟨t, ht, rfl, hI, hbr⟩ := hrel
      have hbw := bchain hbr hc3
      by_cases hlt : t < m
      · have hl : (rndN E R t D).length ≤ 10001 := by
          cases t with
          | zero => exact HD.out
          | succ t => exact rndA_le E R _
        have hc := HA.out wr hbw u10 _ hI hl
        have hgl := Lib.hid (grows_law hBl.out D t (by omega))
        have hl1 := Lib.hid (rndA_le E R (rndN E R t D))
        have hle : (t : Int) + 1 ≤ (m : Int) := by omega
        have s9 : wrap64 ((t : Int) + 1 + 1) = (t : Int) + 1 + 1 := IntWalk.wrap64_in _ (by omega)
        have s8 : IntKind.i64.wrap ((t : Int) + 1 + 1) = (t : Int) + 1 + 1 := IntWalk.i64_in _ (by omega)
        clear hl
        go_wp2_with fail
        refine hc.mono ?_
        rintro e w4 ⟨v4, rfl, hi4, hb4⟩
        have hbr4 := bchain hb4 hbr
        have HI4 := Lib.hid (show IntsV w4 v4 (rndN E R (t + 1) D) from hi4)
        obtain ⟨a4, c4, rfl, n4, m4, r4⟩ := hi4
        have rD := fun k (hk : k < (rndA E R (rndN E R t D)).length) => IntsV.get r4 hk
        have RD := Lib.hid rD
        clear r4 rD hc hI
        obtain ⟨nd, hnd⟩ : ∃ k, (rndA E R (rndN E R t D)).length = k := ⟨_, rfl⟩
        rw [hnd] at RD n4 HI4 hl1 ⊢
        have hl1 := hl1.out
        clear hnd
        obtain ⟨wo, hwo⟩ : ∃ W, W = wr := ⟨_, rfl⟩
        subst hwo
        go_wp2_with fail
        go_loopw [12] (fun i wr => ∃ k : Nat, k ≤ nd ∧ i = .int .i64 k ∧ Below w4.heap.size w4 wr) (fun i _ => nd - (intOf i).toNat)
        case atStart => exact ⟨0, Nat.zero_le _, rfl, Below.refl _ _⟩
        case round =>
          obtain ⟨k, hk, rfl, hbk⟩ := hrel
          by_cases hkn : k < nd
          · obtain ⟨b1, f1, y, e1, hy, q1⟩ := RD.out k hkn
            cases e1
            have q1 := bcellv hbk q1
            have s1 : ((k : Int)).toNat = k := by omega
            by_cases hkb : k < nb
            · obtain ⟨b2, f2, x, e2, hx, q2⟩ := RB.out k hkb
              cases e2
              have q2 := bcellv (bchain hbk hbr4) q2
              have hg0 : x < 0 → (t : Int) + 1 ≤ y := fun h0 => hgl.out k y hy (.inr ⟨x, hx, h0⟩)
              have hd1 : decide ((nb : Int) ≤ (k : Int)) = false := by simp; omega
              clear hy hx
              by_cases hx0 : x < 0
              · have hg := hg0 hx0
                have hd2 : decide (x < 0) = true := by simpa using hx0
                have hd3 : decide (y < (t : Int) + 1) = false := by simp; omega
                clear hg0
                go_wp2
                go_roundw
                case rel => exact ⟨k + 1, by omega, by go_num, by (repeat (first | exact Below.refl _ _ | assumption | refine Below.drew ?_ | refine below_drewN ?_ _ | refine balloc ?_ _ | refine Below.setCell ?_ (by first | (simp; done) | (simp; omega) | omega) _ | refine bchain (by assumption) ?_))⟩
                case measure => simp [intOf]; omega
              · have hd2 : decide (x < 0) = false := by simpa using hx0
                clear hg0
                go_wp2
                go_roundw
                case rel => exact ⟨k + 1, by omega, by go_num, by (repeat (first | exact Below.refl _ _ | assumption | refine Below.drew ?_ | refine below_drewN ?_ _ | refine balloc ?_ _ | refine Below.setCell ?_ (by first | (simp; done) | (simp; omega) | omega) _ | refine bchain (by assumption) ?_))⟩
                case measure => simp [intOf]; omega
            · have hg : (t : Int) + 1 ≤ y := hgl.out k y hy (.inl (List.getElem?_eq_none (by have := HNB.out; omega)))
              have hd1 : decide ((nb : Int) ≤ (k : Int)) = true := by simp; omega
              have hd3 : decide (y < (t : Int) + 1) = false := by simp; omega
              clear hy
              go_wp2
              go_roundw
              case rel => exact ⟨k + 1, by omega, by go_num, by (repeat (first | exact Below.refl _ _ | assumption | refine Below.drew ?_ | refine below_drewN ?_ _ | refine balloc ?_ _ | refine Below.setCell ?_ (by first | (simp; done) | (simp; omega) | omega) _ | refine bchain (by assumption) ?_))⟩
              case measure => simp [intOf]; omega
          · have hkn' : k = nd := by omega
            subst hkn'
            have hbr5 := bchain hbk hbr4
            have hi5 := HI4.out.below hbk
            go_wp2
            go_roundw
            case rel => exact ⟨t + 1, by omega, by go_num, hi5, hbr5⟩
            case measure => simp [intOf]; omega
      · have htn : t = m := by omega
        subst htn
        have hnle : ¬ ((t : Int) + 1 ≤ (t : Int)) := by omega
        go_wp2
        go_ret
        exact ⟨by simp, by (repeat (first | exact Below.refl _ _ | assumption | refine Below.drew ?_ | refine below_drewN ?_ _ | refine balloc ?_ _ | refine Below.setCell ?_ (by first | (simp; done) | (simp; omega) | omega) _ | refine bchain (by assumption) ?_))⟩
end Go.Proofs.Ytbkfjhbebhnijaa
