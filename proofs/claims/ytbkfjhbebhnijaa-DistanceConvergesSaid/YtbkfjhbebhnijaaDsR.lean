/-
  The walk of DistanceConverges. Printed by gen_DsQ.py.
-/
import Derived.Test.YtbkfjhbebhnijaaDsP
namespace Go.Proofs.Ytbkfjhbebhnijaa
open Go.RowKit Go.Maps Go.WideElems Go.ChangeShapes Go.MapKept
set_option linter.unusedSimpArgs false
set_option linter.unusedVariables false

set_option maxRecDepth 100000 in
set_option maxHeartbeats 8000000 in
theorem dconv_any {ve vr vd : Value} {E : List (Int × Int)} {R D : List Int} (n : Int) (hn : 0 ≤ n ∧ n ≤ 255) (w : World) (he : EdgV w ve E) (hr : IntsV w vr R) (hd : IntsV w vd D) :
    Calls Try.prog 6 #[ve, vr, vd, .int .u8 n] w fun e w' => e = .returned (.bool true) ∧ Below w.heap.size w w' := by
  have hF := fun W (H : Below w.heap.size w W) => few_any (he.below H) (hr.below H) (hd.below H)
  go_enter Try.func6, Try.ntmps6
  go_wp2_with fail
  refine (awake_any _).mono ?_
  rintro e w1 ⟨rfl, hb1⟩
  have hc1 : Below w.heap.size w w1 := by (repeat (first | exact Below.refl _ _ | assumption | refine Below.drew ?_ | refine below_drewN ?_ _ | refine balloc ?_ _ | refine Below.setCell ?_ (by first | (simp; done) | (simp; omega) | omega) _ | refine bchain (by assumption) ?_))
  clear hb1
  go_wp2_with fail
  refine (hF _ hc1).mono ?_
  rintro e w2 ⟨b, rfl, hb, hb2⟩
  have hc2 : Below w.heap.size w w2 := by (repeat (first | exact Below.refl _ _ | assumption | refine Below.drew ?_ | refine below_drewN ?_ _ | refine balloc ?_ _ | refine Below.setCell ?_ (by first | (simp; done) | (simp; omega) | omega) _ | refine bchain (by assumption) ?_))
  clear hb2 hc1 hF
  cases b
  · clear hb
    go_wp2
    go_ret
    exact ⟨by simp, by (repeat (first | exact Below.refl _ _ | assumption | refine Below.drew ?_ | refine below_drewN ?_ _ | refine balloc ?_ _ | refine Below.setCell ?_ (by first | (simp; done) | (simp; omega) | omega) _ | refine bchain (by assumption) ?_))⟩
  · obtain ⟨z1, z2, z3⟩ := hb rfl
    have hBo := fun W (H : Below w.heap.size w W) => bound_any (he.below H) (hr.below H) (by omega) (by omega)
    have hV := fun W (H : Below w.heap.size w W) => vertices_any (he.below H) (hr.below H) (hd.below H) (by omega)
    obtain ⟨m, hm⟩ : ∃ m : Nat, n.tmod 8 = (m : Int) := ⟨(n.tmod 8).toNat, by rw [Int.tmod_eq_emod_of_nonneg hn.1]; omega⟩
    have hm7 : m ≤ 7 := by rw [Int.tmod_eq_emod_of_nonneg hn.1] at hm; omega
    have hvb := vtN_bd E R (n := D.length) (by omega)
    obtain ⟨N, hN⟩ : ∃ N : Nat, vtN E R D.length = (N : Int) := ⟨(vtN E R D.length).toNat, by omega⟩
    have hcv := Lib.hid (fun (v : Nat) (x : Int) (hx : (bndA E R)[v]? = some x) => conv_law (bnd_law E R) D (n := N + m) (by omega) (by omega) hx)
    have hRn := fun W (H : Below w.heap.size w W) => rounds_any (he.below H) (hr.below H) (hd.below H) (by omega) (by omega) (by omega) (N + m) (by omega)
    rw [hN] at hV hvb
    rw [Int.natCast_add] at hRn
    have hw0 : IntKind.u8.wrap (m : Int) = m := by rw [IntKind.wrap]; simp [IntKind.bits, IntKind.signed]; omega
    have hw1 : IntKind.i64.wrap ((N : Int) + (m : Int)) = (N : Int) + (m : Int) := IntWalk.i64_in _ (by omega)
    have hw2 : wrap64 ((N : Int) + (m : Int)) = (N : Int) + (m : Int) := IntWalk.wrap64_in _ (by omega)
    clear hb z1 z2 z3 he hr hd hN
    go_wp2_with fail
    refine (hBo _ hc2).mono ?_
    rintro e w3 ⟨v3, rfl, hi3, hb3⟩
    have hc3 : Below w.heap.size w w3 := by (repeat (first | exact Below.refl _ _ | assumption | refine Below.drew ?_ | refine below_drewN ?_ _ | refine balloc ?_ _ | refine Below.setCell ?_ (by first | (simp; done) | (simp; omega) | omega) _ | refine bchain (by assumption) ?_))
    clear hb3 hc2 hBo
    go_wp2_with fail
    refine (hV _ hc3).mono ?_
    rintro e w4 ⟨rfl, hb4⟩
    have hc4 : Below w.heap.size w w4 := by (repeat (first | exact Below.refl _ _ | assumption | refine Below.drew ?_ | refine below_drewN ?_ _ | refine balloc ?_ _ | refine Below.setCell ?_ (by first | (simp; done) | (simp; omega) | omega) _ | refine bchain (by assumption) ?_))
    have hi4 := hi3.below hb4
    clear hb4 hc3 hi3 hV
    go_wp2_with fail
    refine (hRn _ hc4).mono ?_
    rintro e w5 ⟨v5, rfl, hi5, hb5⟩
    have hc5 : Below w.heap.size w w5 := by (repeat (first | exact Below.refl _ _ | assumption | refine Below.drew ?_ | refine below_drewN ?_ _ | refine balloc ?_ _ | refine Below.setCell ?_ (by first | (simp; done) | (simp; omega) | omega) _ | refine bchain (by assumption) ?_))
    have hi3 := hi4.below hb5
    clear hb5 hc4 hi4 hRn
    obtain ⟨a3, c3, rfl, n3, m3, r3⟩ := hi3
    have rB := fun t (ht : t < (bndA E R).length) => IntsV.get r3 ht
    have RB := Lib.hid rB
    obtain ⟨a4, c4, rfl, n4, m4, r4⟩ := hi5
    have rD := fun k (hk : k < (rndN E R (N + m) D).length) => IntsV.get r4 hk
    have RD := Lib.hid rD
    clear r3 rB r4 rD
    obtain ⟨nb, hnb⟩ : ∃ k, (bndA E R).length = k := ⟨_, rfl⟩
    rw [hnb] at RB n3 ⊢
    obtain ⟨nd, hnd⟩ : ∃ k, (rndN E R (N + m) D).length = k := ⟨_, rfl⟩
    rw [hnd] at RD n4 ⊢
    have HND := Lib.hid hnd
    clear hnb hnd
    go_wp2_with fail
    go_loopw [11] (fun i wr => ∃ k : Nat, k ≤ nb ∧ i = .int .i64 k ∧ Below w5.heap.size w5 wr) (fun i _ => nb - (intOf i).toNat)
    case atStart => exact ⟨0, Nat.zero_le _, rfl, Below.refl _ _⟩
    case round =>
      obtain ⟨k, hk, rfl, hbk⟩ := hrel
      by_cases hkn : k < nb
      · obtain ⟨b2, f2, x, e2, hx, q2⟩ := RB.out k hkn
        cases e2
        obtain ⟨d, hd, hdx⟩ := hcv.out k x hx
        have hkd : k < nd := by have := (List.getElem?_eq_some_iff.1 hd).1; have := HND.out; omega
        obtain ⟨b1, f1, y, e1, hy, q1⟩ := RD.out k hkd
        cases e1
        rw [hd] at hy
        cases hy
        have q1 := bcellv hbk q1
        have q2 := bcellv hbk q2
        have s1 : ((k : Int)).toNat = k := by omega
        have hd1 : decide ((nd : Int) ≤ (k : Int)) = false := by simp; omega
        have hdn : ¬ ((nd : Int) ≤ (k : Int)) := by omega
        have hd5 : decide (nd ≤ k) = false := by simp; omega
        clear hd hx
        by_cases hx0 : 0 ≤ x
        · have hxd := hdx hx0
          have hd2 : decide (0 ≤ x) = true := by simpa using hx0
          clear hdx
          subst hxd
          have hnn : (d != d) = false := by simp
          go_wp2_with fail
          go_quiet (fail)
          go_wp2
          go_roundw
          case rel => exact ⟨k + 1, by omega, by go_num, by (repeat (first | exact Below.refl _ _ | assumption | refine Below.drew ?_ | refine below_drewN ?_ _ | refine balloc ?_ _ | refine Below.setCell ?_ (by first | (simp; done) | (simp; omega) | omega) _ | refine bchain (by assumption) ?_))⟩
          case measure => simp [intOf]; omega
        · have hd2 : decide (0 ≤ x) = false := by simpa using hx0
          clear hdx
          have o1 : ∀ x, (over wr x).cell? ⟨b1, f1 + k, none⟩ = _ := over_cell q1
          have o2 : ∀ x, (over wr x).cell? ⟨b2, f2 + k, none⟩ = _ := over_cell q2
          clear hx0
          go_wp2_with fail
          (refine wp_region_over (by kernel_rfl) (by kernel_rfl) ?_); (repeat (go_big_quiet_step ((fail)))); (refine wpQuiet_nil ?_)
          intro w6 hb6
          have hbk := bchain hb6 hbk
          go_wp2
          go_roundw
          case rel => exact ⟨k + 1, by omega, by go_num, by (repeat (first | exact Below.refl _ _ | assumption | refine Below.drew ?_ | refine below_drewN ?_ _ | refine balloc ?_ _ | refine Below.setCell ?_ (by first | (simp; done) | (simp; omega) | omega) _ | refine bchain (by assumption) ?_))⟩
          case measure => simp [intOf]; omega
      · have hkn' : k = nb := by omega
        subst hkn'
        go_wp2
        go_ret
        exact ⟨by simp, by (repeat (first | exact Below.refl _ _ | assumption | refine Below.drew ?_ | refine below_drewN ?_ _ | refine balloc ?_ _ | refine Below.setCell ?_ (by first | (simp; done) | (simp; omega) | omega) _ | refine bchain (by assumption) ?_))⟩
end Go.Proofs.Ytbkfjhbebhnijaa
