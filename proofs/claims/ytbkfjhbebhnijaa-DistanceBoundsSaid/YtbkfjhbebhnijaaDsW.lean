/-
  The walk of DistanceBounds. Printed by gen_DsQ.py.
-/
import Derived.Test.YtbkfjhbebhnijaaDsV
namespace Go.Proofs.Ytbkfjhbebhnijaa
open Go.RowKit Go.Maps Go.WideElems Go.ChangeShapes Go.MapKept
set_option linter.unusedSimpArgs false
set_option linter.unusedVariables false

/-- Has one of the first k edges a way to t that is one longer? -/
def Fnd (E : List (Int × Int)) (B : List Int) (x t : Int) (k : Nat) (fb : Bool) : Prop := (x ≤ 0 → fb = true) ∧ ∀ (j p : Nat) (y : Int), j < k → E[j]? = some ((p : Int), t) → vB (p : Int) = true → B[p]? = some y → 0 ≤ y → y = x - 1 → fb = true
theorem Fnd.start (E : List (Int × Int)) (B : List Int) (x t : Int) : Fnd E B x t 0 (decide (x ≤ 0)) := ⟨fun h => by simpa using h, fun j p y h => by omega⟩
theorem Fnd.skip {E : List (Int × Int)} {B : List Int} {x t : Int} {k : Nat} {fb : Bool} (h : Fnd E B x t k fb) {p q : Int} (he : E[k]? = some (p, q)) (hs : q ≠ t ∨ vB p = false) : Fnd E B x t (k + 1) fb := by
  refine ⟨h.1, fun j p' y hj hE hv hy h0 hx => ?_⟩
  by_cases e : j = k
  · subst e
    rw [he] at hE
    cases hE
    rcases hs with hs | hs
    · exact absurd rfl hs
    · rw [hs] at hv; cases hv
  · exact h.2 j p' y (by omega) hE hv hy h0 hx
theorem Fnd.step {E : List (Int × Int)} {B : List Int} {x t : Int} {k : Nat} {fb : Bool} (h : Fnd E B x t k fb) {p : Nat} {y : Int} (he : E[k]? = some ((p : Int), t)) (hy : B[p]? = some y) : Fnd E B x t (k + 1) (fb || (decide (0 ≤ y) && (y == x - 1))) := by
  refine ⟨fun hx => by rw [h.1 hx]; rfl, fun j p' y' hj hE hv hy' h0 hx => ?_⟩
  by_cases e : j = k
  · subst e
    rw [he] at hE
    have : p' = p := by
      have h1 := congrArg Prod.fst (Option.some.inj hE)
      simp only at h1
      omega
    subst this
    rw [hy] at hy'
    cases hy'
    simp [h0, hx]
    omega
  · rw [h.2 j p' y' (by omega) hE hv hy' h0 hx]; rfl
theorem Fnd.fin {E : List (Int × Int)} {R B : List Int} {x : Int} {t k : Nat} {fb : Bool} (h : Fnd E B x t k fb) (hB : Bnd E R B) (hx : B[t]? = some x) (hk : k = E.length) : fb = true := by
  by_cases h0 : x ≤ 0
  · exact h.1 h0
  · obtain ⟨p, hp, hy⟩ := hB.pre t x hx (by omega)
    obtain ⟨m1, m2⟩ := mem_prd.1 hp
    obtain ⟨j, hj⟩ := List.mem_iff_getElem?.1 m1
    have hjl := (List.getElem?_eq_some_iff.1 hj).1
    unfold edB at m2
    simp only [Bool.and_eq_true] at m2
    exact h.2 j p _ (by omega) hj m2.1 hy (by omega) rfl
set_option maxRecDepth 100000 in
set_option maxHeartbeats 8000000 in
theorem dbnds_any {ve vr : Value} {E : List (Int × Int)} {R : List Int} (w : World) (he : EdgV w ve E) (hr : IntsV w vr R) :
    Calls Try.prog 5 #[ve, vr] w fun e w' => e = .returned (.bool true) ∧ Below w.heap.size w w' := by
  have hF := fun W (H : Below w.heap.size w W) => few_any (he.below H) (hr.below H) (IntsV.nil W)
  go_enter Try.func5, Try.ntmps5
  go_wp2_with fail
  refine (awake_any _).mono ?_
  rintro e w1 ⟨rfl, hb1⟩
  have hc1 : Below w.heap.size w w1 := by (repeat (first | exact Below.refl _ _ | assumption | refine Below.drew ?_ | refine below_drewN ?_ _ | refine balloc ?_ _ | refine Below.setCell ?_ (by first | (simp; done) | (simp; omega) | omega) _ | refine bchain (by assumption) ?_))
  clear hb1
  go_wp2_with fail
  refine (hF _ hc1).mono ?_
  rintro e w2 ⟨b, rfl, hb, hb2⟩
  have hc2 : Below w.heap.size w w2 := by (repeat (first | exact Below.refl _ _ | assumption | refine Below.drew ?_ | refine below_drewN ?_ _ | refine balloc ?_ _ | refine Below.setCell ?_ (by first | (simp; done) | (simp; omega) | omega) _ | refine bchain (by assumption) ?_))
  clear hb2 hc1 hF
  cases b
  · clear hb
    go_wp2
    go_ret
    exact ⟨by simp, by (repeat (first | exact Below.refl _ _ | assumption | refine Below.drew ?_ | refine below_drewN ?_ _ | refine balloc ?_ _ | refine Below.setCell ?_ (by first | (simp; done) | (simp; omega) | omega) _ | refine bchain (by assumption) ?_))⟩
  · obtain ⟨z1, z2, z3⟩ := hb rfl
    have hBo := fun W (H : Below w.heap.size w W) => bound_any (he.below H) (hr.below H) (by omega) (by omega)
    have hV : ∀ W, Below w.heap.size w W → Calls Try.prog 19 #[ve, vr, .slice none 0 0] W fun e w' => e = .returned (.int .i64 (vtN E R 0)) ∧ Below W.heap.size W w' := fun W (H : Below w.heap.size w W) => vertices_any (he.below H) (hr.below H) (IntsV.nil W) (by simp)
    have hRt := fun W (H : Below w.heap.size w W) (x : Int) => root_any x (hr.below H)
    have HRt := Lib.hid hRt
    have hvb := vtN_bd E R (n := 0) (by omega)
    obtain ⟨N, hN⟩ : ∃ N : Nat, vtN E R 0 = (N : Int) := ⟨(vtN E R 0).toNat, by omega⟩
    have hbl := bnd_law E R
    have hBL := hbl.len
    rw [hN] at hV hvb hBL
    have hBl2 : (bndA E R).length = N := by omega
    have HB := Lib.hid hbl
    have HNV := Lib.hid hN
    obtain ⟨ae, ce, rfl, ne1, me1, re⟩ := he
    have rE := fun t (ht : t < E.length) => EdgV.get re ht
    have RE := Lib.hid rE
    obtain ⟨ne, hne⟩ : ∃ n, E.length = n := ⟨_, rfl⟩
    rw [hne] at ne1 RE
    simp only [hne] at hBo hV ⊢
    have HNE := Lib.hid hne
    have hne60 : ne ≤ 60 := by omega
    clear hb z1 z2 z3 hr hN hbl hBL hne re rE hRt
    go_wp2_with fail
    refine (hBo _ hc2).mono ?_
    rintro e w3 ⟨v3, rfl, hi3, hb3⟩
    have hc3 : Below w.heap.size w w3 := by (repeat (first | exact Below.refl _ _ | assumption | refine Below.drew ?_ | refine below_drewN ?_ _ | refine balloc ?_ _ | refine Below.setCell ?_ (by first | (simp; done) | (simp; omega) | omega) _ | refine bchain (by assumption) ?_))
    clear hb3 hc2 hBo
    obtain ⟨a3, c3, rfl, n3, m3, r3⟩ := hi3
    have rB := fun t (ht : t < (bndA E R).length) => IntsV.get r3 ht
    have RB := Lib.hid rB
    rw [hBl2] at RB n3 ⊢
    clear r3 rB hBl2
    go_wp2_with fail
    refine (hV _ hc3).mono ?_
    rintro e w4 ⟨rfl, hb4⟩
    have hc4 : Below w.heap.size w w4 := by (repeat (first | exact Below.refl _ _ | assumption | refine Below.drew ?_ | refine below_drewN ?_ _ | refine balloc ?_ _ | refine Below.setCell ?_ (by first | (simp; done) | (simp; omega) | omega) _ | refine bchain (by assumption) ?_))
    clear hc3 hV
    have hnn : ((N : Int) != (N : Int)) = false := by simp
    go_wp2_with fail
    go_loopw [6] (fun i wr => ∃ t : Nat, t ≤ N ∧ i = .int .i64 t ∧ Below w4.heap.size w4 wr) (fun i _ => N - (intOf i).toNat)
    case atStart => exact ⟨0, Nat.zero_le _, rfl, Below.refl _ _⟩
    case round =>
      obtain ⟨t, ht, rfl, hbr⟩ := hrel
      by_cases htn : t < N
      · obtain ⟨b1, f1, x, e1, hx, q1⟩ := RB.out t htn
        cases e1
        have q1 := bcellv (bchain hbr hb4) q1
        have s1 : ((t : Int)).toNat = t := by omega
        have hlo := HB.out.lo t x hx
        have hze := HB.out.zero t x hx
        have hrt : rtB R (t : Int) = R.contains (t : Int) := by unfold rtB; rw [vB_iff.2 (by omega)]; rfl
        rw [hrt] at hze
        have HX := Lib.hid hx
        have hRt := fun W (H : Below w.heap.size w W) => HRt.out W H (t : Int)
        have hrd : R.contains (t : Int) = (x == 0) := by
          by_cases h0 : x = 0
          · rw [hze.1 h0]; simp [h0]
          · have h1 : ¬ R.contains (t : Int) = true := fun h => h0 (hze.2 h)
            rw [Bool.not_eq_true] at h1
            rw [h1]
            symm
            simpa using h0
        rw [hrd] at hRt
        have hbw := bchain hbr hc4
        have hd1 : decide (x < -1) = false := by simp; omega
        have o1 : ∀ z, (over wr z).cell? ⟨b1, f1 + t, none⟩ = _ := over_cell q1
        clear hx hze hrt hrd
        go_wp2_with fail
        (refine wp_region_over (by kernel_rfl) (by kernel_rfl) ?_); (repeat (go_big_quiet_step (((go_at_call 20; exact calls_over (hRt _ (bchain (over_below _ _) hbw))))))); (refine wpQuiet_nil ?_)
        intro w5 hb5
        have hbr5 := bchain hb5 hbr
        have hxN := bnd_lt HB.out HX.out
        obtain ⟨wo, hwo⟩ : ∃ W, W = wr := ⟨_, rfl⟩
        subst hwo
        have q1 := bcellv hb5 q1
        have HLO := Lib.hid hlo
        clear o1 hd1 hRt
        go_wp2_with fail
        go_loopw [7, 8] (fun v7 i wr => ∃ (k : Nat) (fb : Bool), k ≤ ne ∧ i = .int .i64 k ∧ v7 = .bool fb ∧ Fnd E (bndA E R) x (t : Int) k fb ∧ Below w5.heap.size w5 wr) (fun v7 i _ => ne - (intOf i).toNat)
        case atStart => exact ⟨0, _, Nat.zero_le _, rfl, rfl, Fnd.start _ _ _ _, Below.refl _ _⟩
        case round =>
          obtain ⟨k, fb, hk, rfl, rfl, hf, hbk⟩ := hrel
          have hbk4 := bchain hbk hbr5
          have hbw := bchain hbk4 hc4
          have qt := bcellv hbk q1
          by_cases hkn : k < ne
          · obtain ⟨b2, f2, p, q, e2, hE, c1, c2⟩ := RE.out k hkn
            cases e2
            have c1 := bcellv hbw c1
            have c2 := bcellv hbw c2
            have s2 : ((k : Int)).toNat = k := by omega
            have hvp := fun W => rvertex_any p W
            by_cases hq : q = (t : Int)
            · subst hq
              have hnn4 : ((t : Int) != (t : Int)) = false := by simp
              have kx : (wr.alloc (.cells #[.int .i64 p, .int .i64 (t : Int)] 34)).cell? ⟨wr.heap.size, 0, none⟩ = some (.int .i64 p) := by rw [cell_of_block (alloc_get _ _)]; rfl
              have kx1 : (wr.alloc (.cells #[.int .i64 p, .int .i64 (t : Int)] 34)).cell? ⟨wr.heap.size, 1, none⟩ = some (.int .i64 (t : Int)) := by rw [cell_of_block (alloc_get _ _)]; rfl
              cases hp : vB p
              · rw [hp] at hvp
                have hf1 := hf.skip hE (.inr hp)
                clear hE hp
                go_wp2_with fail
                refine (hvp _).mono ?_
                rintro e w6 ⟨rfl, hb6⟩
                have hbk6 := bchain hb6 (balloc hbk _)
                clear kx kx1
                go_wp2
                go_roundw
                case rel => exact ⟨k + 1, fb, by omega, by go_num, rfl, hf1, by (repeat (first | exact Below.refl _ _ | assumption | refine Below.drew ?_ | refine below_drewN ?_ _ | refine balloc ?_ _ | refine Below.setCell ?_ (by first | (simp; done) | (simp; omega) | omega) _ | refine bchain (by assumption) ?_))⟩
                case measure => simp [intOf]; omega
              · rw [hp] at hvp
                obtain ⟨p0, p1⟩ := vB_iff.1 hp
                have hed : edB (p, (t : Int)) = true := by unfold edB; rw [hp, vB_iff.2 (by omega)]; rfl
                have hmem := List.mem_of_getElem? hE
                have hpN := (vtN_edge (R := R) (n := 0) hmem hed).1
                rw [HNV.out] at hpN
                obtain ⟨p, rfl⟩ := Int.eq_ofNat_of_zero_le p0
                obtain ⟨b3, f3, y, e3, hy, qp⟩ := RB.out p (by simp only at hpN; omega)
                cases e3
                have qp := bcellv (bchain hbk4 hb4) qp
                have hnx := HB.out.nxt p t y x (mem_prd.2 ⟨hmem, hed⟩) hy HX.out
                have hylo := HB.out.lo p y hy
                have hyN := bnd_lt HB.out hy
                have hf1 := hf.step hE hy
                have hBn := HB.out.len
                rw [HNV.out] at hBn
                have hxlo := HLO.out
                have s3 : ((p : Int)).toNat = p := by omega
                have s4 : wrap64 (y + 1) = y + 1 := IntWalk.wrap64_in _ (by omega)
                have s5 : IntKind.i64.wrap (y + 1) = y + 1 := IntWalk.i64_in _ (by omega)
                have s6 : wrap64 (x - 1) = x - 1 := IntWalk.wrap64_in _ (by omega)
                have s7 : IntKind.i64.wrap (x - 1) = x - 1 := IntWalk.i64_in _ (by omega)
                have hpN2 : p < N := by simp only at hpN; omega
                have HF1 := Lib.hid hf1
                clear hf hf1 hE hp hy hmem hed hpN hyN hBn hxlo hylo
                go_wp2_with fail
                refine (hvp _).mono ?_
                rintro e w6 ⟨rfl, hb6⟩
                have hbk6 := bchain hb6 (balloc hbk _)
                have kx := bcellv hb6 kx
                have qt := bcellv hb6 (bcellv (balloc (Below.refl _ _) _) qt)
                have qp := bcellv hb6 (bcellv (balloc (Below.refl _ _) _) qp)
                clear kx1 hvp
                by_cases hy0 : 0 ≤ y
                · have d1 : decide (0 ≤ y) = true := by simpa using hy0
                  have d2 : decide (x < 0) = false := by have := hnx hy0; simp; omega
                  have d3 : decide (y + 1 < x) = false := by have := hnx hy0; simp; omega
                  clear hnx
                  have o1 : ∀ z, (over w6 z).cell? ⟨b1, f1 + t, none⟩ = _ := over_cell qt
                  have o2 : ∀ z, (over w6 z).cell? ⟨b1, f1 + p, none⟩ = _ := over_cell qp
                  have o3 : ∀ z, (over w6 z).cell? ⟨wr.heap.size, 0, none⟩ = _ := over_cell kx
                  go_wp2_with fail
                  (refine wp_region_over (by kernel_rfl) (by kernel_rfl) ?_); (repeat (go_big_quiet_step ((fail)))); (refine wpQuiet_nil ?_)
                  intro w7 hw7
                  have hbk7 := bchain hw7 hbk6
                  have qt := bcellv hw7 qt
                  have qp := bcellv hw7 qp
                  have kx := bcellv hw7 kx
                  clear o1 o2 o3
                  cases fb
                  · by_cases hyx : (y == x - 1) = true
                    · have hf2 : Fnd E (bndA E R) x (t : Int) (k + 1) true := by have := HF1.out; rw [d1, hyx] at this; exact this
                      have o1 : ∀ z, (over w7 z).cell? ⟨b1, f1 + t, none⟩ = _ := over_cell qt
                      have o2 : ∀ z, (over w7 z).cell? ⟨b1, f1 + p, none⟩ = _ := over_cell qp
                      have o3 : ∀ z, (over w7 z).cell? ⟨wr.heap.size, 0, none⟩ = _ := over_cell kx
                      go_wp2_with fail
                      (refine wp_region_over (by kernel_rfl) (by kernel_rfl) ?_); (repeat (go_big_quiet_step ((fail)))); (refine wpQuiet_nil ?_)
                      intro w8 hw8
                      have hbk8 := bchain hw8 hbk7
                      have qt := bcellv hw8 qt
                      have qp := bcellv hw8 qp
                      have kx := bcellv hw8 kx
                      clear o1 o2 o3
                      go_wp2
                      go_roundw
                      case rel => exact ⟨k + 1, _, by omega, by go_num, rfl, hf2, hbk8⟩
                      case measure => simp [intOf]; omega
                    · rw [Bool.not_eq_true] at hyx
                      have hf2 : Fnd E (bndA E R) x (t : Int) (k + 1) false := by have := HF1.out; rw [d1, hyx] at this; exact this
                      have o1 : ∀ z, (over w7 z).cell? ⟨b1, f1 + t, none⟩ = _ := over_cell qt
                      have o2 : ∀ z, (over w7 z).cell? ⟨b1, f1 + p, none⟩ = _ := over_cell qp
                      have o3 : ∀ z, (over w7 z).cell? ⟨wr.heap.size, 0, none⟩ = _ := over_cell kx
                      go_wp2_with fail
                      (refine wp_region_over (by kernel_rfl) (by kernel_rfl) ?_); (repeat (go_big_quiet_step ((fail)))); (refine wpQuiet_nil ?_)
                      intro w8 hw8
                      have hbk8 := bchain hw8 hbk7
                      have qt := bcellv hw8 qt
                      have qp := bcellv hw8 qp
                      have kx := bcellv hw8 kx
                      clear o1 o2 o3
                      go_wp2
                      go_roundw
                      case rel => exact ⟨k + 1, _, by omega, by go_num, rfl, hf2, hbk8⟩
                      case measure => simp [intOf]; omega
                  · have hf2 : Fnd E (bndA E R) x (t : Int) (k + 1) true := HF1.out
                    have o1 : ∀ z, (over w7 z).cell? ⟨b1, f1 + t, none⟩ = _ := over_cell qt
                    have o2 : ∀ z, (over w7 z).cell? ⟨b1, f1 + p, none⟩ = _ := over_cell qp
                    have o3 : ∀ z, (over w7 z).cell? ⟨wr.heap.size, 0, none⟩ = _ := over_cell kx
                    go_wp2_with fail
                    (refine wp_region_over (by kernel_rfl) (by kernel_rfl) ?_); (repeat (go_big_quiet_step ((fail)))); (refine wpQuiet_nil ?_)
                    intro w8 hw8
                    have hbk8 := bchain hw8 hbk7
                    have qt := bcellv hw8 qt
                    have qp := bcellv hw8 qp
                    have kx := bcellv hw8 kx
                    clear o1 o2 o3
                    go_wp2
                    go_roundw
                    case rel => exact ⟨k + 1, _, by omega, by go_num, rfl, hf2, hbk8⟩
                    case measure => simp [intOf]; omega
                · have d1 : decide (0 ≤ y) = false := by simpa using hy0
                  clear hnx
                  have o1 : ∀ z, (over w6 z).cell? ⟨b1, f1 + t, none⟩ = _ := over_cell qt
                  have o2 : ∀ z, (over w6 z).cell? ⟨b1, f1 + p, none⟩ = _ := over_cell qp
                  have o3 : ∀ z, (over w6 z).cell? ⟨wr.heap.size, 0, none⟩ = _ := over_cell kx
                  go_wp2_with fail
                  (refine wp_region_over (by kernel_rfl) (by kernel_rfl) ?_); (repeat (go_big_quiet_step ((fail)))); (refine wpQuiet_nil ?_)
                  intro w7 hw7
                  have hbk7 := bchain hw7 hbk6
                  have qt := bcellv hw7 qt
                  have qp := bcellv hw7 qp
                  have kx := bcellv hw7 kx
                  clear o1 o2 o3
                  cases fb
                  · have hf2 : Fnd E (bndA E R) x (t : Int) (k + 1) false := by have := HF1.out; rw [d1] at this; exact this
                    have o1 : ∀ z, (over w7 z).cell? ⟨b1, f1 + t, none⟩ = _ := over_cell qt
                    have o2 : ∀ z, (over w7 z).cell? ⟨b1, f1 + p, none⟩ = _ := over_cell qp
                    have o3 : ∀ z, (over w7 z).cell? ⟨wr.heap.size, 0, none⟩ = _ := over_cell kx
                    go_wp2_with fail
                    (refine wp_region_over (by kernel_rfl) (by kernel_rfl) ?_); (repeat (go_big_quiet_step ((fail)))); (refine wpQuiet_nil ?_)
                    intro w8 hw8
                    have hbk8 := bchain hw8 hbk7
                    have qt := bcellv hw8 qt
                    have qp := bcellv hw8 qp
                    have kx := bcellv hw8 kx
                    clear o1 o2 o3
                    go_wp2
                    go_roundw
                    case rel => exact ⟨k + 1, _, by omega, by go_num, rfl, hf2, hbk8⟩
                    case measure => simp [intOf]; omega
                  · have hf2 : Fnd E (bndA E R) x (t : Int) (k + 1) true := HF1.out
                    have o1 : ∀ z, (over w7 z).cell? ⟨b1, f1 + t, none⟩ = _ := over_cell qt
                    have o2 : ∀ z, (over w7 z).cell? ⟨b1, f1 + p, none⟩ = _ := over_cell qp
                    have o3 : ∀ z, (over w7 z).cell? ⟨wr.heap.size, 0, none⟩ = _ := over_cell kx
                    go_wp2_with fail
                    (refine wp_region_over (by kernel_rfl) (by kernel_rfl) ?_); (repeat (go_big_quiet_step ((fail)))); (refine wpQuiet_nil ?_)
                    intro w8 hw8
                    have hbk8 := bchain hw8 hbk7
                    have qt := bcellv hw8 qt
                    have qp := bcellv hw8 qp
                    have kx := bcellv hw8 kx
                    clear o1 o2 o3
                    go_wp2
                    go_roundw
                    case rel => exact ⟨k + 1, _, by omega, by go_num, rfl, hf2, hbk8⟩
                    case measure => simp [intOf]; omega
            · have hf1 := hf.skip hE (.inl hq)
              have hnn4 : (q != (t : Int)) = true := by simpa using hq
              clear hE hf
              go_wp2
              go_roundw
              case rel => exact ⟨k + 1, fb, by omega, by go_num, rfl, hf1, by (repeat (first | exact Below.refl _ _ | assumption | refine Below.drew ?_ | refine below_drewN ?_ _ | refine balloc ?_ _ | refine Below.setCell ?_ (by first | (simp; done) | (simp; omega) | omega) _ | refine bchain (by assumption) ?_))⟩
              case measure => simp [intOf]; omega
          · have hfin := hf.fin HB.out HX.out (by have := HNE.out; omega)
            subst hfin
            clear hf
            go_wp2
            go_roundw
            case rel => exact ⟨t + 1, by omega, by go_num, hbk4⟩
            case measure => simp [intOf]; omega
      · have htn' : t = N := by omega
        subst htn'
        go_wp2
        go_ret
        exact ⟨by simp, by (repeat (first | exact Below.refl _ _ | assumption | refine Below.drew ?_ | refine below_drewN ?_ _ | refine balloc ?_ _ | refine Below.setCell ?_ (by first | (simp; done) | (simp; omega) | omega) _ | refine bchain (by assumption) ?_))⟩
end Go.Proofs.Ytbkfjhbebhnijaa
