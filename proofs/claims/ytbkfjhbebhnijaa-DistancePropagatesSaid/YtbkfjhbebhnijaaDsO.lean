/-
  refmeshlaw31.rounds; awake.
-/
import Derived.Test.YtbkfjhbebhnijaaDsN
namespace Go.Proofs.Ytbkfjhbebhnijaa
open Go.RowKit Go.Maps Go.WideElems Go.ChangeShapes Go.MapKept
set_option linter.unusedSimpArgs false
set_option linter.unusedVariables false

theorem rndA_le (E : List (Int × Int)) (R D : List Int) : (rndA E R D).length ≤ 10001 := by
  have := rndA_len E R D
  have := vtN_bd E R (n := D.length) (by omega)
  omega
set_option maxRecDepth 100000 in
set_option maxHeartbeats 8000000 in
theorem rounds_any {w : World} {ve vr vd : Value} {E : List (Int × Int)} {R D : List Int} (he : EdgV w ve E) (hr : IntsV w vr R) (hd : IntsV w vd D) (hn : D.length ≤ 10001) (hEl : E.length ≤ 1000) (hRl : R.length ≤ 1000) (n : Nat) (hn2 : n ≤ 20000) :
    Calls Try.prog 22 #[ve, vr, vd, .int .i64 (n : Int)] w fun e w' => ∃ v, e = .returned v ∧ IntsV w' v (rndN E R n D) ∧ Below w.heap.size w w' := by
  have hR := fun (W : World) (H : Below w.heap.size w W) (v : Value) (X : List Int) (hX : IntsV W v X) (hl : X.length ≤ 10001) => round_any (he.below H) (hr.below H) hX hl hEl hRl
  have HR := Lib.hid hR
  clear he hr hR
  go_enter Try.func22, Try.ntmps22
  go_wp2_with fail
  go_loopw [2, 9] (fun v2 i wr => ∃ t : Nat, t ≤ n ∧ i = .int .i64 t ∧ IntsV wr v2 (rndN E R t D) ∧ Below w.heap.size w wr) (fun v2 i _ => n - (intOf i).toNat)
  case atStart => exact ⟨0, Nat.zero_le _, rfl, hd, Below.refl _ _⟩
  case round =>
    clear hd
    obtain ⟨t, ht, rfl, hI, hbr⟩ := hrel
    by_cases hlt : t < n
    · have hl : (rndN E R t D).length ≤ 10001 := by
        cases t with
        | zero => exact hn
        | succ t => exact rndA_le E R _
      have hc := HR.out wr hbr u2 _ hI hl
      have HL := Lib.hid hl
      clear hl
      go_wp2_with fail
      refine hc.mono ?_
      rintro e w1 ⟨v, rfl, hI1, hb1⟩
      have hbr := bchain hb1 hbr
      clear hc
      go_wp2
      go_roundw
      case rel => exact ⟨t + 1, by omega, by go_num, hI1, hbr⟩
      case measure => simp [intOf]; omega
    · have htn : t = n := by omega
      subst htn
      go_wp2
      go_ret
      exact ⟨_, rfl, hI, hbr⟩
theorem IntsV.nil (w : World) : IntsV w (.slice none 0 0) [] := ⟨none, 0, rfl, Nat.le_refl _, by omega, .inl rfl⟩
theorem ints_new {W : World} {g n : Nat} {cs : Array Value} {t : TypeId} (xs : List Int) (hg : W.heap.size = g) (hc : cs.toList = xs.map (Value.int .i64)) (hn : xs.length = n) (h63 : n ≤ 9223372036854775807) : IntsV (W.alloc (.cells cs t)) (.slice (some ⟨g, 0, none⟩) n n) xs := by
  subst hg hn
  refine ⟨_, _, rfl, Nat.le_refl _, h63, .inr ⟨_, 0, rfl, fun i x hx => ?_⟩⟩
  rw [Nat.zero_add, cell_of_block (alloc_get W _), ← Array.getElem?_toList, hc, List.getElem?_map, hx]
  rfl
set_option maxRecDepth 100000 in
set_option maxHeartbeats 8000000 in
theorem awake_any (w : World) : Calls Try.prog 11 #[] w fun e w' => e = .returned (.bool true) ∧ Below w.heap.size w w' := by
  go_enter Try.func11, Try.ntmps11
  go_upto_region 2 with fail
  have hE : EdgV (w.alloc (.cells #[.int .i64 0, .int .i64 1, .int .i64 1, .int .i64 2, .int .i64 3, .int .i64 3] 34)) (.slice (some ⟨w.heap.size, 0, none⟩) 3 3) [(0, 1), (1, 2), (3, 3)] := by
    refine ⟨_, _, rfl, Nat.le_refl _, by decide, .inr ⟨_, 0, rfl, fun i e he => ?_⟩⟩
    rw [Nat.zero_add, cell_of_block (alloc_get w _), cell_of_block (alloc_get w _)]
    match i, he with
    | 0, he => cases he; exact ⟨rfl, rfl⟩
    | 1, he => cases he; exact ⟨rfl, rfl⟩
    | 2, he => cases he; exact ⟨rfl, rfl⟩
    | (i + 3), he => simp at he
  have hB0 : Below w.heap.size w (w.alloc (.cells #[.int .i64 0, .int .i64 1, .int .i64 1, .int .i64 2, .int .i64 3, .int .i64 3] 34)) := balloc (Below.refl _ _) _
  generalize w.alloc (.cells #[.int .i64 0, .int .i64 1, .int .i64 1, .int .i64 2, .int .i64 3, .int .i64 3] 34) = w0 at *
  have hE' := fun W (H : Below w0.heap.size w0 W) => hE.below H
  have HE := Lib.hid hE'
  clear hE hE'
  have z1 : stubA false [4, 2] = 3 := by decide
  have z2 : stubA true [4] = 1 := by decide
  have z3 : bndA [(0, 1), (1, 2), (3, 3)] [0] = [0, 1, 2, -1] := by decide
  have z4 : rndA [(0, 1), (1, 2), (3, 3)] [0] [0, 0, 0, 5] = [0, 1, 1, 6] := by decide
  have Z1 := Lib.hid z1
  have Z2 := Lib.hid z2
  have Z3 := Lib.hid z3
  have Z4 := Lib.hid z4
  clear z1 z2 z3 z4
  go_wp2_with fail
  refine (stub_any false (ints_new [4, 2] rfl rfl rfl (by decide))).mono ?_
  rw [Z1.out]
  rintro e w1 ⟨rfl, hb1⟩
  have hc1 : Below w0.heap.size w0 w1 := bchain hb1 (balloc (Below.refl _ _) _)
  clear hb1
  go_wp2_with fail
  refine (stub_any true (ints_new [4] rfl rfl rfl (by decide))).mono ?_
  rw [Z2.out]
  rintro e w2 ⟨rfl, hb2⟩
  have hc2 : Below w0.heap.size w0 w2 := bchain hb2 (balloc hc1 _)
  clear hb2 hc1
  go_wp2_with fail
  refine (bound_any (HE.out _ (balloc hc2 _)) (ints_new [0] rfl rfl rfl (by decide)) (by decide) (by decide)).mono ?_
  rw [Z3.out]
  rintro e w3 ⟨v3, rfl, hi3, hb3⟩
  have hc3 : Below w0.heap.size w0 w3 := bchain hb3 (balloc hc2 _)
  clear hb3 hc2
  go_wp2_with fail
  refine (ints_any (hi3.below (balloc (Below.refl _ _) _)) (ints_new [0, 1, 2, -1] rfl rfl rfl (by decide))).mono ?_
  rintro e w4 ⟨rfl, hb4⟩
  have hc4 : Below w0.heap.size w0 w4 := bchain hb4 (balloc hc3 _)
  clear hb4 hc3 hi3
  go_wp2_with fail
  refine (round_any (HE.out _ (balloc (balloc hc4 _) _)) ((ints_new [0] rfl rfl rfl (by decide)).below (balloc (Below.refl _ _) _)) (ints_new [0, 0, 0, 5] (by simp) rfl rfl (by decide)) (by decide) (by decide) (by decide)).mono ?_
  rw [Z4.out]
  rintro e w5 ⟨v5, rfl, hi5, hb5⟩
  have hc5 : Below w0.heap.size w0 w5 := bchain hb5 (balloc (balloc hc4 _) _)
  clear hb5 hc4
  go_wp2_with fail
  refine (ints_any (hi5.below (balloc (Below.refl _ _) _)) (ints_new [0, 1, 1, 6] rfl rfl rfl (by decide))).mono ?_
  rintro e w6 ⟨rfl, hb6⟩
  have hc6 : Below w.heap.size w w6 := bchain (bchain hb6 (balloc hc5 _)) hB0
  go_wp2
  go_ret
  exact ⟨by simp, hc6⟩
end Go.Proofs.Ytbkfjhbebhnijaa
