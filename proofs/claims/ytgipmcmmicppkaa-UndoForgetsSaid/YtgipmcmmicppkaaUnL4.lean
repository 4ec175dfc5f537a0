/-
  law 13: UndoForgets.
-/
import Derived.Test.YtgipmcmmicppkaaUnK
import Derived.Test.YtgipmcmmicppkaaUnI
namespace Go.Proofs.Ytgipmcmmicppkaa
open Go.RowKit
set_option linter.unusedSimpArgs false
set_option linter.unusedVariables false

def F5 (x y z : Int) : List Int := [encI 0 1 3, idI 1 1, x, y, z]
theorem fo_back {x y z x' y' z' a c : Int} (h : rbW (F5 x y z) N13 [(a, c)] = (F5 x' y' z', N13)) : rlE ⟨F5 x y z, N13, true, 16777216 + N13.length, [(a, c)]⟩ = 0 ∧ rlS ⟨F5 x y z, N13, true, 16777216 + N13.length, [(a, c)]⟩ = ⟨F5 x' y' z', N13, false, 0, []⟩ := by
  have hg := (Grown.refl sound_N).back (bs := 16777216)
  unfold rlE rlS
  simp only [if_true, h, hg.1, hg.2]
  exact ⟨trivial, trivial⟩
/-- What UndoForgets asks of the states. -/
structure Forg (a b v u : Int) (N S1 S2 : M13) : Prop where
  le : LE (bgS s13).wo (bgS s13).wy (2 + a) = 0
  e1 : sfE N.wo N.wy 0 a = 0
  e2 : sfE S1.wo S1.wy 0 b = 0
  rl : rlE S2 = 0
  va : FV (rlS S2).wo (rlS S2).wy 0 a = FV (bgS s13).wo (bgS s13).wy 0 a
  vb : FV (rlS S2).wo (rlS S2).wy 0 b = u
  ln : S2.nt.length ≤ 100000
set_option maxRecDepth 100000 in
theorem forg_01 (v u : Int) : Forg 0 1 v u (ntS (bgS s13) (2 + 0)) (sfS (ntS (bgS s13) (2 + 0)) 0 0 v) (sfS (sfS (ntS (bgS s13) (2 + 0)) 0 0 v) 0 1 u) := by
  have hN : ntS (bgS s13) (2 + 0) = ⟨F5 0 0 0, N13, true, 16777216 + N13.length, [(2 + 0, 0)]⟩ := by kernel_rfl
  have h1 : sfS ⟨F5 0 0 0, N13, true, 16777216 + N13.length, [(2 + 0, 0)]⟩ 0 0 v = ⟨F5 v 0 0, N13, true, 16777216 + N13.length, [(2 + 0, 0)]⟩ := by kernel_rfl
  have h2 : sfS ⟨F5 v 0 0, N13, true, 16777216 + N13.length, [(2 + 0, 0)]⟩ 0 1 u = ⟨F5 v u 0, N13, true, 16777216 + N13.length, [(2 + 0, 0)]⟩ := by kernel_rfl
  have h3 := fo_back (x := v) (y := u) (z := 0) (x' := 0) (y' := u) (z' := 0) (a := 2 + 0) (c := 0) (by kernel_rfl)
  rw [hN, h1, h2]
  refine ⟨by kernel_rfl, by kernel_rfl, by kernel_rfl, h3.1, ?_, ?_, by simp⟩
  · rw [h3.2]
    kernel_rfl
  · rw [h3.2]
    kernel_rfl
set_option maxRecDepth 100000 in
theorem forg_02 (v u : Int) : Forg 0 2 v u (ntS (bgS s13) (2 + 0)) (sfS (ntS (bgS s13) (2 + 0)) 0 0 v) (sfS (sfS (ntS (bgS s13) (2 + 0)) 0 0 v) 0 2 u) := by
  have hN : ntS (bgS s13) (2 + 0) = ⟨F5 0 0 0, N13, true, 16777216 + N13.length, [(2 + 0, 0)]⟩ := by kernel_rfl
  have h1 : sfS ⟨F5 0 0 0, N13, true, 16777216 + N13.length, [(2 + 0, 0)]⟩ 0 0 v = ⟨F5 v 0 0, N13, true, 16777216 + N13.length, [(2 + 0, 0)]⟩ := by kernel_rfl
  have h2 : sfS ⟨F5 v 0 0, N13, true, 16777216 + N13.length, [(2 + 0, 0)]⟩ 0 2 u = ⟨F5 v 0 u, N13, true, 16777216 + N13.length, [(2 + 0, 0)]⟩ := by kernel_rfl
  have h3 := fo_back (x := v) (y := 0) (z := u) (x' := 0) (y' := 0) (z' := u) (a := 2 + 0) (c := 0) (by kernel_rfl)
  rw [hN, h1, h2]
  refine ⟨by kernel_rfl, by kernel_rfl, by kernel_rfl, h3.1, ?_, ?_, by simp⟩
  · rw [h3.2]
    kernel_rfl
  · rw [h3.2]
    kernel_rfl
set_option maxRecDepth 100000 in
theorem forg_10 (v u : Int) : Forg 1 0 v u (ntS (bgS s13) (2 + 1)) (sfS (ntS (bgS s13) (2 + 1)) 0 1 v) (sfS (sfS (ntS (bgS s13) (2 + 1)) 0 1 v) 0 0 u) := by
  have hN : ntS (bgS s13) (2 + 1) = ⟨F5 0 0 0, N13, true, 16777216 + N13.length, [(2 + 1, 0)]⟩ := by kernel_rfl
  have h1 : sfS ⟨F5 0 0 0, N13, true, 16777216 + N13.length, [(2 + 1, 0)]⟩ 0 1 v = ⟨F5 0 v 0, N13, true, 16777216 + N13.length, [(2 + 1, 0)]⟩ := by kernel_rfl
  have h2 : sfS ⟨F5 0 v 0, N13, true, 16777216 + N13.length, [(2 + 1, 0)]⟩ 0 0 u = ⟨F5 u v 0, N13, true, 16777216 + N13.length, [(2 + 1, 0)]⟩ := by kernel_rfl
  have h3 := fo_back (x := u) (y := v) (z := 0) (x' := u) (y' := 0) (z' := 0) (a := 2 + 1) (c := 0) (by kernel_rfl)
  rw [hN, h1, h2]
  refine ⟨by kernel_rfl, by kernel_rfl, by kernel_rfl, h3.1, ?_, ?_, by simp⟩
  · rw [h3.2]
    kernel_rfl
  · rw [h3.2]
    kernel_rfl
set_option maxRecDepth 100000 in
theorem forg_12 (v u : Int) : Forg 1 2 v u (ntS (bgS s13) (2 + 1)) (sfS (ntS (bgS s13) (2 + 1)) 0 1 v) (sfS (sfS (ntS (bgS s13) (2 + 1)) 0 1 v) 0 2 u) := by
  have hN : ntS (bgS s13) (2 + 1) = ⟨F5 0 0 0, N13, true, 16777216 + N13.length, [(2 + 1, 0)]⟩ := by kernel_rfl
  have h1 : sfS ⟨F5 0 0 0, N13, true, 16777216 + N13.length, [(2 + 1, 0)]⟩ 0 1 v = ⟨F5 0 v 0, N13, true, 16777216 + N13.length, [(2 + 1, 0)]⟩ := by kernel_rfl
  have h2 : sfS ⟨F5 0 v 0, N13, true, 16777216 + N13.length, [(2 + 1, 0)]⟩ 0 2 u = ⟨F5 0 v u, N13, true, 16777216 + N13.length, [(2 + 1, 0)]⟩ := by kernel_rfl
  have h3 := fo_back (x := 0) (y := v) (z := u) (x' := 0) (y' := 0) (z' := u) (a := 2 + 1) (c := 0) (by kernel_rfl)
  rw [hN, h1, h2]
  refine ⟨by kernel_rfl, by kernel_rfl, by kernel_rfl, h3.1, ?_, ?_, by simp⟩
  · rw [h3.2]
    kernel_rfl
  · rw [h3.2]
    kernel_rfl
set_option maxRecDepth 100000 in
theorem forg_20 (v u : Int) : Forg 2 0 v u (ntS (bgS s13) (2 + 2)) (sfS (ntS (bgS s13) (2 + 2)) 0 2 v) (sfS (sfS (ntS (bgS s13) (2 + 2)) 0 2 v) 0 0 u) := by
  have hN : ntS (bgS s13) (2 + 2) = ⟨F5 0 0 0, N13, true, 16777216 + N13.length, [(2 + 2, 0)]⟩ := by kernel_rfl
  have h1 : sfS ⟨F5 0 0 0, N13, true, 16777216 + N13.length, [(2 + 2, 0)]⟩ 0 2 v = ⟨F5 0 0 v, N13, true, 16777216 + N13.length, [(2 + 2, 0)]⟩ := by kernel_rfl
  have h2 : sfS ⟨F5 0 0 v, N13, true, 16777216 + N13.length, [(2 + 2, 0)]⟩ 0 0 u = ⟨F5 u 0 v, N13, true, 16777216 + N13.length, [(2 + 2, 0)]⟩ := by kernel_rfl
  have h3 := fo_back (x := u) (y := 0) (z := v) (x' := u) (y' := 0) (z' := 0) (a := 2 + 2) (c := 0) (by kernel_rfl)
  rw [hN, h1, h2]
  refine ⟨by kernel_rfl, by kernel_rfl, by kernel_rfl, h3.1, ?_, ?_, by simp⟩
  · rw [h3.2]
    kernel_rfl
  · rw [h3.2]
    kernel_rfl
set_option maxRecDepth 100000 in
theorem forg_21 (v u : Int) : Forg 2 1 v u (ntS (bgS s13) (2 + 2)) (sfS (ntS (bgS s13) (2 + 2)) 0 2 v) (sfS (sfS (ntS (bgS s13) (2 + 2)) 0 2 v) 0 1 u) := by
  have hN : ntS (bgS s13) (2 + 2) = ⟨F5 0 0 0, N13, true, 16777216 + N13.length, [(2 + 2, 0)]⟩ := by kernel_rfl
  have h1 : sfS ⟨F5 0 0 0, N13, true, 16777216 + N13.length, [(2 + 2, 0)]⟩ 0 2 v = ⟨F5 0 0 v, N13, true, 16777216 + N13.length, [(2 + 2, 0)]⟩ := by kernel_rfl
  have h2 : sfS ⟨F5 0 0 v, N13, true, 16777216 + N13.length, [(2 + 2, 0)]⟩ 0 1 u = ⟨F5 0 u v, N13, true, 16777216 + N13.length, [(2 + 2, 0)]⟩ := by kernel_rfl
  have h3 := fo_back (x := 0) (y := u) (z := v) (x' := 0) (y' := u) (z' := 0) (a := 2 + 2) (c := 0) (by kernel_rfl)
  rw [hN, h1, h2]
  refine ⟨by kernel_rfl, by kernel_rfl, by kernel_rfl, h3.1, ?_, ?_, by simp⟩
  · rw [h3.2]
    kernel_rfl
  · rw [h3.2]
    kernel_rfl
theorem forgets_law {a b : Int} (ha : 0 ≤ a ∧ a < 3) (hb : 0 ≤ b ∧ b < 3) (hab : a ≠ b) (v u : Int) : Forg a b v u (ntS (bgS s13) (2 + a)) (sfS (ntS (bgS s13) (2 + a)) 0 a v) (sfS (sfS (ntS (bgS s13) (2 + a)) 0 a v) 0 b u) := by
  have ca : a = 0 ∨ a = 1 ∨ a = 2 := by omega
  have cb : b = 0 ∨ b = 1 ∨ b = 2 := by omega
  rcases ca with rfl | rfl | rfl <;> rcases cb with rfl | rfl | rfl
  · exact absurd rfl hab
  · exact forg_01 v u
  · exact forg_02 v u
  · exact forg_10 v u
  · exact absurd rfl hab
  · exact forg_12 v u
  · exact forg_20 v u
  · exact forg_21 v u
  · exact absurd rfl hab
set_option maxRecDepth 100000 in
set_option maxHeartbeats 4000000 in
theorem uforgets_any (ni nk pv pu : Int) (hni : 0 ≤ ni ∧ ni ≤ 255) (hnk : 0 ≤ nk ∧ nk ≤ 255) (hpv : U64 pv) (hpu : U64 pu) (w : World) : Calls Try.prog 4 #[.int .u8 ni, .int .u8 nk, .int .u64 pv, .int .u64 pu] w fun e w' => e = .returned (.bool true) ∧ Below w.heap.size w w' := by
  have ha : 0 ≤ ni.tmod 3 ∧ ni.tmod 3 < 3 := by rw [Int.tmod_eq_emod_of_nonneg hni.1]; omega
  have hb : 0 ≤ nk.tmod 3 ∧ nk.tmod 3 < 3 := by rw [Int.tmod_eq_emod_of_nonneg hnk.1]; omega
  obtain ⟨qa, hqa⟩ : ∃ x, ni.tmod 3 = x := ⟨_, rfl⟩
  obtain ⟨qb, hqb⟩ : ∃ x, nk.tmod 3 = x := ⟨_, rfl⟩
  rw [hqa] at ha
  rw [hqb] at hb
  have k1 : IntKind.u8.wrap qa = qa := by simp [IntKind.wrap, IntKind.bits, IntKind.signed]; omega
  have k2 : IntKind.u8.wrap qb = qb := by simp [IntKind.wrap, IntKind.bits, IntKind.signed]; omega
  have k3 : IntKind.i64.wrap qa = qa := IntWalk.i64_in _ (by omega)
  have k4 : IntKind.i64.wrap qb = qb := IntWalk.i64_in _ (by omega)
  have k5 : IntKind.i64.wrap (2 + qa) = 2 + qa := IntWalk.i64_in _ (by omega)
  go_enter Try.func4, Try.ntmps4
  go_wp2_with fail
  refine (awake_any _).mono ?_
  rintro e w0 ⟨rfl, hb0⟩
  have HB0 := Lib.hid hb0
  go_wp2_with fail
  refine (open_any _).mono ?_
  rintro e w1 ⟨p, rfl, hw, hb1⟩
  have HB1 := Lib.hid (bchain hb1 HB0.out)
  obtain ⟨D, hD⟩ : ∃ D : Nat → Prop, D = fun k => w0.heap.size ≤ k := ⟨_, rfl⟩
  rw [← hD] at hw
  have hDn : ∀ k, D k → w.heap.size ≤ k := fun k hk => by rw [hD] at hk; exact Nat.le_trans hb0.size hk
  have HDN := Lib.hid hDn
  obtain ⟨P, hx1, _⟩ := hw.wx
  have h1 := Lib.hid hx1
  have HM1 := Lib.hid (Mods.refl D w1)
  clear hD hb0 hb1 hw hx1 hDn
  have p0 := h1.out.c0
  have p1 := h1.out.c1
  have p2 := h1.out.c2
  have hpz := h1.out.plt
  by_cases hab : qa = qb
  · have hd : (qa == qb) = true := by simpa using hab
    have hd2 : decide (qa = qb) = true := by simpa using hab
    have hd : Below w1.heap.size w1 w1.drew := (Below.refl _ _).drew
    have HDr1 := Lib.hid hd
    clear hd
    go_wp2_with fail
    go_region_held3 (fun w' => w'.cell? ⟨p, 0, none⟩ = some (.pointer (some ⟨P.bO, 0, none⟩)) ∧ w'.cell? ⟨p, 1, none⟩ = some (.pointer (some ⟨P.bY, 0, none⟩)) ∧ w'.cell? ⟨p, 2, none⟩ = some (.pointer (some ⟨P.bL, 0, none⟩))) (first | (with_reducible exact ⟨p0, p1, p2⟩) | go_keep) (first | (go_at_call 12; (with_reducible refine (Wx.begin0 (h1.out.below HDr1.out) rfl).mono ?_); rintro e w2 ⟨rfl, r2⟩; have p0 := r2.wx.c0; have p1 := r2.wx.c1; have p2 := r2.wx.c2; have h2 := Lib.hid r2.wx; have M2 := Lib.hid r2.md; clear r2))
    all_goals (try go_wp2_with fail)
    have HM2 := Lib.hid ((HM1.out.trans (Mods.of_below (S := D) HDr1.out) (fun i hi => .inl hi)).trans M2.out (fun i hi => .inl hi))
    have hpz := h2.out.plt
    go_wp2
    go_ret
    exact ⟨by simp, HB1.out.trans (HM2.out.below HB1.out.size HDN.out)⟩
  have hd : (qa == qb) = false := by simpa using hab
  have hd2 : decide (qa = qb) = false := by simpa using hab
  have hd : Below w1.heap.size w1 w1.drew := (Below.refl _ _).drew
  have HDr1 := Lib.hid hd
  clear hd
  go_wp2_with fail
  go_region_held3 (fun w' => w'.cell? ⟨p, 0, none⟩ = some (.pointer (some ⟨P.bO, 0, none⟩)) ∧ w'.cell? ⟨p, 1, none⟩ = some (.pointer (some ⟨P.bY, 0, none⟩)) ∧ w'.cell? ⟨p, 2, none⟩ = some (.pointer (some ⟨P.bL, 0, none⟩))) (first | (with_reducible exact ⟨p0, p1, p2⟩) | go_keep) (first | (go_at_call 12; (with_reducible refine (Wx.begin0 (h1.out.below HDr1.out) rfl).mono ?_); rintro e w2 ⟨rfl, r2⟩; have p0 := r2.wx.c0; have p1 := r2.wx.c1; have p2 := r2.wx.c2; have h2 := Lib.hid r2.wx; have M2 := Lib.hid r2.md; clear r2))
  all_goals (try go_wp2_with fail)
  have HM2 := Lib.hid ((HM1.out.trans (Mods.of_below (S := D) HDr1.out) (fun i hi => .inl hi)).trans M2.out (fun i hi => .inl hi))
  have hpz := h2.out.plt
  have hF := forgets_law ha hb hab pv pu
  have c1 := fun (W : World) (H : Wx W D p L13 Y13 (bgS s13) s13 2 P) => H.note1 (2 + qa) (by decide) rfl
  rw [hF.le] at c1
  have hno : (ntS (bgS s13) (2 + qa)).nt.length ≤ 100000 := Nat.le_trans (ntS_len _ _) (by decide)
  have c2 := fun (W : World) (H : Wx W D p L13 Y13 (ntS (bgS s13) (2 + qa)) s13 2 P) => H.setf 0 qa pv hpv
  rw [hF.e1] at c2
  have c3 := fun (W : World) (H : Wx W D p L13 Y13 (sfS (ntS (bgS s13) (2 + qa)) 0 qa pv) s13 2 P) => H.setf 0 qb pu hpu
  rw [hF.e2] at c3
  have c4 := fun (W : World) (H : Wx W D p L13 Y13 (sfS (sfS (ntS (bgS s13) (2 + qa)) 0 qa pv) 0 qb pu) s13 2 P) => H.rollback hF.ln
  rw [hF.rl] at c4
  have c5 := fun (W : World) (H : Wx W D p L13 Y13 (rlS (sfS (sfS (ntS (bgS s13) (2 + qa)) 0 qa pv) 0 qb pu)) s13 2 P) => H.field 0 qa
  rw [hF.va] at c5
  have c6 := fun (W : World) (H : Wx W D p L13 Y13 (rlS (sfS (sfS (ntS (bgS s13) (2 + qa)) 0 qa pv) 0 qb pu)) s13 2 P) => H.field 0 qb
  rw [hF.vb] at c6
  have c0 := fun (W : World) (H : Wx W D p L13 Y13 (bgS s13) s13 2 P) => H.field 0 qa
  obtain ⟨fo, hfo⟩ : ∃ x, FV (bgS s13).wo (bgS s13).wy 0 qa = x := ⟨_, rfl⟩
  rw [hfo] at c5 c0
  have C0 := Lib.hid c0
  have C1 := Lib.hid c1
  have C2 := Lib.hid c2
  have C3 := Lib.hid c3
  have C4 := Lib.hid c4
  have C5 := Lib.hid c5
  have C6 := Lib.hid c6
  clear c0 c1 c2 c3 c4 c5 c6 hfo hF hno p0 p1 p2 hpz
  have p0 := h2.out.c0
  have p1 := h2.out.c1
  have p2 := h2.out.c2
  have hpz := h2.out.plt
  refine (C0.out _ h2.out).mono ?_
  rintro e w3 ⟨rfl, hb3⟩
  have h3 := Lib.hid (h2.out.below hb3)
  have HB3 := Lib.hid hb3
  clear hb3
  have HM3 := Lib.hid (HM2.out.trans (Mods.of_below (S := D) HB3.out) (fun i hi => .inl hi))
  clear p0 p1 p2 hpz
  have p0 := h3.out.c0
  have p1 := h3.out.c1
  have p2 := h3.out.c2
  have hpz := h3.out.plt
  have hd : Below w3.heap.size w3 w3.drew := (Below.refl _ _).drew
  have HDr3 := Lib.hid hd
  clear hd
  go_wp2_with fail
  go_region_held3 (fun w' => w'.cell? ⟨p, 0, none⟩ = some (.pointer (some ⟨P.bO, 0, none⟩)) ∧ w'.cell? ⟨p, 1, none⟩ = some (.pointer (some ⟨P.bY, 0, none⟩)) ∧ w'.cell? ⟨p, 2, none⟩ = some (.pointer (some ⟨P.bL, 0, none⟩))) (first | (with_reducible exact ⟨p0, p1, p2⟩) | go_keep) (first | (go_at_call 15; (with_reducible refine (C1.out _ ((h3.out.below HDr3.out))).mono ?_); rintro e w4 ⟨rfl, r4⟩; have p0 := r4.wx.c0; have p1 := r4.wx.c1; have p2 := r4.wx.c2; have h4 := Lib.hid r4.wx; have M4 := Lib.hid r4.md; clear r4) | (go_at_call 20; (with_reducible refine (C2.out _ (h4.out)).mono ?_); rintro e w5 ⟨rfl, r5⟩; have p0 := r5.wx.c0; have p1 := r5.wx.c1; have p2 := r5.wx.c2; have h5 := Lib.hid r5.wx; have M5 := Lib.hid r5.md; clear r5) | (go_at_call 20; (with_reducible refine (C3.out _ (h5.out)).mono ?_); rintro e w6 ⟨rfl, r6⟩; have p0 := r6.wx.c0; have p1 := r6.wx.c1; have p2 := r6.wx.c2; have h6 := Lib.hid r6.wx; have M6 := Lib.hid r6.md; clear r6) | (go_at_call 18; (with_reducible refine (C4.out _ (h6.out)).mono ?_); rintro e w7 ⟨rfl, r7⟩; have p0 := r7.wx.c0; have p1 := r7.wx.c1; have p2 := r7.wx.c2; have h7 := Lib.hid r7.wx; have M7 := Lib.hid r7.md; clear r7))
  all_goals (try go_wp2_with fail)
  have HM7 := Lib.hid (((((HM3.out.trans (Mods.of_below (S := D) HDr3.out) (fun i hi => .inl hi)).trans M4.out (fun i hi => .inl hi)).trans M5.out (fun i hi => .inl hi)).trans M6.out (fun i hi => .inl hi)).trans M7.out (fun i hi => .inl hi))
  have hpz := h7.out.plt
  clear p0 p1 p2 hpz
  have p0 := h7.out.c0
  have p1 := h7.out.c1
  have p2 := h7.out.c2
  have hpz := h7.out.plt
  go_wp2_with fail
  refine (C5.out _ h7.out).mono ?_
  rintro e w8 ⟨rfl, hb8⟩
  have h8 := Lib.hid (h7.out.below hb8)
  have HB8 := Lib.hid hb8
  clear hb8
  have HM8 := Lib.hid (HM7.out.trans (Mods.of_below (S := D) HB8.out) (fun i hi => .inl hi))
  clear p0 p1 p2 hpz
  have p0 := h8.out.c0
  have p1 := h8.out.c1
  have p2 := h8.out.c2
  have hpz := h8.out.plt
  go_wp2_with fail
  refine (C6.out _ h8.out).mono ?_
  rintro e w9 ⟨rfl, hb9⟩
  have h9 := Lib.hid (h8.out.below hb9)
  have HB9 := Lib.hid hb9
  clear hb9
  have HM9 := Lib.hid (HM8.out.trans (Mods.of_below (S := D) HB9.out) (fun i hi => .inl hi))
  clear p0 p1 p2 hpz
  have p0 := h9.out.c0
  have p1 := h9.out.c1
  have p2 := h9.out.c2
  have hpz := h9.out.plt
  go_wp2
  go_ret
  exact ⟨by simp, HB1.out.trans (HM9.out.below HB1.out.size HDN.out)⟩
end Go.Proofs.Ytgipmcmmicppkaa
