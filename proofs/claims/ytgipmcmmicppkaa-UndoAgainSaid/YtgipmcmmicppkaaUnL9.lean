/-
  law 13: UndoAgain.
-/
import Derived.Test.YtgipmcmmicppkaaUnK
import Derived.Test.YtgipmcmmicppkaaUnI
import Derived.Test.YtgipmcmmicppkaaUnJ
namespace Go.Proofs.Ytgipmcmmicppkaa
open Go.RowKit
set_option linter.unusedSimpArgs false
set_option linter.unusedVariables false

set_option maxRecDepth 100000 in
set_option maxHeartbeats 4000000 in
theorem uagain_any (a : Option Addr) (l : List Op13) (cap : Nat) (hcap : l.length ≤ cap) (hc63 : cap ≤ 9223372036854775807) (w : World) (hops : Ops13 w w.heap.size a l) : Calls Try.prog 9 #[.slice a l.length cap] w fun e w' => e = .returned (.bool true) ∧ Below w.heap.size w w' := by
  go_enter Try.func9, Try.ntmps9
  by_cases h30 : 30 < l.length
  · have hd : decide ((30 : Int) < (l.length : Int)) = true := by simp; omega
    go_wp2_with fail
    refine (awake_any _).mono ?_
    rintro e w0 ⟨rfl, hb0⟩
    have HB0 := Lib.hid hb0
    clear hb0
    go_wp2_with fail
    refine (awake_any _).mono ?_
    rintro e w1 ⟨rfl, hb1⟩
    have HF := Lib.hid (bchain hb1 HB0.out)
    clear hb1
    go_wp2
    go_ret
    exact ⟨rfl, HF.out⟩
  have hd : decide ((30 : Int) < (l.length : Int)) = false := by simp; omega
  go_wp2_with fail
  refine (awake_any _).mono ?_
  rintro e w0 ⟨rfl, hb0⟩
  have HB0 := Lib.hid hb0
  go_wp2_with fail
  clear hd
  refine (open_any _).mono ?_
  rintro e w1 ⟨px, rfl, hx1, hb1⟩
  have HX1 := Lib.hid hx1
  have HB1 := Lib.hid hb1
  clear hx1 hb1
  go_wp2_with fail
  refine (open_any _).mono ?_
  rintro e w2 ⟨py, rfl, hy2, hb2⟩
  obtain ⟨x0, x1, x2, y0, y1, y2, hT⟩ := TwW.start HX1.out HB1.out.size hy2 hb2
  have HDN := Lib.hid (show ∀ k, w0.heap.size ≤ k → w.heap.size ≤ k from fun k hk => Nat.le_trans hb0.size hk)
  obtain ⟨N, hN⟩ : ∃ N, w0.heap.size = N := ⟨_, rfl⟩
  rw [hN] at HDN hT
  have HT2 := Lib.hid hT
  have HM2 := Lib.hid (Mods.refl (fun k => N ≤ k) w2)
  have HB2 := Lib.hid (bchain (bchain hb2 HB1.out) hb0)
  have HOPS := Lib.hid (((hops.below hb0).below HB1.out).below hb2)
  have HRG := Lib.hid (show ∀ n : Nat, n ≤ 30 → True from fun _ _ => trivial)
  clear hT hN hy2 hb2 hb0 HB0 HX1 HB1 hops HRG
  try clear p0 p1 p2 hpz u0 u1 u2 huz
  have p0 := (HT2.out).x0.1
  have p1 := (HT2.out).x0.2.1
  have p2 := (HT2.out).x0.2.2.1
  have hpz := (HT2.out).x0.2.2.2.2.1
  have u0 := ((HT2.out).swap).x0.1
  have u1 := ((HT2.out).swap).x0.2.1
  have u2 := ((HT2.out).swap).x0.2.2.1
  have huz := ((HT2.out).swap).x0.2.2.2.2.1
  have hd : Below w2.heap.size w2 w2.drew := (Below.refl _ _).drew
  have HDr2 := Lib.hid hd
  clear hd
  go_wp2_with fail
  go_region_held3 (fun w' => w'.cell? ⟨px, 0, none⟩ = some (.pointer (some ⟨x0, 0, none⟩)) ∧ w'.cell? ⟨px, 1, none⟩ = some (.pointer (some ⟨x1, 0, none⟩)) ∧ w'.cell? ⟨px, 2, none⟩ = some (.pointer (some ⟨x2, 0, none⟩)) ∧ w'.cell? ⟨py, 0, none⟩ = some (.pointer (some ⟨y0, 0, none⟩)) ∧ w'.cell? ⟨py, 1, none⟩ = some (.pointer (some ⟨y1, 0, none⟩)) ∧ w'.cell? ⟨py, 2, none⟩ = some (.pointer (some ⟨y2, 0, none⟩))) (first | (with_reducible exact ⟨p0, p1, p2, u0, u1, u2⟩) | go_keep) (first | (go_at_call 12; (with_reducible refine ((HT2.out.below HDr2.out).bgx rfl).mono ?_); rintro e w3 ⟨rfl, r⟩; have p0 := r.1.x0.1; have p1 := r.1.x0.2.1; have p2 := r.1.x0.2.2.1; have u0 := r.1.swap.x0.1; have u1 := r.1.swap.x0.2.1; have u2 := r.1.swap.x0.2.2.1; have HT3 := Lib.hid r.1; have M3 := Lib.hid r.2; clear r) | (go_at_call 12; (with_reducible refine (HT3.out.bgy rfl).mono ?_); rintro e w4 ⟨rfl, r⟩; have p0 := r.1.x0.1; have p1 := r.1.x0.2.1; have p2 := r.1.x0.2.2.1; have u0 := r.1.swap.x0.1; have u1 := r.1.swap.x0.2.1; have u2 := r.1.swap.x0.2.2.1; have HT4 := Lib.hid r.1; have M4 := Lib.hid r.2; clear r))
  all_goals (try go_wp2_with fail)
  have HM4 := Lib.hid (Mods.ge (Mods.ge (Mods.ge HM2.out (Mods.of_below HDr2.out)) M3.out) M4.out)
  try clear p0 p1 p2 hpz u0 u1 u2 huz
  have p0 := (HT4.out).x0.1
  have p1 := (HT4.out).x0.2.1
  have p2 := (HT4.out).x0.2.2.1
  have hpz := (HT4.out).x0.2.2.2.2.1
  have u0 := ((HT4.out).swap).x0.1
  have u1 := ((HT4.out).swap).x0.2.1
  have u2 := ((HT4.out).swap).x0.2.2.1
  have huz := ((HT4.out).swap).x0.2.2.2.2.1
  obtain ⟨Dx, Dy, hx, hy, hdd, h1, h2⟩ := HT4.out
  obtain ⟨aO, nO, cO, aY, nY, cY, aA, nA, cA, aW, nW, cW, rO, rY, hX⟩ := hx.q
  have HX := Lib.hid hX
  have HY := Lib.hid hy
  have HDD := Lib.hid hdd
  have H1 := Lib.hid h1
  have H2 := Lib.hid h2
  have p3 := hX.c3
  have p4 := hX.c4
  have p5 := hX.c5
  have p6 := hX.c6
  have p7 := hX.c7
  have p8 := hX.c8
  have p9 := hX.c9
  have p10 := hX.c10
  have p11 := hX.c11
  have p12 := hX.c12
  have pf := hX.fz
  clear hx hy hdd h1 h2 hX
  have hd : Below w4.heap.size w4 w4.drew := (Below.refl _ _).drew
  have HDr4 := Lib.hid hd
  clear hd
  go_wp2_with fail
  go_cut [58] from 59 to 72 (fun s1 wx => CutTw w4 N px py L13 Y13 (bgS s13) (bgS (s13)) (2) (bgS s13) (s13) (2) (Tq x0 x1 x2) (Tq y0 y1 y2) s1 wx)
  case first =>
    go_region_with (go_at_call 23; (with_reducible refine ((HX.out.below HDr4.out).rbegin).mono ?_); rintro e w5 ⟨a3, n3, c3, a4, n4, c4, rfl, hl⟩; have hb6 := hl.2.2.2; have z9 := bcellv hb6 p9; have z10 := bcellv hb6 p10; have z11 := bcellv hb6 p11; have z12 := bcellv hb6 p12; have zf : ∀ i, w5.frozen? ⟨px, i, none⟩ = false := frozen_of_block (bblock hb6 (HX.out.below HDr4.out).blk); have HL := Lib.hid hl; clear hl hb6)
    all_goals (try go_wp2_with fail)
    all_goals go_meet
    all_goals exact CutTw.of HX.out HY.out HDD.out H1.out H2.out HDr4.out HL.out
  case rest =>
    obtain ⟨_, h⟩ := hcut
    obtain ⟨w6, hw⟩ : ∃ W, wc = W := ⟨_, rfl⟩
    rw [hw] at h ⊢
    clear hw
    have HT6 := Lib.hid h.1
    have HM6 := Lib.hid (Mods.ge HM4.out h.2)
    clear h pf HX HY HDD H1 H2 HDr4 p3 p4 p5 p6 p7 p8 p9 p10 p11 p12
    try clear p0 p1 p2 hpz u0 u1 u2 huz
    have p0 := (HT6.out).x0.1
    have p1 := (HT6.out).x0.2.1
    have p2 := (HT6.out).x0.2.2.1
    have hpz := (HT6.out).x0.2.2.2.2.1
    have u0 := ((HT6.out).swap).x0.1
    have u1 := ((HT6.out).swap).x0.2.1
    have u2 := ((HT6.out).swap).x0.2.2.1
    have huz := ((HT6.out).swap).x0.2.2.2.2.1
    obtain ⟨Dx, Dy, hx, hy, hdd, h1, h2⟩ := HT6.out.swap
    obtain ⟨aO, nO, cO, aY, nY, cY, aA, nA, cA, aW, nW, cW, rO, rY, hX⟩ := hx.q
    have HX := Lib.hid hX
    have HY := Lib.hid hy
    have HDD := Lib.hid hdd
    have H1 := Lib.hid h1
    have H2 := Lib.hid h2
    have p3 := hX.c3
    have p4 := hX.c4
    have p5 := hX.c5
    have p6 := hX.c6
    have p7 := hX.c7
    have p8 := hX.c8
    have p9 := hX.c9
    have p10 := hX.c10
    have p11 := hX.c11
    have p12 := hX.c12
    have pf := hX.fz
    clear hx hy hdd h1 h2 hX
    have hd : Below w6.heap.size w6 w6.drew := (Below.refl _ _).drew
    have HDr6 := Lib.hid hd
    clear hd
    go_wp2_with fail
    go_cut [73] from 74 to 87 (fun s1 wx => CutTw w6 N py px L13 Y13 (bgS s13) (bgS (s13)) (2) (bgS s13) (bgS (s13)) (2) (Tq y0 y1 y2) (Tq x0 x1 x2) s1 wx)
    case first =>
      go_region_with (go_at_call 23; (with_reducible refine ((HX.out.below HDr6.out).rbegin).mono ?_); rintro e w7 ⟨a3, n3, c3, a4, n4, c4, rfl, hl⟩; have hb6 := hl.2.2.2; have z9 := bcellv hb6 p9; have z10 := bcellv hb6 p10; have z11 := bcellv hb6 p11; have z12 := bcellv hb6 p12; have zf : ∀ i, w7.frozen? ⟨py, i, none⟩ = false := frozen_of_block (bblock hb6 (HX.out.below HDr6.out).blk); have HL := Lib.hid hl; clear hl hb6)
      all_goals (try go_wp2_with fail)
      all_goals go_meet
      all_goals exact CutTw.of HX.out HY.out HDD.out H1.out H2.out HDr6.out HL.out
    case rest =>
      obtain ⟨_, h⟩ := hcut
      obtain ⟨w8, hw⟩ : ∃ W, wc = W := ⟨_, rfl⟩
      rw [hw] at h ⊢
      clear hw
      have HT8 := Lib.hid h.1.swap
      have HM8 := Lib.hid (Mods.ge HM6.out h.2)
      clear h pf HX HY HDD H1 H2 HDr6 p3 p4 p5 p6 p7 p8 p9 p10 p11 p12
      try clear p0 p1 p2 hpz u0 u1 u2 huz
      have p0 := (HT8.out).x0.1
      have p1 := (HT8.out).x0.2.1
      have p2 := (HT8.out).x0.2.2.1
      have hpz := (HT8.out).x0.2.2.2.2.1
      have u0 := ((HT8.out).swap).x0.1
      have u1 := ((HT8.out).swap).x0.2.1
      have u2 := ((HT8.out).swap).x0.2.2.1
      have huz := ((HT8.out).swap).x0.2.2.2.2.1
      have p13 := HT8.out.x0.2.2.2.1
      have hops8 := HOPS.out.mods HM8.out HDN.out
      have hT := HT8.out.opx (fun D hD hw => turn_any hw hops8 (fun i hi => HDN.out i (hD i hi)) hcap hc63 (by omega) (by omega) (by show _ + _ ≤ _; simp only [show (bgS s13).nt.length = 0 from rfl]; omega))
      obtain ⟨X, hX⟩ : ∃ X, tnR L13 Y13 (bgS s13, 2) l = X := ⟨_, rfl⟩
      rw [hX] at hT
      have HX := Lib.hid hX
      have HR := Lib.hid (show Trn O13 N13 X.1 by rw [← hX]; exact Trn.turn l (bgS s13, 2) trn_1)
      have hbd := tnR_bd L13 Y13 l (bgS s13, 2)
      rw [hX, show (bgS s13, (2 : Int)).1.nt.length = 0 from rfl, show (bgS s13, (2 : Int)).2 = 2 from rfl] at hbd
      have HBD := Lib.hid hbd
      have h30 := Nat.le_of_not_lt h30
      clear hX hops8 hbd
      go_wp2_with fail
      refine (hT).mono ?_
      rintro e w9 ⟨rfl, r⟩
      have HT9 := Lib.hid r.1
      have HM9 := Lib.hid (Mods.ge HM8.out r.2)
      clear r
      clear hT p13
      have hS := HT9.out.opx (fun D hD hw => step_any 7 0 0 0 false hw (by have := HBD.out; omega) (by have := HBD.out; omega) (by omega) (by omega) (by omega) (U64.of (by omega) (by omega)) (by have := HBD.out; omega))
      rw [show stpS L13 Y13 X.1 X.2 7 0 0 0 false = s13 from HR.out.back.2, show stpN X.2 7 = X.2 from rfl] at hS
      go_wp2_with fail
      refine (hS).mono ?_
      rintro e w10 ⟨rfl, r⟩
      have HT10 := Lib.hid r.1
      have HM10 := Lib.hid (Mods.ge HM9.out r.2)
      clear r
      clear hS
      have hS := HT10.out.opx (fun D hD hw => step_any 5 0 0 0 false hw (by have := HBD.out; omega) (by have := HBD.out; omega) (by omega) (by omega) (by omega) (U64.of (by omega) (by omega)) (by decide))
      rw [show stpS L13 Y13 s13 X.2 5 0 0 0 false = bgS s13 from rfl, show stpN X.2 5 = X.2 from rfl] at hS
      go_wp2_with fail
      refine (hS).mono ?_
      rintro e w11 ⟨rfl, r⟩
      have HT11 := Lib.hid r.1
      have HM11 := Lib.hid (Mods.ge HM10.out r.2)
      clear r
      clear hS
      try clear p0 p1 p2 hpz u0 u1 u2 huz
      have p13 := HT11.out.x0.2.2.2.1
      have pf := HT11.out.x0.2.2.2.2.2 13
      have hpz := HT11.out.x0.2.2.2.2.1
      have hs := HT11.out.setx 2
      go_wp2_with fail
      obtain ⟨w12, hw⟩ : ∃ W, w11.setCell ⟨px, 13, none⟩ (.int .i64 2) = W := ⟨_, rfl⟩
      rw [hw] at hs ⊢
      have HT12 := Lib.hid hs.1
      have HM12 := Lib.hid (Mods.ge HM11.out hs.2)
      clear hs hw p13 pf hpz
      have hops12 := HOPS.out.mods HM12.out HDN.out
      have hT := HT12.out.opx (fun D hD hw => turn_any hw hops12 (fun i hi => HDN.out i (hD i hi)) hcap hc63 (by omega) (by omega) (by show _ + _ ≤ _; simp only [show (bgS s13).nt.length = 0 from rfl]; omega))
      rw [HX.out] at hT
      clear hops12
      go_wp2_with fail
      refine (hT).mono ?_
      rintro e w13 ⟨rfl, r⟩
      have HT13 := Lib.hid r.1
      have HM13 := Lib.hid (Mods.ge HM12.out r.2)
      clear r
      clear hT
      have hops13 := HOPS.out.mods HM13.out HDN.out
      have hT := HT13.out.opy (fun D hD hw => turn_any hw hops13 (fun i hi => HDN.out i (hD i hi)) hcap hc63 (by omega) (by omega) (by show _ + _ ≤ _; simp only [show (bgS s13).nt.length = 0 from rfl]; omega))
      rw [HX.out] at hT
      clear hops13
      go_wp2_with fail
      refine (hT).mono ?_
      rintro e w14 ⟨rfl, r⟩
      have HT14 := Lib.hid r.1
      have HM14 := Lib.hid (Mods.ge HM13.out r.2)
      clear r
      clear hT
      try clear p0 p1 p2 hpz u0 u1 u2 huz
      have p0 := (HT14.out).x0.1
      have p1 := (HT14.out).x0.2.1
      have p2 := (HT14.out).x0.2.2.1
      have hpz := (HT14.out).x0.2.2.2.2.1
      have u0 := ((HT14.out).swap).x0.1
      have u1 := ((HT14.out).swap).x0.2.1
      have u2 := ((HT14.out).swap).x0.2.2.1
      have huz := ((HT14.out).swap).x0.2.2.2.2.1
      go_wp2_with fail
      refine (HT14.out.wds).mono ?_
      rintro e w15 ⟨v1, v2, rfl, hv1, hv2, hb⟩
      have HT15 := Lib.hid (HT14.out.below hb)
      have HM15 := Lib.hid (Mods.ge HM14.out (Mods.of_below hb))
      have HV1 := Lib.hid hv1
      have HV2 := Lib.hid hv2
      clear hv1 hv2 hb
      try clear p0 p1 p2 hpz u0 u1 u2 huz
      have p0 := (HT15.out).x0.1
      have p1 := (HT15.out).x0.2.1
      have p2 := (HT15.out).x0.2.2.1
      have hpz := (HT15.out).x0.2.2.2.2.1
      have u0 := ((HT15.out).swap).x0.1
      have u1 := ((HT15.out).swap).x0.2.1
      have u2 := ((HT15.out).swap).x0.2.2.1
      have huz := ((HT15.out).swap).x0.2.2.2.2.1
      go_wp2_with fail
      refine (HT15.out.swap.wds).mono ?_
      rintro e w16 ⟨v3, v4, rfl, hv3, hv4, hb⟩
      have hv1 := HV1.out.below hb
      have hv2 := HV2.out.below hb
      have HM16 := Lib.hid (Mods.ge HM15.out (Mods.of_below hb))
      have hc1 := wrds_any hv1 hv3
      have hc2 := fun W (H : Below w16.heap.size w16 W) => wrds_any (hv2.below H) (hv4.below H)
      simp only [decide_true] at hc1 hc2
      have HC2 := Lib.hid hc2
      clear hc2 hv1 hv2 hv3 hv4 hb HV1 HV2
      try clear p0 p1 p2 hpz u0 u1 u2 huz
      go_wp2_with fail
      refine hc1.mono ?_
      rintro e w17 ⟨rfl, hb⟩
      have HBa := Lib.hid hb
      clear hb hc1
      go_wp2_with fail
      refine (HC2.out _ HBa.out).mono ?_
      rintro e w18 ⟨rfl, hb⟩
      have HM18 := Lib.hid (Mods.ge (Mods.ge HM16.out (Mods.of_below HBa.out)) (Mods.of_below hb))
      clear hb
      go_wp2
      go_ret
      exact ⟨by simp, HB2.out.trans (HM18.out.below HB2.out.size HDN.out)⟩
end Go.Proofs.Ytgipmcmmicppkaa
