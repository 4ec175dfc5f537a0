/-
  law 13: UndoCommits.
-/
import Derived.Test.YtgipmcmmicppkaaUnK
import Derived.Test.YtgipmcmmicppkaaUnI
namespace Go.Proofs.Ytgipmcmmicppkaa
open Go.RowKit
set_option linter.unusedSimpArgs false
set_option linter.unusedVariables false

set_option maxRecDepth 100000 in
set_option maxHeartbeats 4000000 in
theorem ucommits_any (a : Option Addr) (l : List Op13) (cap : Nat) (hcap : l.length ≤ cap) (hc63 : cap ≤ 9223372036854775807) (w : World) (hops : Ops13 w w.heap.size a l) : Calls Try.prog 8 #[.slice a l.length cap] w fun e w' => e = .returned (.bool true) ∧ Below w.heap.size w w' := by
  go_enter Try.func8, Try.ntmps8
  by_cases h30 : 30 < l.length
  · have hd : decide ((30 : Int) < (l.length : Int)) = true := by simp; omega
    go_wp2_with fail
    refine (awake_any _).mono ?_
    rintro e w0 ⟨rfl, hb0⟩
    have HB0 := Lib.hid hb0
    clear hb0
    go_wp2_with fail
    refine (awake_any _).mono ?_
    rintro e w1 ⟨rfl, hb1⟩
    have HF := Lib.hid (bchain hb1 HB0.out)
    clear hb1
    go_wp2
    go_ret
    exact ⟨rfl, HF.out⟩
  have hd : decide ((30 : Int) < (l.length : Int)) = false := by simp; omega
  go_wp2_with fail
  refine (awake_any _).mono ?_
  rintro e w0 ⟨rfl, hb0⟩
  have HB0 := Lib.hid hb0
  go_wp2_with fail
  clear hd
  refine (open_any _).mono ?_
  rintro e w1 ⟨p, rfl, hw, hb1⟩
  have HB1 := Lib.hid (bchain hb1 HB0.out)
  obtain ⟨D, hD⟩ : ∃ D : Nat → Prop, D = fun k => w0.heap.size ≤ k := ⟨_, rfl⟩
  rw [← hD] at hw
  have hDn : ∀ k, D k → w.heap.size ≤ k := fun k hk => by rw [hD] at hk; exact Nat.le_trans hb0.size hk
  have HOPS := Lib.hid ((hops.below hb0).below hb1)
  have HDN := Lib.hid hDn
  obtain ⟨P, hx1, _⟩ := hw.wx
  have h1 := Lib.hid hx1
  have HM1 := Lib.hid (Mods.refl D w1)
  clear hD hb0 hb1 hw hx1 hDn
  have p0 := h1.out.c0
  have p1 := h1.out.c1
  have p2 := h1.out.c2
  have hpz := h1.out.plt
  have hd : Below w1.heap.size w1 w1.drew := (Below.refl _ _).drew
  have HDr1 := Lib.hid hd
  clear hd
  go_wp2_with fail
  go_region_held3 (fun w' => w'.cell? ⟨p, 0, none⟩ = some (.pointer (some ⟨P.bO, 0, none⟩)) ∧ w'.cell? ⟨p, 1, none⟩ = some (.pointer (some ⟨P.bY, 0, none⟩)) ∧ w'.cell? ⟨p, 2, none⟩ = some (.pointer (some ⟨P.bL, 0, none⟩))) (first | (with_reducible exact ⟨p0, p1, p2⟩) | go_keep) (first | (go_at_call 12; (with_reducible refine (Wx.begin0 (h1.out.below HDr1.out) rfl).mono ?_); rintro e w2 ⟨rfl, r2⟩; have p0 := r2.wx.c0; have p1 := r2.wx.c1; have p2 := r2.wx.c2; have h2 := Lib.hid r2.wx; have M2 := Lib.hid r2.md; clear r2))
  all_goals (try go_wp2_with fail)
  have HM2 := Lib.hid ((HM1.out.trans (Mods.of_below (S := D) HDr1.out) (fun i hi => .inl hi)).trans M2.out (fun i hi => .inl hi))
  have hpz := h2.out.plt
  clear p0 p1 p2
  have p3 := h2.out.c3
  have p4 := h2.out.c4
  have p5 := h2.out.c5
  have p6 := h2.out.c6
  have p7 := h2.out.c7
  have p8 := h2.out.c8
  have p9 := h2.out.c9
  have p10 := h2.out.c10
  have p11 := h2.out.c11
  have p12 := h2.out.c12
  have pf := h2.out.fz
  have hpz := h2.out.plt
  have hd : Below w2.heap.size w2 w2.drew := (Below.refl _ _).drew
  have HDr2 := Lib.hid hd
  clear hd
  go_wp2_with fail
  go_cut [35] from 36 to 49 (fun s1 wx => CutBg w2 (D) p L13 Y13 (bgS s13) (s13) (2) P s1 wx)
  case first =>
    go_region_with (go_at_call 23; (with_reducible refine ((h2.out.below HDr2.out).rbegin).mono ?_); rintro e w3 ⟨a3, n3, c3, a4, n4, c4, rfl, hl⟩; have hb6 := hl.2.2.2; have q9 := bcellv hb6 p9; have q10 := bcellv hb6 p10; have q11 := bcellv hb6 p11; have q12 := bcellv hb6 p12; have qf : ∀ i, w3.frozen? ⟨p, i, none⟩ = false := frozen_of_block (bblock hb6 (h2.out.below HDr2.out).blk); have HL := Lib.hid hl; clear hl hb6)
    all_goals (try go_wp2_with fail)
    all_goals go_meet
    all_goals exact CutBg.of (h2.out) HDr2.out HL.out
  case rest =>
    obtain ⟨_, a3, n3, c3, a4, n4, c4, h, hM⟩ := hcut
    obtain ⟨w4, hw⟩ : ∃ W, wc = W := ⟨_, rfl⟩
    rw [hw] at h hM ⊢
    clear hw
    have h4 := Lib.hid h
    have HR4 := Lib.hid hM
    clear h hM pf hpz p3 p4 p5 p6 p7 p8 p9 p10 p11 p12
    have HM4 := Lib.hid (HM2.out.trans HR4.out (fun i hi => .inl hi))
    have p0 := h4.out.c0
    have p1 := h4.out.c1
    have p2 := h4.out.c2
    have hpz := h4.out.plt
    have hops4 := HOPS.out.mods HM4.out HDN.out
    have hT := turn_any h4.out.ww hops4 HDN.out hcap hc63 (by omega) (by omega) (by show _ + _ ≤ _; simp only [show (bgS s13).nt.length = 0 from rfl]; omega)
    obtain ⟨X, hX⟩ : ∃ X, tnR L13 Y13 (bgS s13, 2) l = X := ⟨_, rfl⟩
    rw [hX] at hT
    have HX := Lib.hid hX
    clear hops4 hX
    go_wp2_with fail
    refine hT.mono ?_
    rintro e w5 ⟨rfl, hX⟩
    clear hT
    obtain ⟨P2, hx, _⟩ := hX.1.wx
    have h5 := Lib.hid hx
    have HR5 := Lib.hid hX.2
    clear hx hX
    have HM5 := Lib.hid (HM4.out.trans HR5.out (fun i hi => .inl hi))
    have p0 := h5.out.c0
    have p1 := h5.out.c1
    have p2 := h5.out.c2
    have hpz := h5.out.plt
    have HT := Lib.hid (show Trn O13 N13 X.1 by rw [← HX.out]; exact Trn.turn l (bgS s13, 2) trn_1)
    go_wp2_with fail
    refine h5.out.words.mono ?_
    rintro e w6 ⟨v1, v2, rfl, hv1, hv2, hb, f1, f2⟩
    have Hv1 := Lib.hid (show WrdsF w6 w5.heap.size v1 (X.1).wo from WrdsF.of hv1 f1)
    have Hv2 := Lib.hid (show WrdsF w6 w5.heap.size v2 (X.1).wy from WrdsF.of hv2 f2)
    have h6 := Lib.hid (h5.out.redom hb (D' := fun k => (D) k ∧ ¬ (w5.heap.size ≤ k ∧ k < w6.heap.size)) ⟨h5.out.pd, by have := h5.out.plt; omega⟩ (fun k hk hl => ⟨hk, by omega⟩) (fun k hk => ⟨h5.out.dom k (by have := hb.size; omega), by omega⟩))
    have HB6 := Lib.hid hb
    clear hv1 hv2 hb f1 f2 p0 p1 p2 hpz
    have HM6 := Lib.hid (HM5.out.trans (Mods.of_below (S := D) HB6.out) (fun i hi => .inl hi))
    have HNv1_6 := Lib.hid (Mods.refl (fun k => (D) k ∧ ¬ (w5.heap.size ≤ k ∧ k < w6.heap.size)) w6)
    have p0 := h6.out.c0
    have p1 := h6.out.c1
    have p2 := h6.out.c2
    have hpz := h6.out.plt
    have hd : Below w6.heap.size w6 w6.drew := (Below.refl _ _).drew
    have HDr6 := Lib.hid hd
    clear hd
    go_wp2_with fail
    go_region_held3 (fun w' => w'.cell? ⟨p, 0, none⟩ = some (.pointer (some ⟨P2.bO, 0, none⟩)) ∧ w'.cell? ⟨p, 1, none⟩ = some (.pointer (some ⟨P2.bY, 0, none⟩)) ∧ w'.cell? ⟨p, 2, none⟩ = some (.pointer (some ⟨P2.bL, 0, none⟩))) (first | (with_reducible exact ⟨p0, p1, p2⟩) | go_keep) (first | (go_at_call 21; (with_reducible refine (Wx.commit0 (h6.out.below HDr6.out) HT.out.op).mono ?_); rintro e w7 ⟨rfl, r7⟩; have p0 := r7.wx.c0; have p1 := r7.wx.c1; have p2 := r7.wx.c2; have h7 := Lib.hid r7.wx; have M7 := Lib.hid r7.md; clear r7) | (go_at_call 22; (with_reducible refine (Wx.open0 h7.out rfl).mono ?_); rintro e w8 ⟨rfl, hb8⟩; have p0 := bcellv hb8 p0; have p1 := bcellv hb8 p1; have p2 := bcellv hb8 p2; have h8 := Lib.hid (h7.out.below hb8); have M8 := Lib.hid (Mods.of_below (S := (fun k => (D) k ∧ ¬ (w5.heap.size ≤ k ∧ k < w6.heap.size))) hb8); clear hb8) | (go_at_call 17; (with_reducible refine (Wx.len0 h8.out rfl).mono ?_); rintro e w9 ⟨rfl, hb9⟩; have p0 := bcellv hb9 p0; have p1 := bcellv hb9 p1; have p2 := bcellv hb9 p2; have h9 := Lib.hid (h8.out.below hb9); have M9 := Lib.hid (Mods.of_below (S := (fun k => (D) k ∧ ¬ (w5.heap.size ≤ k ∧ k < w6.heap.size))) hb9); clear hb9) | (go_at_call 21; (with_reducible refine (Wx.commit9 h9.out rfl).mono ?_); rintro e w10 ⟨rfl, r10⟩; have p0 := r10.wx.c0; have p1 := r10.wx.c1; have p2 := r10.wx.c2; have h10 := Lib.hid r10.wx; have M10 := Lib.hid r10.md; clear r10) | (go_at_call 18; (with_reducible refine (Wx.rollback9 h10.out (by simp) rfl).mono ?_); rintro e w11 ⟨rfl, r11⟩; have p0 := r11.wx.c0; have p1 := r11.wx.c1; have p2 := r11.wx.c2; have h11 := Lib.hid r11.wx; have M11 := Lib.hid r11.md; clear r11))
    all_goals (try go_wp2_with fail)
    have HM11 := Lib.hid ((((((HM6.out.trans (Mods.of_below (S := (fun k => (D) k ∧ ¬ (w5.heap.size ≤ k ∧ k < w6.heap.size))) HDr6.out) (fun i hi => .inl hi.1)).trans M7.out (fun i hi => .inl hi.1)).trans M8.out (fun i hi => .inl hi.1)).trans M9.out (fun i hi => .inl hi.1)).trans M10.out (fun i hi => .inl hi.1)).trans M11.out (fun i hi => .inl hi.1))
    have HNv1_11 := Lib.hid ((((((HNv1_6.out.trans (Mods.of_below (S := (fun k => (D) k ∧ ¬ (w5.heap.size ≤ k ∧ k < w6.heap.size))) HDr6.out) (fun i hi => .inl hi)).trans M7.out (fun i hi => .inl hi)).trans M8.out (fun i hi => .inl hi)).trans M9.out (fun i hi => .inl hi)).trans M10.out (fun i hi => .inl hi)).trans M11.out (fun i hi => .inl hi))
    have hpz := h11.out.plt
    clear p0 p1 p2 hpz
    have p0 := h11.out.c0
    have p1 := h11.out.c1
    have p2 := h11.out.c2
    have hpz := h11.out.plt
    go_wp2_with fail
    refine h11.out.words.mono ?_
    rintro e w12 ⟨v3, v4, rfl, hv1, hv2, hb, f1, f2⟩
    have Hv3 := Lib.hid (show WrdsF w12 w11.heap.size v3 (X.1).wo from WrdsF.of hv1 f1)
    have Hv4 := Lib.hid (show WrdsF w12 w11.heap.size v4 (X.1).wy from WrdsF.of hv2 f2)
    have h12 := Lib.hid (h11.out.redom hb (D' := fun k => ((fun k => (D) k ∧ ¬ (w5.heap.size ≤ k ∧ k < w6.heap.size))) k ∧ ¬ (w11.heap.size ≤ k ∧ k < w12.heap.size)) ⟨h11.out.pd, by have := h11.out.plt; omega⟩ (fun k hk hl => ⟨hk, by omega⟩) (fun k hk => ⟨h11.out.dom k (by have := hb.size; omega), by omega⟩))
    have HB12 := Lib.hid hb
    clear hv1 hv2 hb f1 f2 p0 p1 p2 hpz
    have HM12 := Lib.hid (HM11.out.trans (Mods.of_below (S := (fun k => (D) k ∧ ¬ (w5.heap.size ≤ k ∧ k < w6.heap.size))) HB12.out) (fun i hi => .inl hi.1))
    have HNv1_12 := Lib.hid (HNv1_11.out.trans (Mods.of_below (S := (fun k => (D) k ∧ ¬ (w5.heap.size ≤ k ∧ k < w6.heap.size))) HB12.out) (fun i hi => .inl hi))
    have HNv3_12 := Lib.hid (Mods.refl (fun k => ((fun k => (D) k ∧ ¬ (w5.heap.size ≤ k ∧ k < w6.heap.size))) k ∧ ¬ (w11.heap.size ≤ k ∧ k < w12.heap.size)) w12)
    have p0 := h12.out.c0
    have p1 := h12.out.c1
    have p2 := h12.out.c2
    have hpz := h12.out.plt
    have Hv1 := Lib.hid (Hv1.out.mods (Nat.le_refl _) HNv1_12.out (fun G h => h.2))
    have Hv2 := Lib.hid (Hv2.out.mods (Nat.le_refl _) HNv1_12.out (fun G h => h.2))
    have hc1 := wrds_any Hv1.out.1 Hv3.out.1
    have hc2 := fun W (H : Below w12.heap.size w12 W) => wrds_any (Hv2.out.1.below H) (Hv4.out.1.below H)
    simp only [decide_true] at hc1 hc2
    have HC2 := Lib.hid hc2
    clear hc2
    go_wp2_with fail
    refine hc1.mono ?_
    rintro e w13 ⟨rfl, hb⟩
    have HB13 := Lib.hid hb
    clear hb hc1
    have HM13 := Lib.hid (HM12.out.trans (Mods.of_below (S := (fun k => ((fun k => (D) k ∧ ¬ (w5.heap.size ≤ k ∧ k < w6.heap.size))) k ∧ ¬ (w11.heap.size ≤ k ∧ k < w12.heap.size))) HB13.out) (fun i hi => .inl hi.1.1))
    have HNv1_13 := Lib.hid (HNv1_12.out.trans (Mods.of_below (S := (fun k => ((fun k => (D) k ∧ ¬ (w5.heap.size ≤ k ∧ k < w6.heap.size))) k ∧ ¬ (w11.heap.size ≤ k ∧ k < w12.heap.size))) HB13.out) (fun i hi => .inl hi.1))
    have HNv3_13 := Lib.hid (HNv3_12.out.trans (Mods.of_below (S := (fun k => ((fun k => (D) k ∧ ¬ (w5.heap.size ≤ k ∧ k < w6.heap.size))) k ∧ ¬ (w11.heap.size ≤ k ∧ k < w12.heap.size))) HB13.out) (fun i hi => .inl hi))
    go_wp2_with fail
    refine (HC2.out _ HB13.out).mono ?_
    rintro e w14 ⟨rfl, hb⟩
    have HB14 := Lib.hid hb
    clear hb
    have HM14 := Lib.hid (HM13.out.trans (Mods.of_below (S := (fun k => ((fun k => (D) k ∧ ¬ (w5.heap.size ≤ k ∧ k < w6.heap.size))) k ∧ ¬ (w11.heap.size ≤ k ∧ k < w12.heap.size))) HB14.out) (fun i hi => .inl hi.1.1))
    have HNv1_14 := Lib.hid (HNv1_13.out.trans (Mods.of_below (S := (fun k => ((fun k => (D) k ∧ ¬ (w5.heap.size ≤ k ∧ k < w6.heap.size))) k ∧ ¬ (w11.heap.size ≤ k ∧ k < w12.heap.size))) HB14.out) (fun i hi => .inl hi.1))
    have HNv3_14 := Lib.hid (HNv3_13.out.trans (Mods.of_below (S := (fun k => ((fun k => (D) k ∧ ¬ (w5.heap.size ≤ k ∧ k < w6.heap.size))) k ∧ ¬ (w11.heap.size ≤ k ∧ k < w12.heap.size))) HB14.out) (fun i hi => .inl hi))
    go_wp2
    go_ret
    exact ⟨by simp, HB1.out.trans (HM14.out.below HB1.out.size HDN.out)⟩
end Go.Proofs.Ytgipmcmmicppkaa
