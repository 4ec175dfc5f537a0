/-
  law 13: UndoStates.
-/
import Derived.Test.YtgipmcmmicppkaaUnK
import Derived.Test.YtgipmcmmicppkaaUnI
namespace Go.Proofs.Ytgipmcmmicppkaa
open Go.RowKit
set_option linter.unusedSimpArgs false
set_option linter.unusedVariables false

set_option maxRecDepth 100000 in
set_option maxHeartbeats 4000000 in
theorem ustates_any (pa : Int) (a : Option Addr) (l : List Op13) (cap : Nat) (hcap : l.length ≤ cap) (hc63 : cap ≤ 9223372036854775807) (w : World) (hops : Ops13 w w.heap.size a l) : Calls Try.prog 5 #[.slice a l.length cap, .int .i64 pa] w fun e w' => e = .returned (.bool true) ∧ Below w.heap.size w w' := by
  go_enter Try.func5, Try.ntmps5
  by_cases h30 : 30 < l.length
  · have hd : decide ((30 : Int) < (l.length : Int)) = true := by simp; omega
    go_wp2_with fail
    refine (awake_any _).mono ?_
    rintro e w0 ⟨rfl, hb0⟩
    have HB0 := Lib.hid hb0
    clear hb0
    go_wp2_with fail
    refine (awake_any _).mono ?_
    rintro e w1 ⟨rfl, hb1⟩
    have HF := Lib.hid (bchain hb1 HB0.out)
    clear hb1
    go_wp2
    go_ret
    exact ⟨rfl, HF.out⟩
  have hd : decide ((30 : Int) < (l.length : Int)) = false := by simp; omega
  go_wp2_with fail
  refine (awake_any _).mono ?_
  rintro e w0 ⟨rfl, hb0⟩
  have HB0 := Lib.hid hb0
  go_wp2_with fail
  clear hd
  refine (open_any _).mono ?_
  rintro e w1 ⟨p, rfl, hw, hb1⟩
  have HB1 := Lib.hid (bchain hb1 HB0.out)
  obtain ⟨D, hD⟩ : ∃ D : Nat → Prop, D = fun k => w0.heap.size ≤ k := ⟨_, rfl⟩
  rw [← hD] at hw
  have hDn : ∀ k, D k → w.heap.size ≤ k := fun k hk => by rw [hD] at hk; exact Nat.le_trans hb0.size hk
  have HOPS := Lib.hid ((hops.below hb0).below hb1)
  have HDN := Lib.hid hDn
  obtain ⟨P, hx1, _⟩ := hw.wx
  have h1 := Lib.hid hx1
  have HM1 := Lib.hid (Mods.refl D w1)
  clear hD hb0 hb1 hw hx1 hDn
  have p0 := h1.out.c0
  have p1 := h1.out.c1
  have p2 := h1.out.c2
  have hpz := h1.out.plt
  have hd : Below w1.heap.size w1 w1.drew := (Below.refl _ _).drew
  have HDr1 := Lib.hid hd
  clear hd
  go_wp2_with fail
  go_region_held3 (fun w' => w'.cell? ⟨p, 0, none⟩ = some (.pointer (some ⟨P.bO, 0, none⟩)) ∧ w'.cell? ⟨p, 1, none⟩ = some (.pointer (some ⟨P.bY, 0, none⟩)) ∧ w'.cell? ⟨p, 2, none⟩ = some (.pointer (some ⟨P.bL, 0, none⟩))) (first | (with_reducible exact ⟨p0, p1, p2⟩) | go_keep) (first | (go_at_call 15; (with_reducible refine (Wx.note9 (h1.out.below HDr1.out) pa (by decide) rfl).mono ?_); rintro e w2 ⟨rfl, r2⟩; have p0 := r2.wx.c0; have p1 := r2.wx.c1; have p2 := r2.wx.c2; have h2 := Lib.hid r2.wx; have M2 := Lib.hid r2.md; clear r2) | (go_at_call 21; (with_reducible refine (Wx.commit9 h2.out rfl).mono ?_); rintro e w3 ⟨rfl, r3⟩; have p0 := r3.wx.c0; have p1 := r3.wx.c1; have p2 := r3.wx.c2; have h3 := Lib.hid r3.wx; have M3 := Lib.hid r3.md; clear r3) | (go_at_call 18; (with_reducible refine (Wx.rollback9 h3.out (by decide) rfl).mono ?_); rintro e w4 ⟨rfl, r4⟩; have p0 := r4.wx.c0; have p1 := r4.wx.c1; have p2 := r4.wx.c2; have h4 := Lib.hid r4.wx; have M4 := Lib.hid r4.md; clear r4) | (go_at_call 22; (with_reducible refine (Wx.open0 h4.out rfl).mono ?_); rintro e w5 ⟨rfl, hb5⟩; have p0 := bcellv hb5 p0; have p1 := bcellv hb5 p1; have p2 := bcellv hb5 p2; have h5 := Lib.hid (h4.out.below hb5); have M5 := Lib.hid (Mods.of_below (S := D) hb5); clear hb5) | (go_at_call 12; (with_reducible refine (Wx.begin0 h5.out rfl).mono ?_); rintro e w6 ⟨rfl, r6⟩; have p0 := r6.wx.c0; have p1 := r6.wx.c1; have p2 := r6.wx.c2; have h6 := Lib.hid r6.wx; have M6 := Lib.hid r6.md; clear r6))
  all_goals (try go_wp2_with fail)
  have HM6 := Lib.hid ((((((HM1.out.trans (Mods.of_below (S := D) HDr1.out) (fun i hi => .inl hi)).trans M2.out (fun i hi => .inl hi)).trans M3.out (fun i hi => .inl hi)).trans M4.out (fun i hi => .inl hi)).trans M5.out (fun i hi => .inl hi)).trans M6.out (fun i hi => .inl hi))
  have hpz := h6.out.plt
  clear p0 p1 p2
  have p3 := h6.out.c3
  have p4 := h6.out.c4
  have p5 := h6.out.c5
  have p6 := h6.out.c6
  have p7 := h6.out.c7
  have p8 := h6.out.c8
  have p9 := h6.out.c9
  have p10 := h6.out.c10
  have p11 := h6.out.c11
  have p12 := h6.out.c12
  have pf := h6.out.fz
  have hpz := h6.out.plt
  have hd : Below w6.heap.size w6 w6.drew := (Below.refl _ _).drew
  have HDr6 := Lib.hid hd
  clear hd
  go_wp2_with fail
  go_cut [76] from 77 to 90 (fun s1 wx => CutBg w6 (D) p L13 Y13 (bgS s13) (s13) (2) P s1 wx)
  case first =>
    go_region_with (go_at_call 23; (with_reducible refine ((h6.out.below HDr6.out).rbegin).mono ?_); rintro e w7 ⟨a3, n3, c3, a4, n4, c4, rfl, hl⟩; have hb6 := hl.2.2.2; have q9 := bcellv hb6 p9; have q10 := bcellv hb6 p10; have q11 := bcellv hb6 p11; have q12 := bcellv hb6 p12; have qf : ∀ i, w7.frozen? ⟨p, i, none⟩ = false := frozen_of_block (bblock hb6 (h6.out.below HDr6.out).blk); have HL := Lib.hid hl; clear hl hb6)
    all_goals (try go_wp2_with fail)
    all_goals go_meet
    all_goals exact CutBg.of (h6.out) HDr6.out HL.out
  case rest =>
    obtain ⟨_, a3, n3, c3, a4, n4, c4, h, hM⟩ := hcut
    obtain ⟨w8, hw⟩ : ∃ W, wc = W := ⟨_, rfl⟩
    rw [hw] at h hM ⊢
    clear hw
    have h8 := Lib.hid h
    have HR8 := Lib.hid hM
    clear h hM pf hpz p3 p4 p5 p6 p7 p8 p9 p10 p11 p12
    have HM8 := Lib.hid (HM6.out.trans HR8.out (fun i hi => .inl hi))
    have p0 := h8.out.c0
    have p1 := h8.out.c1
    have p2 := h8.out.c2
    have hpz := h8.out.plt
    have hops8 := HOPS.out.mods HM8.out HDN.out
    have hT := turn_any h8.out.ww hops8 HDN.out hcap hc63 (by omega) (by omega) (by show _ + _ ≤ _; simp only [show (bgS s13).nt.length = 0 from rfl]; omega)
    obtain ⟨X, hX⟩ : ∃ X, tnR L13 Y13 (bgS s13, 2) l = X := ⟨_, rfl⟩
    rw [hX] at hT
    have HX := Lib.hid hX
    clear hops8 hX
    go_wp2_with fail
    refine hT.mono ?_
    rintro e w9 ⟨rfl, hX⟩
    clear hT
    obtain ⟨P2, hx, _⟩ := hX.1.wx
    have h9 := Lib.hid hx
    have HR9 := Lib.hid hX.2
    clear hx hX
    have HM9 := Lib.hid (HM8.out.trans HR9.out (fun i hi => .inl hi))
    have p0 := h9.out.c0
    have p1 := h9.out.c1
    have p2 := h9.out.c2
    have hpz := h9.out.plt
    have HT := Lib.hid (show Trn O13 N13 X.1 by rw [← HX.out]; exact Trn.turn l (bgS s13, 2) trn_1)
    have hbd := tnR_bd L13 Y13 l (bgS s13, 2)
    rw [HX.out] at hbd
    have hln : X.1.nt.length ≤ 100000 := by
      have := hbd.1
      rw [show (bgS s13, (2 : Int)).1.nt.length = 0 from rfl] at this
      omega
    have HLN := Lib.hid hln
    clear hbd hln
    go_wp2_with fail
    refine (Wx.len h9.out).mono ?_
    rintro e w10 ⟨rfl, hb10⟩
    have h10 := Lib.hid (h9.out.below hb10)
    have HB10 := Lib.hid hb10
    clear hb10
    have HM10 := Lib.hid (HM9.out.trans (Mods.of_below (S := D) HB10.out) (fun i hi => .inl hi))
    clear p0 p1 p2 hpz
    have p0 := h10.out.c0
    have p1 := h10.out.c1
    have p2 := h10.out.c2
    have hpz := h10.out.plt
    go_wp2_with fail
    refine (Wx.load h10.out pa).mono ?_
    rintro e w11 ⟨rfl, hb11⟩
    have h11 := Lib.hid (h10.out.below hb11)
    have HB11 := Lib.hid hb11
    clear hb11
    have HM11 := Lib.hid (HM10.out.trans (Mods.of_below (S := D) HB11.out) (fun i hi => .inl hi))
    clear p0 p1 p2 hpz
    have p0 := h11.out.c0
    have p1 := h11.out.c1
    have p2 := h11.out.c2
    have hpz := h11.out.plt
    have hd : Below w11.heap.size w11 w11.drew := (Below.refl _ _).drew
    have HDr11 := Lib.hid hd
    clear hd
    go_wp2_with fail
    go_region_held3 (fun w' => w'.cell? ⟨p, 0, none⟩ = some (.pointer (some ⟨P2.bO, 0, none⟩)) ∧ w'.cell? ⟨p, 1, none⟩ = some (.pointer (some ⟨P2.bY, 0, none⟩)) ∧ w'.cell? ⟨p, 2, none⟩ = some (.pointer (some ⟨P2.bL, 0, none⟩))) (first | (with_reducible exact ⟨p0, p1, p2⟩) | go_keep) (first | (go_at_call 12; (with_reducible refine (Wx.begin9 (h11.out.below HDr11.out) HT.out.op).mono ?_); rintro e w12 ⟨rfl, r12⟩; have p0 := r12.wx.c0; have p1 := r12.wx.c1; have p2 := r12.wx.c2; have h12 := Lib.hid r12.wx; have M12 := Lib.hid r12.md; clear r12) | (go_at_call 17; (with_reducible refine (Wx.len h12.out).mono ?_); rintro e w13 ⟨rfl, hb13⟩; have p0 := bcellv hb13 p0; have p1 := bcellv hb13 p1; have p2 := bcellv hb13 p2; have h13 := Lib.hid (h12.out.below hb13); have M13 := Lib.hid (Mods.of_below (S := D) hb13); clear hb13) | (go_at_call 22; (with_reducible refine (Wx.open1 h13.out HT.out.op).mono ?_); rintro e w14 ⟨rfl, hb14⟩; have p0 := bcellv hb14 p0; have p1 := bcellv hb14 p1; have p2 := bcellv hb14 p2; have h14 := Lib.hid (h13.out.below hb14); have M14 := Lib.hid (Mods.of_below (S := D) hb14); clear hb14) | (go_at_call 15; (with_reducible refine (Wx.note1 h14.out pa HLN.out HT.out.op).mono ?_); rintro e w15 ⟨rfl, r15⟩; have p0 := r15.wx.c0; have p1 := r15.wx.c1; have p2 := r15.wx.c2; have h15 := Lib.hid r15.wx; have M15 := Lib.hid r15.md; clear r15))
    all_goals (try go_wp2_with fail)
    have HM15 := Lib.hid (((((HM11.out.trans (Mods.of_below (S := D) HDr11.out) (fun i hi => .inl hi)).trans M12.out (fun i hi => .inl hi)).trans M13.out (fun i hi => .inl hi)).trans M14.out (fun i hi => .inl hi)).trans M15.out (fun i hi => .inl hi))
    have hpz := h15.out.plt
    go_wp2
    go_ret
    exact ⟨by simp, HB1.out.trans (HM15.out.below HB1.out.size HDN.out)⟩
end Go.Proofs.Ytgipmcmmicppkaa
