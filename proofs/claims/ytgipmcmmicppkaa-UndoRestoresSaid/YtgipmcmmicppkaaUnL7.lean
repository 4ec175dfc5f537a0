/-
  law 13: UndoRestores.
-/
import Derived.Test.YtgipmcmmicppkaaUnK
import Derived.Test.YtgipmcmmicppkaaUnI
namespace Go.Proofs.Ytgipmcmmicppkaa
open Go.RowKit
set_option linter.unusedSimpArgs false
set_option linter.unusedVariables false

noncomputable def beS (lo ly : Int) (x : M13 × Int) (o : Op13) : M13 × Int := if o.kd = 0 ∨ o.kd = 1 then (stpS lo ly x.1 x.2 o.kd o.nf o.a o.u o.raw, stpN x.2 o.kd) else x
noncomputable def beR (lo ly : Int) (x : M13 × Int) (l : List Op13) : M13 × Int := l.foldl (beS lo ly) x
theorem beR_snoc (lo ly : Int) (x : M13 × Int) (l : List Op13) (o : Op13) : beR lo ly x (l ++ [o]) = beS lo ly (beR lo ly x l) o := by
  unfold beR
  rw [List.foldl_append]
  rfl
/-- A state before the turn. -/
structure Bef (s : M13) : Prop where
  op : s.op = false
  nt : s.nt = []
  snd : Sound s.wy
theorem Bef.start : Bef s13 := ⟨rfl, rfl, sound_N⟩
theorem Bef.al {s : M13} (h : Bef s) (lo ly : Int) (y : Bool) (f i : Int) : Bef (alS lo ly y s f i) := by
  refine ⟨h.op, h.nt, ?_⟩
  cases y
  · exact h.snd
  · show Sound (alW 16777216 ly s.wy 0 1 f 1 i)
    unfold alW
    by_cases he : alE 16777216 ly s.wy 0 1 f 1 i = 0
    · rw [if_pos he]
      have hv : hvB 0 1 f = true ∧ idB 1 i = true := by
        unfold alE at he
        cases h1 : hvB 0 1 f <;> cases h2 : idB 1 i <;> rw [h1, h2] at he <;> simp at he ⊢
      exact (sound_alloc hv.1 hv.2 h.snd).1
    · rw [if_neg he]
      exact h.snd
theorem Bef.stp {lo ly : Int} {x : M13 × Int} (h : Bef x.1) (o : Op13) : Bef (beS lo ly x o).1 ∧ x.2 ≤ (beS lo ly x o).2 ∧ (beS lo ly x o).2 ≤ x.2 + 1 := by
  unfold beS
  split
  · rename_i hk
    refine ⟨?_, stpN_bd _ _⟩
    rcases hk with hk | hk
    · show Bef (stpS lo ly x.1 x.2 o.kd o.nf o.a o.u o.raw)
      rw [hk]
      exact h.al lo ly false _ _
    · show Bef (stpS lo ly x.1 x.2 o.kd o.nf o.a o.u o.raw)
      rw [hk]
      exact h.al lo ly true _ _
  · exact ⟨h, by omega, by omega⟩
theorem Bef.run {lo ly : Int} : ∀ (l : List Op13) (x : M13 × Int), Bef x.1 → Bef (beR lo ly x l).1 ∧ x.2 ≤ (beR lo ly x l).2 ∧ (beR lo ly x l).2 ≤ x.2 + l.length := by
  intro l
  induction l with
  | nil => intro x h; exact ⟨h, by simp [beR], by simp [beR]⟩
  | cons o l ih =>
    intro x h
    have h1 := h.stp (lo := lo) (ly := ly) o
    have h2 := ih (beS lo ly x o) h1.1
    have e : beR lo ly x (o :: l) = beR lo ly (beS lo ly x o) l := rfl
    rw [e, List.length_cons]
    exact ⟨h2.1, by omega, by omega⟩
theorem Bef.bg {s : M13} (h : Bef s) : (bgS s).nt = [] ∧ Trn s.wo s.wy (bgS s) := ⟨by unfold bgS; rw [h.op]; rfl, Trn.begin h.op h.snd⟩
set_option maxRecDepth 100000 in
set_option maxHeartbeats 4000000 in
theorem urestores_any (b0 : Option Addr) (l0 : List Op13) (cap0 : Nat) (hcap0 : l0.length ≤ cap0) (hc630 : cap0 ≤ 9223372036854775807) (a : Option Addr) (l : List Op13) (cap : Nat) (hcap : l.length ≤ cap) (hc63 : cap ≤ 9223372036854775807) (w : World) (hops0 : Ops13 w w.heap.size b0 l0) (hops : Ops13 w w.heap.size a l) : Calls Try.prog 7 #[.slice b0 l0.length cap0, .slice a l.length cap] w fun e w' => e = .returned (.bool true) ∧ Below w.heap.size w w' := by
  go_enter Try.func7, Try.ntmps7
  by_cases h300 : 30 < l0.length
  · have hd0 : decide ((30 : Int) < (l0.length : Int)) = true := by simp; omega
    go_wp2_with fail
    refine (awake_any _).mono ?_
    rintro e w0 ⟨rfl, hb0⟩
    have HB0 := Lib.hid hb0
    clear hb0
    go_wp2_with fail
    refine (awake_any _).mono ?_
    rintro e w1 ⟨rfl, hb1⟩
    have HF := Lib.hid (bchain hb1 HB0.out)
    clear hb1
    go_wp2
    go_ret
    exact ⟨rfl, HF.out⟩
  have hd0 : decide ((30 : Int) < (l0.length : Int)) = false := by simp; omega
  by_cases h30 : 30 < l.length
  · have hd : decide ((30 : Int) < (l.length : Int)) = true := by simp; omega
    go_wp2_with fail
    refine (awake_any _).mono ?_
    rintro e w0 ⟨rfl, hb0⟩
    have HB0 := Lib.hid hb0
    clear hb0
    go_wp2_with fail
    refine (awake_any _).mono ?_
    rintro e w1 ⟨rfl, hb1⟩
    have HF := Lib.hid (bchain hb1 HB0.out)
    clear hb1
    go_wp2
    go_ret
    exact ⟨rfl, HF.out⟩
  have hd : decide ((30 : Int) < (l.length : Int)) = false := by simp; omega
  go_wp2_with fail
  refine (awake_any _).mono ?_
  rintro e w0 ⟨rfl, hb0⟩
  have HB0 := Lib.hid hb0
  go_wp2_with fail
  clear hd hd0
  refine (open_any _).mono ?_
  rintro e w1 ⟨p, rfl, hw, hb1⟩
  have HB1 := Lib.hid (bchain hb1 HB0.out)
  obtain ⟨D, hD⟩ : ∃ D : Nat → Prop, D = fun k => w0.heap.size ≤ k := ⟨_, rfl⟩
  rw [← hD] at hw
  have hDn : ∀ k, D k → w.heap.size ≤ k := fun k hk => by rw [hD] at hk; exact Nat.le_trans hb0.size hk
  have HOPS := Lib.hid ((hops.below hb0).below hb1)
  have hops0 := (hops0.below hb0).below hb1
  have HDN := Lib.hid hDn
  clear hD hb0 hb1 hops
  go_wp2_with fail
  have h0 : WNx w1 ⟨D, fun _ _ _ => True⟩ p L13 Y13 (beR L13 Y13 (s13, 2) (l0.take 0)).1 (beR L13 Y13 (s13, 2) (l0.take 0)).1 (beR L13 Y13 (s13, 2) (l0.take 0)).2 w1 := ⟨hw, Mods.refl _ _⟩
  clear hw
  go_loopw [34] (fun q wr => ∃ t : Nat, t ≤ l0.length ∧ q = .int .i64 t ∧ WNx w1 ⟨D, fun _ _ _ => True⟩ p L13 Y13 (beR L13 Y13 (s13, 2) (l0.take t)).1 (beR L13 Y13 (s13, 2) (l0.take t)).1 (beR L13 Y13 (s13, 2) (l0.take t)).2 wr) (fun q _ => l0.length - (intOf q).toNat)
  case atStart => exact ⟨0, Nat.zero_le _, rfl, h0⟩
  case round =>
    clear h0
    obtain ⟨t, ht, rfl, hA⟩ := hrel
    by_cases hlt : t < l0.length
    · have hops0 := hops0.mods hA.2 HDN.out
      obtain ⟨b, off, rfl, hbw, hO⟩ := hops0.get t hlt
      obtain ⟨o, ho⟩ : ∃ o, l0[t]? = some o := ⟨_, List.getElem?_eq_getElem hlt⟩
      rw [(List.getElem?_eq_some_iff.1 ho).2] at hO
      obtain ⟨kd, nf, oa, u, orw⟩ := o
      obtain ⟨c0, c1, c2, c3, c4, ok⟩ := hO
      simp only [Addr.add_lit, Nat.add_zero] at c0 c1 c2 c3 c4
      have s1 : ((t : Int)).toNat = t := by omega
      have hbd := Bef.run (lo := L13) (ly := Y13) (l0.take t) (s13, 2) Bef.start
      rw [List.length_take, Nat.min_eq_left ht] at hbd
      have hrun := beR_snoc L13 Y13 (s13, 2) (l0.take t) ⟨kd, nf, oa, u, orw⟩
      rw [← take_snoc13 ho] at hrun
      unfold beS at hrun
      have Hrun := Lib.hid hrun
      obtain ⟨X, hX⟩ : ∃ X, beR L13 Y13 (s13, 2) (l0.take t) = X := ⟨_, rfl⟩
      rw [hX] at hA hbd Hrun
      have hA1 := hA.1
      have hb2 : 2 ≤ X.2 ∧ X.2 ≤ 2 + (t : Int) := hbd.2
      have hb3 : X.1.nt.length ≤ 100000 := by rw [hbd.1.nt]; exact Nat.zero_le _
      have hST := fun (W : World) (H : Below wr.heap.size wr W) => step_any kd nf oa u orw (hA1.below H) (by omega) (by omega) ok.k0 ok.n0 ok.n1 ok.u0 hb3
      have HST := Lib.hid hST
      have HA := Lib.hid hA
      have hcb := World.block_lt_of_cell? _ _ c0
      have hk0 : 0 ≤ kd := ok.k0
      clear hrun hX hA hA1 hST hbd hops0 ho ok hb2 hb3
      by_cases h1 : kd = 0
      · subst h1
        go_wp2_with fail
        refine (HST.out _ (by (repeat (first | exact Below.refl _ _ | assumption | refine Below.drew ?_ | refine below_drewN ?_ _ | refine balloc ?_ _ | refine Below.setCell ?_ (by first | (simp; done) | (simp; omega) | omega) _ | refine bchain (by assumption) ?_)))).mono ?_
        rintro e w4 ⟨rfl, h4⟩
        have hfin := WNx.trans HA.out (WNx.pre HA.out.1 (by (repeat (first | exact Below.refl _ _ | assumption | refine Below.drew ?_ | refine below_drewN ?_ _ | refine balloc ?_ _ | refine Below.setCell ?_ (by first | (simp; done) | (simp; omega) | omega) _ | refine bchain (by assumption) ?_))) h4)
        have HF := Lib.hid hfin
        clear h4 hfin
        go_wp2_with fail
        go_roundw
        case rel => exact ⟨t + 1, by omega, by go_num, (by rw [Hrun.out]; exact HF.out)⟩
        case measure => simp [intOf]; omega
      by_cases h4 : kd = 1
      · subst h4
        go_wp2_with fail
        refine (HST.out _ (by (repeat (first | exact Below.refl _ _ | assumption | refine Below.drew ?_ | refine below_drewN ?_ _ | refine balloc ?_ _ | refine Below.setCell ?_ (by first | (simp; done) | (simp; omega) | omega) _ | refine bchain (by assumption) ?_)))).mono ?_
        rintro e w4 ⟨rfl, h4⟩
        have hfin := WNx.trans HA.out (WNx.pre HA.out.1 (by (repeat (first | exact Below.refl _ _ | assumption | refine Below.drew ?_ | refine below_drewN ?_ _ | refine balloc ?_ _ | refine Below.setCell ?_ (by first | (simp; done) | (simp; omega) | omega) _ | refine bchain (by assumption) ?_))) h4)
        have HF := Lib.hid hfin
        clear h4 hfin
        go_wp2_with fail
        go_roundw
        case rel => exact ⟨t + 1, by omega, by go_num, (by rw [Hrun.out]; exact HF.out)⟩
        case measure => simp [intOf]; omega
      have e1 : decide (kd < 2) = false := by simp; omega
      have hrun : beR L13 Y13 (s13, 2) (l0.take (t + 1)) = X := by rw [Hrun.out]; simp [h1, h4]
      have Hrun := Lib.hid hrun
      clear hrun
      go_wp2_with fail
      go_roundw
      case rel => exact ⟨t + 1, by omega, by go_num, (by rw [Hrun.out]; exact HA.out.post (by (repeat (first | exact Below.refl _ _ | assumption | refine Below.drew ?_ | refine below_drewN ?_ _ | refine balloc ?_ _ | refine Below.setCell ?_ (by first | (simp; done) | (simp; omega) | omega) _ | refine bchain (by assumption) ?_))))⟩
      case measure => simp [intOf]; omega
    · have htl : t = l0.length := by omega
      subst htl
      rw [List.take_length] at hA
      have hbd := Bef.run (lo := L13) (ly := Y13) l0 (s13, 2) Bef.start
      obtain ⟨Z, hZ⟩ : ∃ Z, beR L13 Y13 (s13, 2) l0 = Z := ⟨_, rfl⟩
      rw [hZ] at hA hbd
      have hb2 : 2 ≤ Z.2 ∧ Z.2 ≤ 2 + (l0.length : Int) := hbd.2
      have HZ := Lib.hid hbd.1
      obtain ⟨w2, hwr⟩ : ∃ W, wr = W := ⟨_, rfl⟩
      rw [hwr] at hA ⊢
      obtain ⟨P, hx, _⟩ := hA.1.wx
      have h2 := Lib.hid hx
      have HM2 := Lib.hid hA.2
      clear hA hbd hZ hx hwr hops0
      have p0 := h2.out.c0
      have p1 := h2.out.c1
      have p2 := h2.out.c2
      have hpz := h2.out.plt
      go_wp2_with fail
      refine h2.out.words.mono ?_
      rintro e w3 ⟨v1, v2, rfl, hv1, hv2, hb, f1, f2⟩
      have Hv1 := Lib.hid (show WrdsF w3 w2.heap.size v1 (Z.1).wo from WrdsF.of hv1 f1)
      have Hv2 := Lib.hid (show WrdsF w3 w2.heap.size v2 (Z.1).wy from WrdsF.of hv2 f2)
      have h3 := Lib.hid (h2.out.redom hb (D' := fun k => (D) k ∧ ¬ (w2.heap.size ≤ k ∧ k < w3.heap.size)) ⟨h2.out.pd, by have := h2.out.plt; omega⟩ (fun k hk hl => ⟨hk, by omega⟩) (fun k hk => ⟨h2.out.dom k (by have := hb.size; omega), by omega⟩))
      have HB3 := Lib.hid hb
      clear hv1 hv2 hb f1 f2 p0 p1 p2 hpz
      have HM3 := Lib.hid (HM2.out.trans (Mods.of_below (S := D) HB3.out) (fun i hi => .inl hi))
      have HNv1_3 := Lib.hid (Mods.refl (fun k => (D) k ∧ ¬ (w2.heap.size ≤ k ∧ k < w3.heap.size)) w3)
      have p0 := h3.out.c0
      have p1 := h3.out.c1
      have p2 := h3.out.c2
      have hpz := h3.out.plt
      have hd : Below w3.heap.size w3 w3.drew := (Below.refl _ _).drew
      have HDr3 := Lib.hid hd
      clear hd
      go_wp2_with fail
      go_region_held3 (fun w' => w'.cell? ⟨p, 0, none⟩ = some (.pointer (some ⟨P.bO, 0, none⟩)) ∧ w'.cell? ⟨p, 1, none⟩ = some (.pointer (some ⟨P.bY, 0, none⟩)) ∧ w'.cell? ⟨p, 2, none⟩ = some (.pointer (some ⟨P.bL, 0, none⟩))) (first | (with_reducible exact ⟨p0, p1, p2⟩) | go_keep) (first | (go_at_call 12; (with_reducible refine (Wx.begin0 (h3.out.below HDr3.out) HZ.out.op).mono ?_); rintro e w4 ⟨rfl, r4⟩; have p0 := r4.wx.c0; have p1 := r4.wx.c1; have p2 := r4.wx.c2; have h4 := Lib.hid r4.wx; have M4 := Lib.hid r4.md; clear r4))
      all_goals (try go_wp2_with fail)
      have HM4 := Lib.hid ((HM3.out.trans (Mods.of_below (S := (fun k => (D) k ∧ ¬ (w2.heap.size ≤ k ∧ k < w3.heap.size))) HDr3.out) (fun i hi => .inl hi.1)).trans M4.out (fun i hi => .inl hi.1))
      have HNv1_4 := Lib.hid ((HNv1_3.out.trans (Mods.of_below (S := (fun k => (D) k ∧ ¬ (w2.heap.size ≤ k ∧ k < w3.heap.size))) HDr3.out) (fun i hi => .inl hi)).trans M4.out (fun i hi => .inl hi))
      have hpz := h4.out.plt
      clear p0 p1 p2
      have p3 := h4.out.c3
      have p4 := h4.out.c4
      have p5 := h4.out.c5
      have p6 := h4.out.c6
      have p7 := h4.out.c7
      have p8 := h4.out.c8
      have p9 := h4.out.c9
      have p10 := h4.out.c10
      have p11 := h4.out.c11
      have p12 := h4.out.c12
      have pf := h4.out.fz
      have hpz := h4.out.plt
      have hd : Below w4.heap.size w4 w4.drew := (Below.refl _ _).drew
      have HDr4 := Lib.hid hd
      clear hd
      go_wp2_with fail
      go_cut [66] from 67 to 80 (fun s1 wx => CutBg w4 ((fun k => (D) k ∧ ¬ (w2.heap.size ≤ k ∧ k < w3.heap.size))) p L13 Y13 (bgS Z.1) (Z.1) (Z.2) P s1 wx)
      case first =>
        go_region_with (go_at_call 23; (with_reducible refine ((h4.out.below HDr4.out).rbegin).mono ?_); rintro e w5 ⟨a3, n3, c3, a4, n4, c4, rfl, hl⟩; have hb6 := hl.2.2.2; have q9 := bcellv hb6 p9; have q10 := bcellv hb6 p10; have q11 := bcellv hb6 p11; have q12 := bcellv hb6 p12; have qf : ∀ i, w5.frozen? ⟨p, i, none⟩ = false := frozen_of_block (bblock hb6 (h4.out.below HDr4.out).blk); have HL := Lib.hid hl; clear hl hb6)
        all_goals (try go_wp2_with fail)
        all_goals go_meet
        all_goals exact CutBg.of (h4.out) HDr4.out HL.out
      case rest =>
        obtain ⟨_, a3, n3, c3, a4, n4, c4, h, hM⟩ := hcut
        obtain ⟨w6, hw⟩ : ∃ W, wc = W := ⟨_, rfl⟩
        rw [hw] at h hM ⊢
        clear hw
        have h6 := Lib.hid h
        have HR6 := Lib.hid hM
        clear h hM pf hpz p3 p4 p5 p6 p7 p8 p9 p10 p11 p12
        have HM6 := Lib.hid (HM4.out.trans HR6.out (fun i hi => .inl hi.1))
        have HNv1_6 := Lib.hid (HNv1_4.out.trans HR6.out (fun i hi => .inl hi))
        have hopsT := HOPS.out.mods HM6.out HDN.out
        have hTN := fun (W : World) (H : Below w6.heap.size w6 W) => turn_any (h6.out.ww.below H) (hopsT.below H) (fun i hi => HDN.out i hi.1) hcap hc63 (by omega) (by omega) (by rw [HZ.out.bg.1]; simp only [List.length_nil]; omega)
        obtain ⟨X, hX⟩ : ∃ X, tnR L13 Y13 (bgS Z.1, Z.2) l = X := ⟨_, rfl⟩
        rw [hX] at hTN
        have HX := Lib.hid hX
        have HTN := Lib.hid hTN
        have HT := Lib.hid (show Trn Z.1.wo Z.1.wy X.1 by rw [← HX.out]; exact Trn.turn l (bgS Z.1, Z.2) HZ.out.bg.2)
        have hbd := tnR_bd L13 Y13 l (bgS Z.1, Z.2)
        rw [HX.out] at hbd
        have hln : X.1.nt.length ≤ 100000 := by
          have := hbd.1
          rw [show (bgS Z.1, Z.2).1.nt = [] from HZ.out.bg.1] at this
          simp only [List.length_nil] at this
          omega
        have HLN := Lib.hid hln
        clear hbd hln hTN hopsT hX
        have p0 := h6.out.c0
        have p1 := h6.out.c1
        have p2 := h6.out.c2
        have hpz := h6.out.plt
        have hd : Below w6.heap.size w6 w6.drew := (Below.refl _ _).drew
        have HDr6 := Lib.hid hd
        clear hd
        go_wp2_with fail
        go_region_held3 (fun w' => w'.cell? ⟨p, 0, none⟩ = some (.pointer (some ⟨(P.log a3 n3 c3 a4 n4 c4).bO, 0, none⟩)) ∧ w'.cell? ⟨p, 1, none⟩ = some (.pointer (some ⟨(P.log a3 n3 c3 a4 n4 c4).bY, 0, none⟩)) ∧ w'.cell? ⟨p, 2, none⟩ = some (.pointer (some ⟨(P.log a3 n3 c3 a4 n4 c4).bL, 0, none⟩))) (first | (with_reducible exact ⟨p0, p1, p2⟩) | go_keep) (first | (go_at_call 24; (with_reducible refine (HTN.out _ HDr6.out).mono ?_); rintro e w7 ⟨rfl, hX⟩; obtain ⟨aO2, nO2, cO2, aY2, nY2, cY2, aA2, nA2, cA2, aW2, nW2, cW2, rO2, rY2, hx⟩ := hX.1.wxP; have p0 := hx.c0; have p1 := hx.c1; have p2 := hx.c2; have h7 := Lib.hid hx; have M7 := Lib.hid hX.2; clear hx hX) | (go_at_call 18; (with_reducible refine (Wx.rollback0 h7.out HLN.out HT.out).mono ?_); rintro e w8 ⟨rfl, r8⟩; have p0 := r8.wx.c0; have p1 := r8.wx.c1; have p2 := r8.wx.c2; have h8 := Lib.hid r8.wx; have M8 := Lib.hid r8.md; clear r8) | (go_at_call 22; (with_reducible refine (Wx.open0 h8.out rfl).mono ?_); rintro e w9 ⟨rfl, hb9⟩; have p0 := bcellv hb9 p0; have p1 := bcellv hb9 p1; have p2 := bcellv hb9 p2; have h9 := Lib.hid (h8.out.below hb9); have M9 := Lib.hid (Mods.of_below (S := (fun k => (D) k ∧ ¬ (w2.heap.size ≤ k ∧ k < w3.heap.size))) hb9); clear hb9) | (go_at_call 17; (with_reducible refine (Wx.len0 h9.out rfl).mono ?_); rintro e w10 ⟨rfl, hb10⟩; have p0 := bcellv hb10 p0; have p1 := bcellv hb10 p1; have p2 := bcellv hb10 p2; have h10 := Lib.hid (h9.out.below hb10); have M10 := Lib.hid (Mods.of_below (S := (fun k => (D) k ∧ ¬ (w2.heap.size ≤ k ∧ k < w3.heap.size))) hb10); clear hb10))
        all_goals (try go_wp2_with fail)
        have HM10 := Lib.hid (((((HM6.out.trans (Mods.of_below (S := (fun k => (D) k ∧ ¬ (w2.heap.size ≤ k ∧ k < w3.heap.size))) HDr6.out) (fun i hi => .inl hi.1)).trans M7.out (fun i hi => .inl hi.1)).trans M8.out (fun i hi => .inl hi.1)).trans M9.out (fun i hi => .inl hi.1)).trans M10.out (fun i hi => .inl hi.1))
        have HNv1_10 := Lib.hid (((((HNv1_6.out.trans (Mods.of_below (S := (fun k => (D) k ∧ ¬ (w2.heap.size ≤ k ∧ k < w3.heap.size))) HDr6.out) (fun i hi => .inl hi)).trans M7.out (fun i hi => .inl hi)).trans M8.out (fun i hi => .inl hi)).trans M9.out (fun i hi => .inl hi)).trans M10.out (fun i hi => .inl hi))
        clear p0 p1 p2
        have p0 := h10.out.c0
        have p1 := h10.out.c1
        have p2 := h10.out.c2
        have hpz := h10.out.plt
        go_wp2_with fail
        refine h10.out.words.mono ?_
        rintro e w11 ⟨v3, v4, rfl, hv1, hv2, hb, f1, f2⟩
        have Hv3 := Lib.hid (show WrdsF w11 w10.heap.size v3 (Z.1).wo from WrdsF.of hv1 f1)
        have Hv4 := Lib.hid (show WrdsF w11 w10.heap.size v4 (Z.1).wy from WrdsF.of hv2 f2)
        have h11 := Lib.hid (h10.out.redom hb (D' := fun k => ((fun k => (D) k ∧ ¬ (w2.heap.size ≤ k ∧ k < w3.heap.size))) k ∧ ¬ (w10.heap.size ≤ k ∧ k < w11.heap.size)) ⟨h10.out.pd, by have := h10.out.plt; omega⟩ (fun k hk hl => ⟨hk, by omega⟩) (fun k hk => ⟨h10.out.dom k (by have := hb.size; omega), by omega⟩))
        have HB11 := Lib.hid hb
        clear hv1 hv2 hb f1 f2 p0 p1 p2 hpz
        have HM11 := Lib.hid (HM10.out.trans (Mods.of_below (S := (fun k => (D) k ∧ ¬ (w2.heap.size ≤ k ∧ k < w3.heap.size))) HB11.out) (fun i hi => .inl hi.1))
        have HNv1_11 := Lib.hid (HNv1_10.out.trans (Mods.of_below (S := (fun k => (D) k ∧ ¬ (w2.heap.size ≤ k ∧ k < w3.heap.size))) HB11.out) (fun i hi => .inl hi))
        have HNv3_11 := Lib.hid (Mods.refl (fun k => ((fun k => (D) k ∧ ¬ (w2.heap.size ≤ k ∧ k < w3.heap.size))) k ∧ ¬ (w10.heap.size ≤ k ∧ k < w11.heap.size)) w11)
        have p0 := h11.out.c0
        have p1 := h11.out.c1
        have p2 := h11.out.c2
        have hpz := h11.out.plt
        have Hv1 := Lib.hid (Hv1.out.mods (Nat.le_refl _) HNv1_11.out (fun G h => h.2))
        have Hv2 := Lib.hid (Hv2.out.mods (Nat.le_refl _) HNv1_11.out (fun G h => h.2))
        have hc1 := wrds_any Hv1.out.1 Hv3.out.1
        have hc2 := fun W (H : Below w11.heap.size w11 W) => wrds_any (Hv2.out.1.below H) (Hv4.out.1.below H)
        simp only [decide_true] at hc1 hc2
        have HC2 := Lib.hid hc2
        clear hc2
        go_wp2_with fail
        refine hc1.mono ?_
        rintro e w12 ⟨rfl, hb⟩
        have HB12 := Lib.hid hb
        clear hb hc1
        have HM12 := Lib.hid (HM11.out.trans (Mods.of_below (S := (fun k => ((fun k => (D) k ∧ ¬ (w2.heap.size ≤ k ∧ k < w3.heap.size))) k ∧ ¬ (w10.heap.size ≤ k ∧ k < w11.heap.size))) HB12.out) (fun i hi => .inl hi.1.1))
        have HNv1_12 := Lib.hid (HNv1_11.out.trans (Mods.of_below (S := (fun k => ((fun k => (D) k ∧ ¬ (w2.heap.size ≤ k ∧ k < w3.heap.size))) k ∧ ¬ (w10.heap.size ≤ k ∧ k < w11.heap.size))) HB12.out) (fun i hi => .inl hi.1))
        have HNv3_12 := Lib.hid (HNv3_11.out.trans (Mods.of_below (S := (fun k => ((fun k => (D) k ∧ ¬ (w2.heap.size ≤ k ∧ k < w3.heap.size))) k ∧ ¬ (w10.heap.size ≤ k ∧ k < w11.heap.size))) HB12.out) (fun i hi => .inl hi))
        go_wp2_with fail
        refine (HC2.out _ HB12.out).mono ?_
        rintro e w13 ⟨rfl, hb⟩
        have HB13 := Lib.hid hb
        clear hb
        have HM13 := Lib.hid (HM12.out.trans (Mods.of_below (S := (fun k => ((fun k => (D) k ∧ ¬ (w2.heap.size ≤ k ∧ k < w3.heap.size))) k ∧ ¬ (w10.heap.size ≤ k ∧ k < w11.heap.size))) HB13.out) (fun i hi => .inl hi.1.1))
        have HNv1_13 := Lib.hid (HNv1_12.out.trans (Mods.of_below (S := (fun k => ((fun k => (D) k ∧ ¬ (w2.heap.size ≤ k ∧ k < w3.heap.size))) k ∧ ¬ (w10.heap.size ≤ k ∧ k < w11.heap.size))) HB13.out) (fun i hi => .inl hi.1))
        have HNv3_13 := Lib.hid (HNv3_12.out.trans (Mods.of_below (S := (fun k => ((fun k => (D) k ∧ ¬ (w2.heap.size ≤ k ∧ k < w3.heap.size))) k ∧ ¬ (w10.heap.size ≤ k ∧ k < w11.heap.size))) HB13.out) (fun i hi => .inl hi))
        go_wp2
        go_ret
        exact ⟨by simp, HB1.out.trans (HM13.out.below HB1.out.size HDN.out)⟩
end Go.Proofs.Ytgipmcmmicppkaa
