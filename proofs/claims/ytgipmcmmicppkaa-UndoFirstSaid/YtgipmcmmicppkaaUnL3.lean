/-
  law 13: UndoFirst.
-/
import Derived.Test.YtgipmcmmicppkaaUnK
import Derived.Test.YtgipmcmmicppkaaUnI
namespace Go.Proofs.Ytgipmcmmicppkaa
open Go.ChangeShapes Go.WideShapes Go.ChangeAt Go.RowKit Go.Deep
set_option linter.unusedSimpArgs false
set_option linter.unusedVariables false

set_option maxRecDepth 100000 in
theorem open_words13 {H : Type} {enc : TypeId × Value → H} {W : World} {v : Value} {d : DataW H} {p : List MemPlace} {r : Reach} {b0 : Nat} (hv : Value.okWide Try.prog W r b0 22 v) (h : DataW.Trod enc Try.prog W 0 (fun _ => true) true 22 v d p) :
    ∃ l : List Int, WrdsV W v l ∧ ∀ (i : Nat) (x : Int), l[i]? = some x → U64 x := by
  obtain ⟨a, len, cap, rfl⟩ := okWide_slice Try.underlying22 hv
  obtain ⟨fuel, hf⟩ := h
  rcases open_slice1 Try.underlying22 (by kernel_rfl) hf with ⟨hcs, _⟩ | ⟨x, len', cap', m, n, V, D, Pl, hcs, _, hl, hm, hmm, _, hi⟩
  · simp [Value.cells] at hcs
    obtain ⟨rfl, rfl, rfl⟩ := hcs
    exact ⟨[], ⟨none, 0, rfl, Nat.le_refl _, by omega, .inl rfl⟩, fun i x hx => by simp at hx⟩
  · simp [Value.cells] at hcs
    obtain ⟨rfl, rfl, rfl⟩ := hcs
    simp only [if_true] at hmm
    subst hmm
    have key : ∀ i, i < len → ∃ z : Int, W.cell? (x.add i) = some (.int .u64 z) ∧ U64 z := by
      intro i hil
      obtain ⟨h1, h2⟩ := hi i (by omega)
      obtain ⟨z, e1, _, wf⟩ := DataW.trod_int Try.underlying43 h2
      simp only [List.cons.injEq, and_true] at e1
      rw [e1] at h1
      exact ⟨z, h1, u64_wf wf⟩
    obtain ⟨l, hll, hlp⟩ := list_of len key
    refine ⟨l, ⟨some x, _, by rw [hll], by omega, by unfold maxLen at hm; exact hm, ?_⟩, fun i z hz => (hlp i z hz).2⟩
    by_cases h0 : len = 0
    · exact .inl (List.length_eq_zero_iff.1 (by omega))
    · have e0 := (hlp 0 _ (List.getElem?_eq_getElem (by omega))).1
      obtain ⟨xb, xo, xs⟩ := x
      have hspot : xs = none := by simpa [Addr.add] using World.cell?_spot e0
      subst hspot
      refine .inr ⟨xb, xo, rfl, fun i o ho => ?_⟩
      have hq := (hlp i o ho).1
      rw [Addr.add_lit] at hq
      exact hq
theorem first_at (n : Int) : LE O13 N13 (at13 false O13.length N13.length n) = 0 := by
  have h1 : O13.length = 5 := by decide
  have h2 : N13.length = 4 := by decide
  unfold LE ioE bsA wsA inB
  rw [h1, h2]
  unfold at13
  have h3 := Int.tmod_lt_of_pos (n.tmod 9 + 9) (show (0 : Int) < 9 by omega)
  have h4 := Int.lt_tmod_of_pos n (show (0 : Int) < 9 by omega)
  have h5 : 0 ≤ (n.tmod 9 + 9).tmod 9 := Int.tmod_nonneg _ (by omega)
  have e : (((5 : Nat) : Int) + ((4 : Nat) : Int)) = 9 := rfl
  rw [e]
  generalize (n.tmod 9 + 9).tmod 9 = m at *
  simp only [Bool.false_or, show decide ((9 : Int) = 0) = false by decide, Bool.false_eq_true, if_false]
  split <;> split <;> simp_all <;> omega
/-- A turn in which one word was noted and written t times. -/
structure Fst (y : Int) (t : Nat) (s : M13) : Prop where
  trn : Trn O13 N13 s
  len : s.nt.length = t
  le : LE s.wo s.wy y = 0
theorem Fst.step {y : Int} {t : Nat} {s : M13} (h : Fst y t s) (u : Int) : Fst y (t + 1) (stS (ntS s y) y u) := by
  have e : ntS s y = ⟨s.wo, s.wy, true, s.top, s.nt ++ [(y, LD s.wo s.wy y)]⟩ := by
    unfold ntS
    rw [h.trn.op, if_pos rfl, if_pos h.le]
  refine ⟨h.trn.ns y u, ?_, ?_⟩
  · show (ntS s y).nt.length = t + 1
    rw [e]
    simp [h.len]
  · show LE (stO (ntS s y).wo y u) (stY (ntS s y).wy y u) y = 0
    rw [LE_st, e]
    exact h.le
theorem Fst.nle {y : Int} {t : Nat} {s : M13} (h : Fst y t s) : LE (ntS s y).wo (ntS s y).wy y = 0 ∧ (ntS s y).nt.length = t + 1 := by
  have e : ntS s y = ⟨s.wo, s.wy, true, s.top, s.nt ++ [(y, LD s.wo s.wy y)]⟩ := by
    unfold ntS
    rw [h.trn.op, if_pos rfl, if_pos h.le]
  rw [e]
  exact ⟨h.le, by simp [h.len]⟩
set_option maxRecDepth 100000 in
set_option maxHeartbeats 4000000 in
theorem ufirst_any (na : Int) (hna : 0 ≤ na ∧ na ≤ 255) {v : Value} {l : List Int} (w : World) (hv : WrdsV w v l) (hU : ∀ (i : Nat) (x : Int), l[i]? = some x → U64 x) : Calls Try.prog 3 #[.int .u8 na, v] w fun e w' => e = .returned (.bool true) ∧ Below w.heap.size w w' := by
  obtain ⟨a, cap, rfl, hcap, hc63, hrow⟩ := hv
  go_enter Try.func3, Try.ntmps3
  by_cases h20 : 20 < l.length
  · have hd : decide ((20 : Int) < (l.length : Int)) = true := by simp; omega
    go_wp2_with fail
    refine (awake_any _).mono ?_
    rintro e w0 ⟨rfl, hb0⟩
    have HB0 := Lib.hid hb0
    clear hb0
    go_wp2_with fail
    refine (awake_any _).mono ?_
    rintro e w1 ⟨rfl, hb1⟩
    have HF := Lib.hid (bchain hb1 HB0.out)
    clear hb1
    go_wp2
    go_ret
    exact ⟨rfl, HF.out⟩
  have hd : decide ((20 : Int) < (l.length : Int)) = false := by simp; omega
  by_cases h0 : l.length = 0
  · have he : ((l.length : Int) == 0) = true := by rw [h0]; rfl
    go_wp2_with fail
    refine (awake_any _).mono ?_
    rintro e w0 ⟨rfl, hb0⟩
    have HB0 := Lib.hid hb0
    clear hb0
    go_wp2_with fail
    refine (awake_any _).mono ?_
    rintro e w1 ⟨rfl, hb1⟩
    have HF := Lib.hid (bchain hb1 HB0.out)
    clear hb1
    go_wp2
    go_ret
    exact ⟨rfl, HF.out⟩
  have he : ((l.length : Int) == 0) = false := beq_eq_false_iff_ne.2 (by omega)
  go_wp2_with fail
  refine (awake_any _).mono ?_
  rintro e w0 ⟨rfl, hb0⟩
  have HB0 := Lib.hid hb0
  go_wp2_with fail
  clear hd he
  refine (open_any _).mono ?_
  rintro e w1 ⟨p, rfl, hw, hb1⟩
  have HB1 := Lib.hid (bchain hb1 HB0.out)
  obtain ⟨D, hD⟩ : ∃ D : Nat → Prop, D = fun k => w0.heap.size ≤ k := ⟨_, rfl⟩
  rw [← hD] at hw
  have hDn : ∀ k, D k → w.heap.size ≤ k := fun k hk => by rw [hD] at hk; exact Nat.le_trans hb0.size hk
  have HDN := Lib.hid hDn
  have HROW := Lib.hid (show ∃ b off : Nat, a = some ⟨b, off, none⟩ ∧ b < w.heap.size ∧ ∀ (i : Nat) (x : Int), l[i]? = some x → w1.cell? ⟨b, off + i, none⟩ = some (.int .u64 x) by
    rcases hrow with e | ⟨b, off, e, hr⟩
    · exact absurd (by rw [e]; rfl) h0
    · have hlt := World.block_lt_of_cell? _ _ (hr 0 _ (List.getElem?_eq_getElem (by omega)))
      exact ⟨b, off, e, hlt, fun i x hx => bcellv hb1 (bcellv hb0 (hr i x hx))⟩)
  obtain ⟨P, hx1, _⟩ := hw.wx
  have h1 := Lib.hid hx1
  have HM1 := Lib.hid (Mods.refl D w1)
  have HU := Lib.hid hU
  have hwi : IntKind.i64.wrap na = na := IntWalk.i64_in _ (by omega)
  clear hD hb0 hb1 hw hx1 hDn hrow hU
  have p0 := h1.out.c0
  have p1 := h1.out.c1
  have p2 := h1.out.c2
  have hpz := h1.out.plt
  have hd : Below w1.heap.size w1 w1.drew := (Below.refl _ _).drew
  have HDr1 := Lib.hid hd
  clear hd
  go_wp2_with fail
  go_region_held3 (fun w' => w'.cell? ⟨p, 0, none⟩ = some (.pointer (some ⟨P.bO, 0, none⟩)) ∧ w'.cell? ⟨p, 1, none⟩ = some (.pointer (some ⟨P.bY, 0, none⟩)) ∧ w'.cell? ⟨p, 2, none⟩ = some (.pointer (some ⟨P.bL, 0, none⟩))) (first | (with_reducible exact ⟨p0, p1, p2⟩) | go_keep) (first | (go_at_call 12; (with_reducible refine (Wx.begin0 (h1.out.below HDr1.out) rfl).mono ?_); rintro e w2 ⟨rfl, r2⟩; have p0 := r2.wx.c0; have p1 := r2.wx.c1; have p2 := r2.wx.c2; have h2 := Lib.hid r2.wx; have M2 := Lib.hid r2.md; clear r2))
  all_goals (try go_wp2_with fail)
  have HM2 := Lib.hid ((HM1.out.trans (Mods.of_below (S := D) HDr1.out) (fun i hi => .inl hi)).trans M2.out (fun i hi => .inl hi))
  have hpz := h2.out.plt
  have hle := first_at na
  have hAT := at_ww h2.out.ww 0 0 na 0 false
  have hs0 := Lib.hid (show Fst (at13 false O13.length N13.length na) 0 (bgS s13) from ⟨trn_1, rfl, hle⟩)
  change Calls _ _ _ _ (fun e w' => e = .returned (.int .i64 (at13 false O13.length N13.length na)) ∧ _) at hAT
  generalize at13 false O13.length N13.length na = y at hAT hs0 hle
  have HLE := Lib.hid hle
  clear hle
  go_wp2_with fail
  refine hAT.mono ?_
  rintro e w3 ⟨rfl, hb⟩
  have HB3 := Lib.hid hb
  have h3 := Lib.hid (h2.out.below hb)
  clear hb hAT p0 p1 p2 hpz
  have HM3 := Lib.hid (HM2.out.trans (Mods.of_below (S := D) HB3.out) (fun i hi => .inl hi))
  have p0 := h3.out.c0
  have p1 := h3.out.c1
  have p2 := h3.out.c2
  have hpz := h3.out.plt
  go_wp2_with fail
  refine (Wx.load h3.out y).mono ?_
  rintro e w4 ⟨rfl, hb4⟩
  have h4 := Lib.hid (h3.out.below hb4)
  have HB4 := Lib.hid hb4
  clear hb4
  have HM4 := Lib.hid (HM3.out.trans (Mods.of_below (S := D) HB4.out) (fun i hi => .inl hi))
  clear p0 p1 p2 hpz
  have p0 := h4.out.c0
  have p1 := h4.out.c1
  have p2 := h4.out.c2
  have hpz := h4.out.plt
  obtain ⟨vo, hvo⟩ : ∃ x, LD (bgS s13).wo (bgS s13).wy y = x := ⟨_, rfl⟩
  rw [hvo]
  have HVO := Lib.hid hvo
  clear hvo p0 p1 p2 hpz
  go_wp2_with fail
  go_loopw [62] (fun q wr => ∃ (t : Nat) (x : M13), t ≤ l.length ∧ q = .int .i64 t ∧ Wx wr D p L13 Y13 x s13 2 P ∧ Mods D w1 wr ∧ Fst y t x) (fun q _ => l.length - (intOf q).toNat)
  case atStart => exact ⟨0, _, Nat.zero_le _, rfl, h4.out, HM4.out, hs0.out⟩
  case round =>
      obtain ⟨t, x, ht, rfl, hxr, hMr, hF⟩ := hrel
      obtain ⟨w20, hw20⟩ : ∃ W, wr = W := ⟨_, rfl⟩
      rw [hw20] at hxr hMr ⊢
      have h20x := Lib.hid hxr
      have HM20 := Lib.hid hMr
      have HF := Lib.hid hF
      clear hxr hMr hF hw20
      have h20 := h20x
      by_cases hlt : t < l.length
      · obtain ⟨b, off, rfl, hbw, hr⟩ := HROW.out
        obtain ⟨u, hu⟩ : ∃ u, l[t]? = some u := ⟨_, List.getElem?_eq_getElem hlt⟩
        have c0 := mcell HM20.out (hr t u hu) (fun hs => by have := HDN.out b hs; omega)
        have hU := HU.out t u hu
        have HUU := Lib.hid hU
        have s1 : ((t : Int)).toNat = t := by omega
        have hw64 : IntKind.i64.wrap ((t : Int) + 1) = (t : Int) + 1 := IntWalk.i64_in _ (by omega)
        have e1 := HF.out.trn.op
        have e2 := HF.out.le
        have e3 := HF.out.nle.1
        have e4 := HF.out.nle.2
        have e5 := HF.out.len
        have hN := fun (W : World) (H : Wx W D p L13 Y13 x s13 2 P) => H.note1 y (by omega) e1
        rw [e2] at hN
        have hS := fun (W : World) (H : Wx W D p L13 Y13 (ntS x y) s13 2 P) => H.store y u hU
        rw [e3] at hS
        have hL := fun (W : World) (H : Wx W D p L13 Y13 (stS (ntS x y) y u) s13 2 P) => H.len
        rw [show ((stS (ntS x y) y u).nt.length : Int) = (t : Int) + 1 by show ((ntS x y).nt.length : Int) = _; rw [e4]; omega] at hL
        have HN := Lib.hid hN
        have HS := Lib.hid hS
        have HL := Lib.hid hL
        clear hN hS hL e1 e2 e3 e4 e5 hr hu hU
        have p0 := h20.out.c0
        have p1 := h20.out.c1
        have p2 := h20.out.c2
        have hpz := h20.out.plt
        go_wp2_with fail
        have hd : Below w20.heap.size w20 w20.drew := (Below.refl _ _).drew
        have HDr20 := Lib.hid hd
        clear hd
        go_wp2_with fail
        go_region_held3 (fun w' => w'.cell? ⟨p, 0, none⟩ = some (.pointer (some ⟨P.bO, 0, none⟩)) ∧ w'.cell? ⟨p, 1, none⟩ = some (.pointer (some ⟨P.bY, 0, none⟩)) ∧ w'.cell? ⟨p, 2, none⟩ = some (.pointer (some ⟨P.bL, 0, none⟩))) (first | (with_reducible exact ⟨p0, p1, p2⟩) | go_keep) (first | (go_at_call 15; (with_reducible refine (HN.out _ ((h20.out.below HDr20.out))).mono ?_); rintro e w21 ⟨rfl, r21⟩; have p0 := r21.wx.c0; have p1 := r21.wx.c1; have p2 := r21.wx.c2; have h21 := Lib.hid r21.wx; have M21 := Lib.hid r21.md; clear r21) | (go_at_call 16; (with_reducible refine (HS.out _ (h21.out)).mono ?_); rintro e w22 ⟨rfl, r22⟩; have p0 := r22.wx.c0; have p1 := r22.wx.c1; have p2 := r22.wx.c2; have h22 := Lib.hid r22.wx; have M22 := Lib.hid r22.md; clear r22) | (go_at_call 17; (with_reducible refine (HL.out _ (h22.out)).mono ?_); rintro e w23 ⟨rfl, hb23⟩; have p0 := bcellv hb23 p0; have p1 := bcellv hb23 p1; have p2 := bcellv hb23 p2; have h23 := Lib.hid (h22.out.below hb23); have M23 := Lib.hid (Mods.of_below (S := D) hb23); clear hb23))
        all_goals (try go_wp2_with fail)
        have HM23 := Lib.hid ((((HM20.out.trans (Mods.of_below (S := D) HDr20.out) (fun i hi => .inl hi)).trans M21.out (fun i hi => .inl hi)).trans M22.out (fun i hi => .inl hi)).trans M23.out (fun i hi => .inl hi))
        have hpz := h23.out.plt
        go_roundw
        case rel => exact ⟨t + 1, _, by omega, by go_num, h23.out, HM23.out, HF.out.step u⟩
        case measure => simp [intOf, hw64]; omega
      · have hln : x.nt.length ≤ 100000 := by have := HF.out.len; omega
        have HLN := Lib.hid hln
        clear hln
        have p0 := h20.out.c0
        have p1 := h20.out.c1
        have p2 := h20.out.c2
        have hpz := h20.out.plt
        go_wp2_with fail
        have hd : Below w20.heap.size w20 w20.drew := (Below.refl _ _).drew
        have HDr20 := Lib.hid hd
        clear hd
        go_wp2_with fail
        go_region_held3 (fun w' => w'.cell? ⟨p, 0, none⟩ = some (.pointer (some ⟨P.bO, 0, none⟩)) ∧ w'.cell? ⟨p, 1, none⟩ = some (.pointer (some ⟨P.bY, 0, none⟩)) ∧ w'.cell? ⟨p, 2, none⟩ = some (.pointer (some ⟨P.bL, 0, none⟩))) (first | (with_reducible exact ⟨p0, p1, p2⟩) | go_keep) (first | (go_at_call 18; (with_reducible refine (Wx.rollback0 (h20.out.below HDr20.out) HLN.out HF.out.trn).mono ?_); rintro e w21 ⟨rfl, r21⟩; have p0 := r21.wx.c0; have p1 := r21.wx.c1; have p2 := r21.wx.c2; have h21 := Lib.hid r21.wx; have M21 := Lib.hid r21.md; clear r21))
        all_goals (try go_wp2_with fail)
        have HM21 := Lib.hid ((HM20.out.trans (Mods.of_below (S := D) HDr20.out) (fun i hi => .inl hi)).trans M21.out (fun i hi => .inl hi))
        have hpz := h21.out.plt
        clear p0 p1 p2 hpz
        have p0 := h21.out.c0
        have p1 := h21.out.c1
        have p2 := h21.out.c2
        have hpz := h21.out.plt
        go_wp2_with fail
        have hLd := fun (W : World) (H : Wx W D p L13 Y13 (⟨O13, N13, false, 0, []⟩ : M13) s13 2 P) => H.load y
        rw [show LE (⟨O13, N13, false, 0, []⟩ : M13).wo (⟨O13, N13, false, 0, []⟩ : M13).wy y = 0 from HLE.out, show LD (⟨O13, N13, false, 0, []⟩ : M13).wo (⟨O13, N13, false, 0, []⟩ : M13).wy y = vo from HVO.out] at hLd
        have HLd := Lib.hid hLd
        clear hLd
        refine (HLd.out _ h21.out).mono ?_
        rintro e w22 ⟨rfl, hb22⟩
        have h22 := Lib.hid (h21.out.below hb22)
        have HB22 := Lib.hid hb22
        clear hb22
        have HM22 := Lib.hid (HM21.out.trans (Mods.of_below (S := D) HB22.out) (fun i hi => .inl hi))
        clear p0 p1 p2 hpz
        have p0 := h22.out.c0
        have p1 := h22.out.c1
        have p2 := h22.out.c2
        have hpz := h22.out.plt
        go_wp2
        go_ret
        exact ⟨by simp, HB1.out.trans (HM22.out.below HB1.out.size HDN.out)⟩
end Go.Proofs.Ytgipmcmmicppkaa
