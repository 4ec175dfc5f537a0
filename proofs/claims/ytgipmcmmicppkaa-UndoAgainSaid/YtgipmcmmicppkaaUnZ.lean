/-
  law 13: Begin on both sides.
-/
import Derived.Test.YtgipmcmmicppkaaUnY
namespace Go.Proofs.Ytgipmcmmicppkaa
open Go.RowKit
set_option linter.unusedSimpArgs false
set_option linter.unusedVariables false

set_option maxRecDepth 100000 in
set_option maxHeartbeats 8000000 in
theorem step_5 {w : World} {n0 : Dom} {p : Nat} {lo ly nn : Int} {s : M13} (nf a u : Int) (raw : Bool) (h : WW w n0 p lo ly s s nn) :
    Calls Try.prog 25 #[.pointer (some ⟨p, 0, none⟩), .agg #[.int .u8 5, .int .u8 nf, .int .i64 a, .int .u64 u, .bool raw]] w fun e w' => e = .returned (.bool true) ∧ WNx w n0 p lo ly (bgS s) (bgS s) nn w' := by
  have HAT := Lib.hid (fun W (H : Below w.heap.size w W) => at_ww (h.below H) 5 nf a u raw)
  have HWW := Lib.hid h
  have hn0 := h.n0
  generalize at13 raw s.wo.length s.wy.length a = y at *
  clear h
  go_enter Try.func25, Try.ntmps25
  go_wp2_with fail
  have hb1 : Below w.heap.size w (w.alloc (.cells #[.int .u8 5, .int .u8 nf, .int .i64 a, .int .u64 u, .bool raw] 45)) := by (repeat (first | exact Below.refl _ _ | assumption | refine Below.drew ?_ | refine below_drewN ?_ _ | refine balloc ?_ _ | refine Below.setCell ?_ (by first | (simp; done) | (simp; omega) | omega) _ | refine bchain (by assumption) ?_))
  refine (HAT.out _ hb1).mono ?_
  rintro e w2 ⟨rfl, hb2⟩
  have k0 := op_cell hb2
  have hb02 := bchain hb2 hb1
  have HW2 := Lib.hid (HWW.out.below hb02)
  have q0 : w2.cell? ⟨w.heap.size, 0, none⟩ = some (.int .u8 5) := by rw [cell_of_block k0]; rfl
  have q1 : w2.cell? ⟨w.heap.size, 1, none⟩ = some (.int .u8 nf) := by rw [cell_of_block k0]; rfl
  have q2 : w2.cell? ⟨w.heap.size, 2, none⟩ = some (.int .i64 a) := by rw [cell_of_block k0]; rfl
  have q3 : w2.cell? ⟨w.heap.size, 3, none⟩ = some (.int .u64 u) := by rw [cell_of_block k0]; rfl
  have q4 : w2.cell? ⟨w.heap.size, 4, none⟩ = some (.bool raw) := by rw [cell_of_block k0]; rfl
  clear hb2 hb1 HAT
  clear k0 q1 q2 q3 q4
  obtain ⟨bO, bY, bL, aO, nO, cO, aY, nY, cY, vA, vW, rO, rY, S, h⟩ := HW2.out
  obtain ⟨a1, c1, eA, _⟩ := row_form1 h.lg.at_
  obtain ⟨a2, c2, eW, _⟩ := row_form1 h.lg.wd
  subst eA eW
  obtain ⟨n1, hn1⟩ : ∃ n, s.nt.length = n := ⟨_, rfl⟩
  have H1N := Lib.hid hn1
  rw [hn1] at h
  clear hn1
  have hS := fun W (H : Below w2.heap.size w2 W) => begin_any (h.real.below H)
  have hR0 := fun W (H1 : LgAt W s.nt (.slice a1 n1 c1) (.slice a2 n1 c2)) (H2 : RMem W aO nO cO aY nY cY lo ly s.wo s.wy rO rY) => rbegin_next (s := s) H1 H2
  have hq : (⟨s.wo, s.wy, (bgS s).op, (bgS s).top, (bgS s).nt⟩ : M13) = bgS s := by
    obtain ⟨_, _, op, _, _⟩ := s
    cases op <;> rfl
  obtain ⟨er, her⟩ : ∃ x, bgE s = x := ⟨_, rfl⟩
  obtain ⟨nt', hnt⟩ : ∃ x, (bgS s).nt = x := ⟨_, rfl⟩
  obtain ⟨op', hop⟩ : ∃ x, (bgS s).op = x := ⟨_, rfl⟩
  obtain ⟨top', htop⟩ : ∃ x, (bgS s).top = x := ⟨_, rfl⟩
  rw [her] at hS
  simp only [hnt, hop, htop, her] at hR0 hq
  have HS := Lib.hid hS
  have HQ := Lib.hid hq
  have HR0 := Lib.hid hR0
  clear hS hq hR0 her hnt hop htop
  have HW := Lib.hid h
  have hsp := h.sp
  have kp := h.blk
  unfold wc13 at kp
  have p0 : w2.cell? ⟨p, 0, none⟩ = some (.pointer (some ⟨bO, 0, none⟩)) := by rw [cell_of_block kp]; rfl
  have p1 : w2.cell? ⟨p, 1, none⟩ = some (.pointer (some ⟨bY, 0, none⟩)) := by rw [cell_of_block kp]; rfl
  have p2 : w2.cell? ⟨p, 2, none⟩ = some (.pointer (some ⟨bL, 0, none⟩)) := by rw [cell_of_block kp]; rfl
  clear h kp
  have hBd : Below w2.heap.size w2 w2.drew := (Below.refl _ _).drew
  go_wp2_with fail
  go_region_held3 (fun w' => w'.cell? ⟨p, 0, none⟩ = some (.pointer (some ⟨bO, 0, none⟩)) ∧ w'.cell? ⟨p, 1, none⟩ = some (.pointer (some ⟨bY, 0, none⟩)) ∧ w'.cell? ⟨p, 2, none⟩ = some (.pointer (some ⟨bL, 0, none⟩))) (first | (with_reducible exact ⟨p0, p1, p2⟩) | go_keep) (first | (go_at_call 12; (with_reducible refine (HS.out _ hBd).mono ?_); rintro e w3 ⟨rfl, S', r1, r2, r3⟩; have p0 := mcell r2 (show w2.drew.cell? _ = _ from p0) hsp; have p1 := mcell r2 (show w2.drew.cell? _ = _ from p1) hsp; have p2 := mcell r2 (show w2.drew.cell? _ = _ from p2) hsp; have HR1 := Lib.hid r1; have HR3 := Lib.hid r3; clear r1 r3))
  obtain ⟨S3, h3, hM3, hMs⟩ := (HW.out.below hBd).step ⟨S', HR1.out, r2, HR3.out⟩
  have hM3 : Mods n0.D w2 w3 := Mods.mk hM3.os hM3.tape hM3.output hM3.size hM3.block
  clear hMs r2 p0 p1 p2
  have HR := Lib.hid (fun W (H : Below w3.heap.size w3 W) => HR0.out W (h3.lg.below H) (h3.rm.below H))
  unfold lgV mmV at HR
  have HW3 := Lib.hid h3
  have HM3 := Lib.hid hM3
  have kp := h3.blk
  unfold wc13 at kp
  clear hM3
  have p3 : w3.cell? ⟨p, 3, none⟩ = some (.int .i64 0) := by rw [cell_of_block kp]; rfl
  have p4 : w3.cell? ⟨p, 4, none⟩ = some (.int .i64 lo) := by rw [cell_of_block kp]; rfl
  have p5 : w3.cell? ⟨p, 5, none⟩ = some (.slice aO nO cO) := by rw [cell_of_block kp]; rfl
  have p6 : w3.cell? ⟨p, 6, none⟩ = some (.int .i64 16777216) := by rw [cell_of_block kp]; rfl
  have p7 : w3.cell? ⟨p, 7, none⟩ = some (.int .i64 ly) := by rw [cell_of_block kp]; rfl
  have p8 : w3.cell? ⟨p, 8, none⟩ = some (.slice aY nY cY) := by rw [cell_of_block kp]; rfl
  have p9 : w3.cell? ⟨p, 9, none⟩ = some (.bool s.op) := by rw [cell_of_block kp]; rfl
  have p10 : w3.cell? ⟨p, 10, none⟩ = some (.int .i64 s.top) := by rw [cell_of_block kp]; rfl
  have p11 : w3.cell? ⟨p, 11, none⟩ = some (.slice a1 n1 c1) := by rw [cell_of_block kp]; rfl
  have p12 : w3.cell? ⟨p, 12, none⟩ = some (.slice a2 n1 c2) := by rw [cell_of_block kp]; rfl
  clear h3 kp
  go_wp2_with fail
  go_cut [15, 16] from 130 to 141 (fun s8 s9 wx => CutL w3 nt' op' top' er (.slice a1 n1 c1) (.slice a2 n1 c2) s8 s9 wx)
  case first =>
    have hBa : Below w3.heap.size w3 (w3.alloc (.cells #[.bool false, .int .i64 0, .slice none 0 0, .slice none 0 0] 38)).drew := by (repeat (first | exact Below.refl _ _ | assumption | refine Below.drew ?_ | refine below_drewN ?_ _ | refine balloc ?_ _ | refine Below.setCell ?_ (by first | (simp; done) | (simp; omega) | omega) _ | refine bchain (by assumption) ?_))
    have hBb : Below w3.heap.size w3 w3.drew := (Below.refl _ _).drew
    have hne_p3 : p ≠ w3.heap.size := Nat.ne_of_lt (World.block_lt_of_cell? _ _ p3)
    have hne_p4 : p ≠ w3.heap.size := Nat.ne_of_lt (World.block_lt_of_cell? _ _ p4)
    have hne_p5 : p ≠ w3.heap.size := Nat.ne_of_lt (World.block_lt_of_cell? _ _ p5)
    have hne_p6 : p ≠ w3.heap.size := Nat.ne_of_lt (World.block_lt_of_cell? _ _ p6)
    have hne_p7 : p ≠ w3.heap.size := Nat.ne_of_lt (World.block_lt_of_cell? _ _ p7)
    have hne_p8 : p ≠ w3.heap.size := Nat.ne_of_lt (World.block_lt_of_cell? _ _ p8)
    have hne_p9 : p ≠ w3.heap.size := Nat.ne_of_lt (World.block_lt_of_cell? _ _ p9)
    have hne_p10 : p ≠ w3.heap.size := Nat.ne_of_lt (World.block_lt_of_cell? _ _ p10)
    have hne_p11 : p ≠ w3.heap.size := Nat.ne_of_lt (World.block_lt_of_cell? _ _ p11)
    have hne_p12 : p ≠ w3.heap.size := Nat.ne_of_lt (World.block_lt_of_cell? _ _ p12)
    go_region_held3 (fun w' => w'.cell? ⟨p, 3, none⟩ = some (.int .i64 0) ∧ w'.cell? ⟨p, 4, none⟩ = some (.int .i64 lo) ∧ w'.cell? ⟨p, 5, none⟩ = some (.slice aO nO cO) ∧ w'.cell? ⟨p, 6, none⟩ = some (.int .i64 16777216) ∧ w'.cell? ⟨p, 7, none⟩ = some (.int .i64 ly) ∧ w'.cell? ⟨p, 8, none⟩ = some (.slice aY nY cY) ∧ w'.cell? ⟨p, 9, none⟩ = some (.bool s.op) ∧ w'.cell? ⟨p, 10, none⟩ = some (.int .i64 s.top) ∧ w'.cell? ⟨p, 11, none⟩ = some (.slice a1 n1 c1) ∧ w'.cell? ⟨p, 12, none⟩ = some (.slice a2 n1 c2)) (first | (with_reducible exact ⟨p3, p4, p5, p6, p7, p8, p9, p10, p11, p12⟩) | (with_reducible exact ⟨four_cell p3 hne_p3, four_cell p4 hne_p4, four_cell p5 hne_p5, four_cell p6 hne_p6, four_cell p7 hne_p7, four_cell p8 hne_p8, four_cell p9 hne_p9, four_cell p10 hne_p10, four_cell p11 hne_p11, four_cell p12 hne_p12⟩) | go_keep) (first | (go_at_call 23; (with_reducible refine (HR.out _ hBa).mono ?_); rintro e w6 ⟨vA', vW', rfl, hl6, g1, g2, hb6⟩; have HL6 := Lib.hid hl6; have Hg1 := Lib.hid g1; have Hg2 := Lib.hid g2; obtain ⟨a3, c3, eA, _⟩ := row_form1 hl6.at_; obtain ⟨a4, c4, eW, _⟩ := row_form1 hl6.wd; subst eA eW; clear g1 g2 hl6; unfold lgV; have p3 := bcellv hb6 (show (w3.alloc (.cells #[.bool false, .int .i64 0, .slice none 0 0, .slice none 0 0] 38)).drew.cell? _ = _ from bcellv (balloc (Below.refl _ w3) _) p3); have p4 := bcellv hb6 (show (w3.alloc (.cells #[.bool false, .int .i64 0, .slice none 0 0, .slice none 0 0] 38)).drew.cell? _ = _ from bcellv (balloc (Below.refl _ w3) _) p4); have p5 := bcellv hb6 (show (w3.alloc (.cells #[.bool false, .int .i64 0, .slice none 0 0, .slice none 0 0] 38)).drew.cell? _ = _ from bcellv (balloc (Below.refl _ w3) _) p5); have p6 := bcellv hb6 (show (w3.alloc (.cells #[.bool false, .int .i64 0, .slice none 0 0, .slice none 0 0] 38)).drew.cell? _ = _ from bcellv (balloc (Below.refl _ w3) _) p6); have p7 := bcellv hb6 (show (w3.alloc (.cells #[.bool false, .int .i64 0, .slice none 0 0, .slice none 0 0] 38)).drew.cell? _ = _ from bcellv (balloc (Below.refl _ w3) _) p7); have p8 := bcellv hb6 (show (w3.alloc (.cells #[.bool false, .int .i64 0, .slice none 0 0, .slice none 0 0] 38)).drew.cell? _ = _ from bcellv (balloc (Below.refl _ w3) _) p8); have p9 := bcellv hb6 (show (w3.alloc (.cells #[.bool false, .int .i64 0, .slice none 0 0, .slice none 0 0] 38)).drew.cell? _ = _ from bcellv (balloc (Below.refl _ w3) _) p9); have p10 := bcellv hb6 (show (w3.alloc (.cells #[.bool false, .int .i64 0, .slice none 0 0, .slice none 0 0] 38)).drew.cell? _ = _ from bcellv (balloc (Below.refl _ w3) _) p10); have p11 := bcellv hb6 (show (w3.alloc (.cells #[.bool false, .int .i64 0, .slice none 0 0, .slice none 0 0] 38)).drew.cell? _ = _ from bcellv (balloc (Below.refl _ w3) _) p11); have p12 := bcellv hb6 (show (w3.alloc (.cells #[.bool false, .int .i64 0, .slice none 0 0, .slice none 0 0] 38)).drew.cell? _ = _ from bcellv (balloc (Below.refl _ w3) _) p12); have kv := bblock hb6 (show (w3.alloc (.cells #[.bool false, .int .i64 0, .slice none 0 0, .slice none 0 0] 38)).drew.heap[_]? = _ from alloc_get w3 _); have kv_f : ∀ i, w6.frozen? ⟨w3.heap.size, i, none⟩ = false := frozen_of_block kv; have hzv : w3.heap.size < w6.heap.size := (Array.getElem?_eq_some_iff.1 kv).1; have kv_0 : w6.cell? ⟨w3.heap.size, 0, none⟩ = some (.bool false) := (by rw [cell_of_block kv]; rfl); have kv_1 : w6.cell? ⟨w3.heap.size, 1, none⟩ = some (.int .i64 0) := (by rw [cell_of_block kv]; rfl); have kv_2 : w6.cell? ⟨w3.heap.size, 2, none⟩ = some (.slice none 0 0) := (by rw [cell_of_block kv]; rfl); have kv_3 : w6.cell? ⟨w3.heap.size, 3, none⟩ = some (.slice none 0 0) := (by rw [cell_of_block kv]; rfl)) | (go_at_call 23; (with_reducible refine (HR.out _ hBb).mono ?_); rintro e w6 ⟨vA', vW', rfl, hl6, g1, g2, hb6⟩; have HL6 := Lib.hid hl6; have Hg1 := Lib.hid g1; have Hg2 := Lib.hid g2; obtain ⟨a3, c3, eA, _⟩ := row_form1 hl6.at_; obtain ⟨a4, c4, eW, _⟩ := row_form1 hl6.wd; subst eA eW; clear g1 g2 hl6; unfold lgV; have p3 := bcellv hb6 (show w3.drew.cell? _ = _ from p3); have p4 := bcellv hb6 (show w3.drew.cell? _ = _ from p4); have p5 := bcellv hb6 (show w3.drew.cell? _ = _ from p5); have p6 := bcellv hb6 (show w3.drew.cell? _ = _ from p6); have p7 := bcellv hb6 (show w3.drew.cell? _ = _ from p7); have p8 := bcellv hb6 (show w3.drew.cell? _ = _ from p8); have p9 := bcellv hb6 (show w3.drew.cell? _ = _ from p9); have p10 := bcellv hb6 (show w3.drew.cell? _ = _ from p10); have p11 := bcellv hb6 (show w3.drew.cell? _ = _ from p11); have p12 := bcellv hb6 (show w3.drew.cell? _ = _ from p12)))
    all_goals (try go_wp2_with fail)
    all_goals go_meet
    · exact ⟨w6.heap.size, _, _, _, _, _, _, rfl, rfl, alloc_get _ _, (bchain hb6 hBb).size, HL6.out.below (balloc (Below.refl _ _) _), Hg1.out, Hg2.out, balloc (bchain hb6 hBb) _⟩
    · exact ⟨w3.heap.size, _, _, _, _, _, _, rfl, rfl, four_set' kv, Nat.le_refl _, HL6.out.four kv, fun G e => (Hg1.out G e).imp id (fun h => Nat.le_trans hBa.size h), fun G e => (Hg2.out G e).imp id (fun h => Nat.le_trans hBa.size h), four_below (bchain hb6 hBa) (Nat.le_refl _)⟩
  case rest =>
    obtain ⟨V, a3, n3, c3, a4, n4, c4, rfl, rfl, kV, hV, hl2, g1, g2, hbc⟩ := hcut
    have HG1 := Lib.hid g1
    have HG2 := Lib.hid g2
    have HL2 := Lib.hid hl2
    clear g1 g2 hl2
    have kp := bblock hbc HW3.out.blk
    unfold wc13 at kp
    have hVp : V ≠ p := by have := HW3.out.plt; omega
    have hzV : V < wc.heap.size := (Array.getElem?_eq_some_iff.1 kV).1
    have hfin := HW3.out.ref (t' := ⟨s.wo, s.wy, op', top', nt'⟩) (nn' := nn) hbc HL2.out (HW3.out.rm.below hbc) (fun k hk => by
      rcases hk with e | e | e | e
      · exact .inl (.inl e)
      · exact .inl (.inr (.inl e))
      · exact (HG1.out k e).imp (fun h => .inr (.inr (.inl h))) id
      · exact (HG2.out k e).imp (fun h => .inr (.inr (.inr h))) id) four_offm (four_off kp)
    have HF := Lib.hid hfin
    have pf : ∀ i, wc.frozen? ⟨p, i, none⟩ = false := frozen_of_block kp
    have v0 : wc.cell? ⟨V, 0, none⟩ = some (.bool op') := by rw [cell_of_block kV]; rfl
    have v1 : wc.cell? ⟨V, 1, none⟩ = some (.int .i64 top') := by rw [cell_of_block kV]; rfl
    have v2 : wc.cell? ⟨V, 2, none⟩ = some (.slice a3 n3 c3) := by rw [cell_of_block kV]; rfl
    have v3 : wc.cell? ⟨V, 3, none⟩ = some (.slice a4 n4 c4) := by rw [cell_of_block kV]; rfl
    have d9 : wc.cell? ⟨p, 9, none⟩ = some (.bool s.op) := by rw [cell_of_block kp]; rfl
    have d10 : wc.cell? ⟨p, 10, none⟩ = some (.int .i64 s.top) := by rw [cell_of_block kp]; rfl
    have d11 : wc.cell? ⟨p, 11, none⟩ = some (.slice a1 n1 c1) := by rw [cell_of_block kp]; rfl
    have d12 : wc.cell? ⟨p, 12, none⟩ = some (.slice a2 n1 c2) := by rw [cell_of_block kp]; rfl
    clear hfin kp kV
    go_wp2
    go_ret
    have hww := HF.out.1.ww
    rw [HQ.out] at hww
    exact ⟨by simp, WNx.pre HWW.out hb02 ⟨hww, HM3.out.ge HF.out.2⟩⟩
end Go.Proofs.Ytgipmcmmicppkaa
