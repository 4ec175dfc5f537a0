/-
  law 13: Commit on both sides.
-/
import Derived.Test.YtgipmcmmicppkaaUnY
namespace Go.Proofs.Ytgipmcmmicppkaa
open Go.RowKit
set_option linter.unusedSimpArgs false
set_option linter.unusedVariables false

set_option maxRecDepth 100000 in
set_option maxHeartbeats 8000000 in
theorem step_6 {w : World} {n0 : Dom} {p : Nat} {lo ly nn : Int} {s : M13} (nf a u : Int) (raw : Bool) (h : WW w n0 p lo ly s s nn) :
    Calls Try.prog 25 #[.pointer (some ⟨p, 0, none⟩), .agg #[.int .u8 6, .int .u8 nf, .int .i64 a, .int .u64 u, .bool raw]] w fun e w' => e = .returned (.bool true) ∧ WNx w n0 p lo ly (cmS s) (cmS s) nn w' := by
  have HAT := Lib.hid (fun W (H : Below w.heap.size w W) => at_ww (h.below H) 6 nf a u raw)
  have HWW := Lib.hid h
  have hn0 := h.n0
  generalize at13 raw s.wo.length s.wy.length a = y at *
  clear h
  go_enter Try.func25, Try.ntmps25
  go_wp2_with fail
  have hb1 : Below w.heap.size w (w.alloc (.cells #[.int .u8 6, .int .u8 nf, .int .i64 a, .int .u64 u, .bool raw] 45)) := by (repeat (first | exact Below.refl _ _ | assumption | refine Below.drew ?_ | refine below_drewN ?_ _ | refine balloc ?_ _ | refine Below.setCell ?_ (by first | (simp; done) | (simp; omega) | omega) _ | refine bchain (by assumption) ?_))
  refine (HAT.out _ hb1).mono ?_
  rintro e w2 ⟨rfl, hb2⟩
  have k0 := op_cell hb2
  have hb02 := bchain hb2 hb1
  have HW2 := Lib.hid (HWW.out.below hb02)
  have q0 : w2.cell? ⟨w.heap.size, 0, none⟩ = some (.int .u8 6) := by rw [cell_of_block k0]; rfl
  have q1 : w2.cell? ⟨w.heap.size, 1, none⟩ = some (.int .u8 nf) := by rw [cell_of_block k0]; rfl
  have q2 : w2.cell? ⟨w.heap.size, 2, none⟩ = some (.int .i64 a) := by rw [cell_of_block k0]; rfl
  have q3 : w2.cell? ⟨w.heap.size, 3, none⟩ = some (.int .u64 u) := by rw [cell_of_block k0]; rfl
  have q4 : w2.cell? ⟨w.heap.size, 4, none⟩ = some (.bool raw) := by rw [cell_of_block k0]; rfl
  clear hb2 hb1 HAT
  clear k0 q1 q2 q3 q4
  obtain ⟨bO, bY, bL, aO, nO, cO, aY, nY, cY, vA, vW, rO, rY, S, h⟩ := HW2.out
  obtain ⟨a1, c1, eA, _⟩ := row_form1 h.lg.at_
  obtain ⟨a2, c2, eW, _⟩ := row_form1 h.lg.wd
  subst eA eW
  obtain ⟨n1, hn1⟩ : ∃ n, s.nt.length = n := ⟨_, rfl⟩
  have H1N := Lib.hid hn1
  rw [hn1] at h
  clear hn1
  have hS := fun W (H : Below w2.heap.size w2 W) => commit_any (h.real.below H)
  have hR0 := fun W (H1 : LgAt W s.nt (.slice a1 n1 c1) (.slice a2 n1 c2)) => rcommit_next (s := s) H1 
  have hq : (⟨s.wo, s.wy, (cmS s).op, (cmS s).top, (cmS s).nt⟩ : M13) = cmS s := by
    obtain ⟨_, _, op, _, _⟩ := s
    cases op <;> rfl
  obtain ⟨er, her⟩ : ∃ x, cmE s = x := ⟨_, rfl⟩
  obtain ⟨nt', hnt⟩ : ∃ x, (cmS s).nt = x := ⟨_, rfl⟩
  obtain ⟨op', hop⟩ : ∃ x, (cmS s).op = x := ⟨_, rfl⟩
  obtain ⟨top', htop⟩ : ∃ x, (cmS s).top = x := ⟨_, rfl⟩
  rw [her] at hS
  simp only [hnt, hop, htop, her] at hR0 hq
  have HS := Lib.hid hS
  have HQ := Lib.hid hq
  have HR0 := Lib.hid hR0
  clear hS hq hR0 her hnt hop htop
  have HW := Lib.hid h
  have hsp := h.sp
  have kp := h.blk
  unfold wc13 at kp
  have p2 : w2.cell? ⟨p, 2, none⟩ = some (.pointer (some ⟨bL, 0, none⟩)) := by rw [cell_of_block kp]; rfl
  clear h kp
  go_wp2_with fail
  refine (HS.out _ (Below.refl _ _)).mono ?_
  rintro e w3 ⟨rfl, hN⟩
  obtain ⟨S3, h3, hM3, hMs⟩ := HW.out.step hN
  clear hMs hN
  have HR := Lib.hid (fun W (H : Below w3.heap.size w3 W) => HR0.out W (h3.lg.below H))
  unfold lgV at HR
  have HW3 := Lib.hid h3
  have HM3 := Lib.hid hM3
  have kp := h3.blk
  unfold wc13 at kp
  clear hM3
  have p9 : w3.cell? ⟨p, 9, none⟩ = some (.bool s.op) := by rw [cell_of_block kp]; rfl
  have p10 : w3.cell? ⟨p, 10, none⟩ = some (.int .i64 s.top) := by rw [cell_of_block kp]; rfl
  have p11 : w3.cell? ⟨p, 11, none⟩ = some (.slice a1 n1 c1) := by rw [cell_of_block kp]; rfl
  have p12 : w3.cell? ⟨p, 12, none⟩ = some (.slice a2 n1 c2) := by rw [cell_of_block kp]; rfl
  clear h3 kp
  go_wp2_with fail
  refine (HR.out _ (by (repeat (first | exact Below.refl _ _ | assumption | refine Below.drew ?_ | refine below_drewN ?_ _ | refine balloc ?_ _ | refine Below.setCell ?_ (by first | (simp; done) | (simp; omega) | omega) _ | refine bchain (by assumption) ?_)))).mono ?_
  rintro e w6 ⟨vA', vW', rfl, hl6, g1, g2, hb6⟩
  have HL6 := Lib.hid hl6
  have HG1 := Lib.hid g1
  have HG2 := Lib.hid g2
  obtain ⟨a3, c3, eA, _⟩ := row_form1 hl6.at_
  obtain ⟨a4, c4, eW, _⟩ := row_form1 hl6.wd
  obtain ⟨n3, hn3⟩ : ∃ n, nt'.length = n := ⟨_, rfl⟩
  rw [hn3] at eA eW
  clear hn3
  subst eA eW
  clear g1 g2 hl6
  unfold lgV
  go_upto_region 28 with fail
  have hbc : Below w3.heap.size w3 (w6.alloc (.cells #[.bool op', .int .i64 top', .slice a3 n3 c3, .slice a4 n3 c4] 38)) := balloc hb6 _
  have kV : (w6.alloc (.cells #[.bool op', .int .i64 top', .slice a3 n3 c3, .slice a4 n3 c4] 38)).heap[w6.heap.size]? = some (.cells #[.bool op', .int .i64 top', .slice a3 n3 c3, .slice a4 n3 c4] 38 (0, 0)) := alloc_get _ _
  have hl4 := HL6.out.below (balloc (Below.refl _ w6) (.cells #[.bool op', .int .i64 top', .slice a3 n3 c3, .slice a4 n3 c4] 38))
  have hVp : w6.heap.size ≠ p := by have := HW3.out.plt; have := hb6.size; omega
  obtain ⟨V, hV⟩ : ∃ V, w6.heap.size = V := ⟨_, rfl⟩
  obtain ⟨wc, hwc⟩ : ∃ W, (w6.alloc (.cells #[.bool op', .int .i64 top', .slice a3 n3 c3, .slice a4 n3 c4] 38)) = W := ⟨_, rfl⟩
  rw [hwc] at hbc kV hl4 ⊢
  rw [hV] at kV hVp ⊢
  have HL2 := Lib.hid hl4
  clear hwc hV hb6 hl4
  have kp := bblock hbc HW3.out.blk
  unfold wc13 at kp
  have hzV : V < wc.heap.size := (Array.getElem?_eq_some_iff.1 kV).1
  have hfin := HW3.out.ref (t' := ⟨s.wo, s.wy, op', top', nt'⟩) (nn' := nn) hbc HL2.out (HW3.out.rm.below hbc) (fun k hk => by
    rcases hk with e | e | e | e
    · exact .inl (.inl e)
    · exact .inl (.inr (.inl e))
    · exact (HG1.out k e).imp (fun h => .inr (.inr (.inl h))) id
    · exact (HG2.out k e).imp (fun h => .inr (.inr (.inr h))) id) four_offm (four_off kp)
  have HF := Lib.hid hfin
  have pf : ∀ i, wc.frozen? ⟨p, i, none⟩ = false := frozen_of_block kp
  have v0 : wc.cell? ⟨V, 0, none⟩ = some (.bool op') := by rw [cell_of_block kV]; rfl
  have v1 : wc.cell? ⟨V, 1, none⟩ = some (.int .i64 top') := by rw [cell_of_block kV]; rfl
  have v2 : wc.cell? ⟨V, 2, none⟩ = some (.slice a3 n3 c3) := by rw [cell_of_block kV]; rfl
  have v3 : wc.cell? ⟨V, 3, none⟩ = some (.slice a4 n3 c4) := by rw [cell_of_block kV]; rfl
  have d9 : wc.cell? ⟨p, 9, none⟩ = some (.bool s.op) := by rw [cell_of_block kp]; rfl
  have d10 : wc.cell? ⟨p, 10, none⟩ = some (.int .i64 s.top) := by rw [cell_of_block kp]; rfl
  have d11 : wc.cell? ⟨p, 11, none⟩ = some (.slice a1 n1 c1) := by rw [cell_of_block kp]; rfl
  have d12 : wc.cell? ⟨p, 12, none⟩ = some (.slice a2 n1 c2) := by rw [cell_of_block kp]; rfl
  clear hfin kp kV
  go_wp2
  go_ret
  have hww := HF.out.1.ww
  rw [HQ.out] at hww
  exact ⟨by simp, WNx.pre HWW.out hb02 ⟨hww, HM3.out.ge HF.out.2⟩⟩
end Go.Proofs.Ytgipmcmmicppkaa
