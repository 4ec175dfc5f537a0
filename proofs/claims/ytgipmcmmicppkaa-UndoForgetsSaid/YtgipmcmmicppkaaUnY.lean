/-
  law 13: one operation on both sides.
-/
import Derived.Test.YtgipmcmmicppkaaUnX
namespace Go.Proofs.Ytgipmcmmicppkaa
open Go.RowKit
set_option linter.unusedSimpArgs false
set_option linter.unusedVariables false

theorem WW.below {w w' : World} {n0 : Dom} {p : Nat} {lo ly nn : Int} {s t : M13} (h : WW w n0 p lo ly s t nn) (hb : Below w.heap.size w w') : WW w' n0 p lo ly s t nn := by
  obtain ⟨bO, bY, bL, aO, nO, cO, aY, nY, cY, vA, vW, rO, rY, S, h⟩ := h
  exact (h.below hb).ww
theorem WW.n0 {w : World} {n0 : Dom} {p : Nat} {lo ly nn : Int} {s t : M13} (h : WW w n0 p lo ly s t nn) : ∀ k, w.heap.size ≤ k → n0.D k := by
  obtain ⟨bO, bY, bL, aO, nO, cO, aY, nY, cY, vA, vW, rO, rY, S, h⟩ := h
  exact h.n0
theorem WNx.pre {w w1 w2 : World} {n0 : Dom} {p : Nat} {lo ly nn nn0 : Int} {s t s0 t0 : M13} (h0 : WW w n0 p lo ly s0 t0 nn0) (hb : Below w.heap.size w w1) (h : WNx w1 n0 p lo ly s t nn w2) : WNx w n0 p lo ly s t nn w2 :=
  ⟨h.1, (Mods.of_below (S := n0.D) hb).trans h.2 (fun i hi => .inl hi)⟩
theorem WNx.post {w w1 w2 : World} {n0 : Dom} {p : Nat} {lo ly nn : Int} {s t : M13} (h : WNx w n0 p lo ly s t nn w1) (hb : Below w1.heap.size w1 w2) : WNx w n0 p lo ly s t nn w2 :=
  ⟨h.1.below hb, h.2.trans (Mods.of_below (S := fun _ => False) hb) (fun i hi => hi.elim)⟩
theorem WNx.trans {w w1 w2 : World} {n0 : Dom} {p : Nat} {lo ly nn nn' : Int} {s t s' t' : M13} (h : WNx w n0 p lo ly s t nn w1) (k : WNx w1 n0 p lo ly s' t' nn' w2) : WNx w n0 p lo ly s' t' nn' w2 := ⟨k.1, h.2.ge k.2⟩
theorem at_ww {w : World} {n0 : Dom} {p : Nat} {lo ly nn : Int} {s t : M13} (h : WW w n0 p lo ly s t nn) (kd nf a u : Int) (raw : Bool) :
    Calls Try.prog 13 #[.pointer (some ⟨p, 0, none⟩), .agg #[.int .u8 kd, .int .u8 nf, .int .i64 a, .int .u64 u, .bool raw]] w fun e w' => e = .returned (.int .i64 (at13 raw t.wo.length t.wy.length a)) ∧ Below w.heap.size w w' := by
  obtain ⟨bO, bY, bL, aO, nO, cO, aY, nY, cY, vA, vW, rO, rY, S, h⟩ := h
  have h1 := h.rm.lO
  have h2 := h.rm.lY
  have h3 := h.rm.okO.top
  have h4 := h.rm.okY.top
  have h5 := h.rm.okY.lm1
  have h6 := h.rm.lim
  rw [h1, h2]
  exact at_any h.blk (by omega) (by omega) kd nf a u raw
theorem op_cell {w : World} {cs : Array Value} {T : TypeId} {w2 : World} (hb : Below (w.alloc (.cells cs T)).heap.size (w.alloc (.cells cs T)) w2) : w2.heap[w.heap.size]? = some (.cells cs T (0, 0)) := bblock hb (alloc_get _ _)
set_option maxRecDepth 100000 in
set_option maxHeartbeats 8000000 in
theorem step_2 {w : World} {n0 : Dom} {p : Nat} {lo ly nn : Int} {s : M13} (nf a u : Int) (raw : Bool) (h : WW w n0 p lo ly s s nn) (hn : s.nt.length ≤ 100000) :
    Calls Try.prog 25 #[.pointer (some ⟨p, 0, none⟩), .agg #[.int .u8 2, .int .u8 nf, .int .i64 a, .int .u64 u, .bool raw]] w fun e w' => e = .returned (.bool true) ∧ WNx w n0 p lo ly (ntS s (at13 raw s.wo.length s.wy.length a)) (ntS s (at13 raw s.wo.length s.wy.length a)) nn w' := by
  have HAT := Lib.hid (fun W (H : Below w.heap.size w W) => at_ww (h.below H) 2 nf a u raw)
  have HWW := Lib.hid h
  have hn0 := h.n0
  generalize at13 raw s.wo.length s.wy.length a = y at *
  clear h
  go_enter Try.func25, Try.ntmps25
  go_wp2_with fail
  have hb1 : Below w.heap.size w (w.alloc (.cells #[.int .u8 2, .int .u8 nf, .int .i64 a, .int .u64 u, .bool raw] 45)) := by (repeat (first | exact Below.refl _ _ | assumption | refine Below.drew ?_ | refine below_drewN ?_ _ | refine balloc ?_ _ | refine Below.setCell ?_ (by first | (simp; done) | (simp; omega) | omega) _ | refine bchain (by assumption) ?_))
  refine (HAT.out _ hb1).mono ?_
  rintro e w2 ⟨rfl, hb2⟩
  have k0 := op_cell hb2
  have hb02 := bchain hb2 hb1
  have HW2 := Lib.hid (HWW.out.below hb02)
  have q0 : w2.cell? ⟨w.heap.size, 0, none⟩ = some (.int .u8 2) := by rw [cell_of_block k0]; rfl
  have q1 : w2.cell? ⟨w.heap.size, 1, none⟩ = some (.int .u8 nf) := by rw [cell_of_block k0]; rfl
  have q2 : w2.cell? ⟨w.heap.size, 2, none⟩ = some (.int .i64 a) := by rw [cell_of_block k0]; rfl
  have q3 : w2.cell? ⟨w.heap.size, 3, none⟩ = some (.int .u64 u) := by rw [cell_of_block k0]; rfl
  have q4 : w2.cell? ⟨w.heap.size, 4, none⟩ = some (.bool raw) := by rw [cell_of_block k0]; rfl
  clear hb2 hb1 HAT
  have HN := Lib.hid (note_w y HW2.out hn)
  clear k0
  go_wp2_with fail
  refine HN.out.mono ?_
  rintro e w3 ⟨rfl, h3⟩
  have HF := Lib.hid (WNx.pre HWW.out hb02 h3)
  clear h3
  go_wp2
  go_ret
  exact ⟨rfl, HF.out⟩
set_option maxRecDepth 100000 in
set_option maxHeartbeats 8000000 in
theorem step_3 {w : World} {n0 : Dom} {p : Nat} {lo ly nn : Int} {s : M13} (nf a u : Int) (raw : Bool) (h : WW w n0 p lo ly s s nn) (hu : U64 u) :
    Calls Try.prog 25 #[.pointer (some ⟨p, 0, none⟩), .agg #[.int .u8 3, .int .u8 nf, .int .i64 a, .int .u64 u, .bool raw]] w fun e w' => e = .returned (.bool true) ∧ WNx w n0 p lo ly (stS s (at13 raw s.wo.length s.wy.length a) u) (stS s (at13 raw s.wo.length s.wy.length a) u) nn w' := by
  have HAT := Lib.hid (fun W (H : Below w.heap.size w W) => at_ww (h.below H) 3 nf a u raw)
  have HWW := Lib.hid h
  have hn0 := h.n0
  generalize at13 raw s.wo.length s.wy.length a = y at *
  clear h
  go_enter Try.func25, Try.ntmps25
  go_wp2_with fail
  have hb1 : Below w.heap.size w (w.alloc (.cells #[.int .u8 3, .int .u8 nf, .int .i64 a, .int .u64 u, .bool raw] 45)) := by (repeat (first | exact Below.refl _ _ | assumption | refine Below.drew ?_ | refine below_drewN ?_ _ | refine balloc ?_ _ | refine Below.setCell ?_ (by first | (simp; done) | (simp; omega) | omega) _ | refine bchain (by assumption) ?_))
  refine (HAT.out _ hb1).mono ?_
  rintro e w2 ⟨rfl, hb2⟩
  have k0 := op_cell hb2
  have hb02 := bchain hb2 hb1
  have HW2 := Lib.hid (HWW.out.below hb02)
  have q0 : w2.cell? ⟨w.heap.size, 0, none⟩ = some (.int .u8 3) := by rw [cell_of_block k0]; rfl
  have q1 : w2.cell? ⟨w.heap.size, 1, none⟩ = some (.int .u8 nf) := by rw [cell_of_block k0]; rfl
  have q2 : w2.cell? ⟨w.heap.size, 2, none⟩ = some (.int .i64 a) := by rw [cell_of_block k0]; rfl
  have q3 : w2.cell? ⟨w.heap.size, 3, none⟩ = some (.int .u64 u) := by rw [cell_of_block k0]; rfl
  have q4 : w2.cell? ⟨w.heap.size, 4, none⟩ = some (.bool raw) := by rw [cell_of_block k0]; rfl
  clear hb2 hb1 HAT
  have HN := Lib.hid (store_w y u hu HW2.out)
  clear k0
  go_wp2_with fail
  refine HN.out.mono ?_
  rintro e w3 ⟨rfl, h3⟩
  have HF := Lib.hid (WNx.pre HWW.out hb02 h3)
  clear h3
  go_wp2
  go_ret
  exact ⟨rfl, HF.out⟩
set_option maxRecDepth 100000 in
set_option maxHeartbeats 8000000 in
theorem step_4 {w : World} {n0 : Dom} {p : Nat} {lo ly nn : Int} {s : M13} (nf a u : Int) (raw : Bool) (h : WW w n0 p lo ly s s nn) (hu : U64 u) (hn : s.nt.length ≤ 100000) :
    Calls Try.prog 25 #[.pointer (some ⟨p, 0, none⟩), .agg #[.int .u8 4, .int .u8 nf, .int .i64 a, .int .u64 u, .bool raw]] w fun e w' => e = .returned (.bool true) ∧ WNx w n0 p lo ly (stS (ntS s (at13 raw s.wo.length s.wy.length a)) (at13 raw s.wo.length s.wy.length a) u) (stS (ntS s (at13 raw s.wo.length s.wy.length a)) (at13 raw s.wo.length s.wy.length a) u) nn w' := by
  have HAT := Lib.hid (fun W (H : Below w.heap.size w W) => at_ww (h.below H) 4 nf a u raw)
  have HWW := Lib.hid h
  have hn0 := h.n0
  generalize at13 raw s.wo.length s.wy.length a = y at *
  clear h
  go_enter Try.func25, Try.ntmps25
  go_wp2_with fail
  have hb1 : Below w.heap.size w (w.alloc (.cells #[.int .u8 4, .int .u8 nf, .int .i64 a, .int .u64 u, .bool raw] 45)) := by (repeat (first | exact Below.refl _ _ | assumption | refine Below.drew ?_ | refine below_drewN ?_ _ | refine balloc ?_ _ | refine Below.setCell ?_ (by first | (simp; done) | (simp; omega) | omega) _ | refine bchain (by assumption) ?_))
  refine (HAT.out _ hb1).mono ?_
  rintro e w2 ⟨rfl, hb2⟩
  have k0 := op_cell hb2
  have hb02 := bchain hb2 hb1
  have HW2 := Lib.hid (HWW.out.below hb02)
  have q0 : w2.cell? ⟨w.heap.size, 0, none⟩ = some (.int .u8 4) := by rw [cell_of_block k0]; rfl
  have q1 : w2.cell? ⟨w.heap.size, 1, none⟩ = some (.int .u8 nf) := by rw [cell_of_block k0]; rfl
  have q2 : w2.cell? ⟨w.heap.size, 2, none⟩ = some (.int .i64 a) := by rw [cell_of_block k0]; rfl
  have q3 : w2.cell? ⟨w.heap.size, 3, none⟩ = some (.int .u64 u) := by rw [cell_of_block k0]; rfl
  have q4 : w2.cell? ⟨w.heap.size, 4, none⟩ = some (.bool raw) := by rw [cell_of_block k0]; rfl
  clear hb2 hb1 HAT
  obtain ⟨bO, bY, bL, aO, nO, cO, aY, nY, cY, vA, vW, rO, rY, S, hW⟩ := HWW.out
  have HN := Lib.hid (note_x y (hW.below hb02) hn)
  have hsq : ¬ S w.heap.size := fun e => by have := hW.real.lt _ e; omega
  have hpq : w.heap.size ≠ p := by have := hW.plt; omega
  have HK := Lib.hid k0
  have HS := Lib.hid (fun W N T H => store_w (w := W) (n0 := n0) (p := p) (lo := lo) (ly := ly) (nn := N) (s := T) y u hu H)
  clear k0 hW q1 q2
  go_wp2_with fail
  refine HN.out.mono ?_
  rintro e w3 ⟨rfl, h3, hk⟩
  have k1 := hk _ _ HK.out hsq hpq
  have HF := Lib.hid (WNx.pre HWW.out hb02 h3)
  clear h3 hk hsq hpq
  have q3 : w3.cell? ⟨w.heap.size, 3, none⟩ = some (.int .u64 u) := by rw [cell_of_block k1]; rfl
  clear k1
  go_wp2_with fail
  refine (HS.out _ _ _ HF.out.1).mono ?_
  rintro e w4 ⟨rfl, h4⟩
  have HG := Lib.hid (HF.out.trans h4)
  clear h4
  go_wp2
  go_ret
  exact ⟨rfl, HG.out⟩
set_option maxRecDepth 100000 in
set_option maxHeartbeats 8000000 in
theorem step_8 {w : World} {n0 : Dom} {p : Nat} {lo ly nn : Int} {s : M13} (kd nf a u : Int) (raw : Bool) (h : WW w n0 p lo ly s s nn) (hk : 8 ≤ kd) :
    Calls Try.prog 25 #[.pointer (some ⟨p, 0, none⟩), .agg #[.int .u8 kd, .int .u8 nf, .int .i64 a, .int .u64 u, .bool raw]] w fun e w' => e = .returned (.bool true) ∧ WNx w n0 p lo ly s s nn w' := by
  have HAT := Lib.hid (fun W (H : Below w.heap.size w W) => at_ww (h.below H) kd nf a u raw)
  have HWW := Lib.hid h
  have hn0 := h.n0
  generalize at13 raw s.wo.length s.wy.length a = y at *
  clear h
  go_enter Try.func25, Try.ntmps25
  go_wp2_with fail
  have hb1 : Below w.heap.size w (w.alloc (.cells #[.int .u8 kd, .int .u8 nf, .int .i64 a, .int .u64 u, .bool raw] 45)) := by (repeat (first | exact Below.refl _ _ | assumption | refine Below.drew ?_ | refine below_drewN ?_ _ | refine balloc ?_ _ | refine Below.setCell ?_ (by first | (simp; done) | (simp; omega) | omega) _ | refine bchain (by assumption) ?_))
  refine (HAT.out _ hb1).mono ?_
  rintro e w2 ⟨rfl, hb2⟩
  have k0 := op_cell hb2
  have hb02 := bchain hb2 hb1
  have HW2 := Lib.hid (HWW.out.below hb02)
  have q0 : w2.cell? ⟨w.heap.size, 0, none⟩ = some (.int .u8 kd) := by rw [cell_of_block k0]; rfl
  have q1 : w2.cell? ⟨w.heap.size, 1, none⟩ = some (.int .u8 nf) := by rw [cell_of_block k0]; rfl
  have q2 : w2.cell? ⟨w.heap.size, 2, none⟩ = some (.int .i64 a) := by rw [cell_of_block k0]; rfl
  have q3 : w2.cell? ⟨w.heap.size, 3, none⟩ = some (.int .u64 u) := by rw [cell_of_block k0]; rfl
  have q4 : w2.cell? ⟨w.heap.size, 4, none⟩ = some (.bool raw) := by rw [cell_of_block k0]; rfl
  clear hb2 hb1 HAT
  have e0 : (kd == 0) = false := by simp; omega
  have e1 : (kd == 1) = false := by simp; omega
  have e2 : (kd == 2) = false := by simp; omega
  have e3 : (kd == 3) = false := by simp; omega
  have e4 : (kd == 4) = false := by simp; omega
  have e5 : (kd == 5) = false := by simp; omega
  have e6 : (kd == 6) = false := by simp; omega
  have e7 : (kd == 7) = false := by simp; omega
  have HF := Lib.hid (WNx.pre HWW.out hb02 ⟨HW2.out, Mods.refl _ _⟩)
  clear k0
  go_wp2
  go_ret
  exact ⟨rfl, HF.out⟩
end Go.Proofs.Ytgipmcmmicppkaa
