/-
  law 13: an object is allocated on both sides.
-/
import Derived.Test.YtgipmcmmicppkaaUnM
namespace Go.Proofs.Ytgipmcmmicppkaa
open Go.RowKit
set_option linter.unusedSimpArgs false
set_option linter.unusedVariables false

def alS (lo ly : Int) (y : Bool) (s : M13) (f i : Int) : M13 := ⟨amO lo s.wo y 0 1 f 1 i, amY ly s.wy y 0 1 f 1 i, s.op, s.top, s.nt⟩
theorem RealAt.setNew {w w' : World} {bO bY bL : Nat} {lo ly : Int} {s : M13} {lv : Value} {gO gY : Option Nat} (h : RealAt w bO bY bL lo ly s lv gO gY) {wo' wy' : List Int} {gO' gY' : Option Nat} (hm : MemAt w' bO bY lo ly wo' wy' gO' gY') (hM : Mods (MS bO bY gO gY) w w') (hg : ∀ k, MS bO bY gO' gY' k → MS bO bY gO gY k ∨ w.heap.size ≤ k) : RNx w bO bY bL lo ly ⟨wo', wy', s.op, s.top, s.nt⟩ (RS bO bY bL lv gO gY) w' := by
  have hlt := h.lt
  refine ⟨RS bO bY bL lv gO' gY', RealW.toS ⟨hm, mblock hM h.log h.lm, nrow_keep h.nts (fun G o e ho => mblock hM ho (h.ln G e).1), h.wf, fun hk => ?_, fun G e => ⟨fun hk => ?_, (h.ln G e).2⟩⟩, hM.mono (fun k hk => .inl hk), fun k hk => ?_⟩
  · rcases hg _ hk with hk | hk
    · exact h.lm hk
    · have := hlt bL (.inr (.inl rfl)); omega
  · rcases hg _ hk with hk | hk
    · exact (h.ln G e).1 hk
    · have := hlt G (.inr (.inr e)); omega
  · rcases hk with hk | hk | hk
    · exact (hg k hk).imp .inl id
    · exact .inl (.inr (.inl hk))
    · exact .inl (.inr (.inr hk))
theorem al_real0 {w : World} {bO bY bL : Nat} {lo ly : Int} {s : M13} {S : Nat → Prop} (h : RealW w bO bY bL lo ly s S) (f i : Int) :
    Calls Try.prog 30 #[.pointer (some ⟨bO, 0, none⟩), .agg #[.int .i64 0, .int .i64 1, .int .i64 f], .agg #[.int .i64 1, .int .i64 i]] w fun e w' => e = .returned (.tuple #[.int .i64 (amA lo ly s.wo s.wy false 0 1 f 1 i), .int .i64 (amE lo ly s.wo s.wy false 0 1 f 1 i)]) ∧ RNx w bO bY bL lo ly (alS lo ly false s f i) S w' := by
  obtain ⟨lv, gO, gY, h1, h2⟩ := h
  refine (alloc_any h1.mem.old h1.mem.okO 0 1 f 1 i).mono ?_
  rintro e w' ⟨rfl, hn⟩
  obtain ⟨gO', hm, hM, hg⟩ := mem_old' h1.mem hn (alOk h1.mem.okO 0 1 f 1 i)
  refine ⟨rfl, RNx.ofS h2 (h1.setNew hm hM (fun k hk => ?_))⟩
  rcases hk with (hk | hk) | hk
  · exact .inl (.inl (.inl hk))
  · exact (hg k hk).imp (fun h => .inl (.inr h)) id
  · exact .inl (.inr hk)
theorem al_real1 {w : World} {bO bY bL : Nat} {lo ly : Int} {s : M13} {S : Nat → Prop} (h : RealW w bO bY bL lo ly s S) (f i : Int) :
    Calls Try.prog 30 #[.pointer (some ⟨bY, 0, none⟩), .agg #[.int .i64 0, .int .i64 1, .int .i64 f], .agg #[.int .i64 1, .int .i64 i]] w fun e w' => e = .returned (.tuple #[.int .i64 (amA lo ly s.wo s.wy true 0 1 f 1 i), .int .i64 (amE lo ly s.wo s.wy true 0 1 f 1 i)]) ∧ RNx w bO bY bL lo ly (alS lo ly true s f i) S w' := by
  obtain ⟨lv, gO, gY, h1, h2⟩ := h
  refine (alloc_any h1.mem.yng h1.mem.okY 0 1 f 1 i).mono ?_
  rintro e w' ⟨rfl, hn⟩
  obtain ⟨gY', hm, hM, hg⟩ := mem_yng' h1.mem hn (alOk h1.mem.okY 0 1 f 1 i)
  refine ⟨rfl, RNx.ofS h2 (h1.setNew hm hM (fun k hk => ?_))⟩
  rcases hk with hk | (hk | hk)
  · exact .inl (.inl hk)
  · exact .inl (.inr (.inl hk))
  · exact (hg k hk).imp (fun h => .inr (.inr h)) id
theorem one_off {w : World} {k : Nat} {T : TypeId} {x0 x1 x2 x3 x4 x5 x6 x7 x8 x9 x10 x11 x12 x13 b : Value} (h : w.heap[k]? = some (.cells #[x0, x1, x2, x3, x4, x5, x6, x7, x8, x9, x10, x11, x12, x13] T (0, 0))) :
    (w.setCell ⟨k, 13, none⟩ b).heap[k]? = some (.cells #[x0, x1, x2, x3, x4, x5, x6, x7, x8, x9, x10, x11, x12, b] T (0, 0)) := block_set h
theorem one_offm {w : World} {k i : Nat} {b : Value} : Mods (fun j => j = k) w (w.setCell ⟨k, i, none⟩ b) := (Mods.refl (fun j => j = k) w : Mods (fun j => j = k) w w).setCell (p := ⟨k, i, none⟩) (.inl (by rfl)) _
def CutHI (wq : World) (f i : Int) (sH sI : Value) (wx : World) : Prop :=
  ∃ A B, sH = .pointer (some ⟨A, 0, none⟩) ∧ sI = .pointer (some ⟨B, 0, none⟩) ∧ wx.heap[A]? = some (.cells #[.int .i64 0, .int .i64 1, .int .i64 f] 69 (0, 0)) ∧ wx.heap[B]? = some (.cells #[.int .i64 1, .int .i64 i] 71 (0, 0)) ∧ wq.heap.size ≤ A ∧ wq.heap.size ≤ B ∧ Below wq.heap.size wq wx
def CutMm (wq : World) (lo ly : Int) (a er : Int) (mo my : List Int) (rO rY : Option Nat) (sU sA sE : Value) (wx : World) : Prop :=
  ∃ U aO' nO' cO' aY' nY' cY' rO' rY', sU = .pointer (some ⟨U, 0, none⟩) ∧ sA = .int .i64 a ∧ sE = .int .i64 er ∧ wx.heap[U]? = some (.cells #[.int .i64 0, .int .i64 lo, .slice aO' nO' cO', .int .i64 16777216, .int .i64 ly, .slice aY' nY' cY'] 35 (0, 0)) ∧ wq.heap.size ≤ U ∧ RMem wx aO' nO' cO' aY' nY' cY' lo ly mo my rO' rY' ∧ (∀ k, rO' = some k ∨ rY' = some k → rO = some k ∨ rY = some k ∨ wq.heap.size ≤ k) ∧ Below wq.heap.size wq wx
def RmNx (w : World) (a er lo ly : Int) (mo my : List Int) (rO rY : Option Nat) (e : Ending) (w' : World) : Prop :=
  ∃ aO' nO' cO' aY' nY' cY' rO' rY', e = .returned (.tuple #[.agg #[.int .i64 0, .int .i64 lo, .slice aO' nO' cO', .int .i64 16777216, .int .i64 ly, .slice aY' nY' cY'], .int .i64 a, .int .i64 er]) ∧ RMem w' aO' nO' cO' aY' nY' cY' lo ly mo my rO' rY' ∧ (∀ k, rO' = some k ∨ rY' = some k → rO = some k ∨ rY = some k ∨ w.heap.size ≤ k) ∧ Below w.heap.size w w'
theorem RNext.rm {q w : World} {a er lo ly : Int} {mo my : List Int} {rO rY : Option Nat} {e : Ending} {w' : World} (hb : Below q.heap.size q w) (h : RNext w (fun v => .tuple #[v, .int .i64 a, .int .i64 er]) lo ly mo my rO rY e w') : RmNx q a er lo ly mo my rO rY e w' ∧ Below w.heap.size w w' := by
  obtain ⟨aO, nO, cO, aY, nY, cY, gO', gY', h1, h2, h3, h4, h5⟩ := h
  refine ⟨⟨aO, nO, cO, aY, nY, cY, gO', gY', h1, h2, fun k hk => ?_, bchain h5 hb⟩, h5⟩
  rcases hk with e | e
  · exact (h3 k e).imp id (fun h => .inr (Nat.le_trans hb.size h))
  · exact .inr ((h4 k e).imp id (fun h => Nat.le_trans hb.size h))
theorem CutMm.of {w3 w6 wx : World} {a er lo ly : Int} {mo my : List Int} {rO rY : Option Nat} {aO' : Option Addr} {nO' cO' : Nat} {aY' : Option Addr} {nY' cY' : Nat} {rO' rY' : Option Nat}
    (hr : RMem w6 aO' nO' cO' aY' nY' cY' lo ly mo my rO' rY') (hg : ∀ k, rO' = some k ∨ rY' = some k → rO = some k ∨ rY = some k ∨ w3.heap.size ≤ k) (hb : Below w3.heap.size w3 w6) {U : Nat}
    (hM : Mods (fun k => k = U) w6 wx) (hU : w3.heap.size ≤ U) (fU : Fr w6 U) (kU : wx.heap[U]? = some (.cells #[.int .i64 0, .int .i64 lo, .slice aO' nO' cO', .int .i64 16777216, .int .i64 ly, .slice aY' nY' cY'] 35 (0, 0))) :
    CutMm w3 lo ly a er mo my rO rY (.pointer (some ⟨U, 0, none⟩)) (.int .i64 a) (.int .i64 er) wx := by
  have q : ∀ k, rO' = some k ∨ rY' = some k → k ≠ U := fun k hk => by
    rcases fU with ⟨cs, T, h1, h2, h3⟩ | h1
    · rcases hk with e | e
      · exact row_ne hr.old h1 h3 k e
      · exact row_ne hr.yng h1 h3 k e
    · have : k < w6.heap.size := by
        rcases hk with e | e
        · exact hr.old.lt' k e
        · exact hr.yng.lt' k e
      omega
  have hB : Below w3.heap.size w6 wx := hM.below hb.size (fun k hk => by rw [hk]; exact hU)
  exact ⟨U, aO', nO', cO', aY', nY', cY', rO', rY', rfl, rfl, rfl, kU, hU, hr.mods' hM (fun G e => q G (.inl e)) (fun G e => q G (.inr e)), hg, hb.trans hB⟩
set_option maxRecDepth 100000 in
set_option maxHeartbeats 8000000 in
theorem step_0 {w : World} {n0 : Dom} {p : Nat} {lo ly nn : Int} {s : M13} (nf a u : Int) (raw : Bool) (h : WW w n0 p lo ly s s nn) (hnn : 0 ≤ nn) (hnn1 : nn < 4611686018427387904) (hnf : 0 ≤ nf) (hnf1 : nf < 256) :
    Calls Try.prog 25 #[.pointer (some ⟨p, 0, none⟩), .agg #[.int .u8 0, .int .u8 nf, .int .i64 a, .int .u64 u, .bool raw]] w fun e w' => e = .returned (.bool true) ∧ WNx w n0 p lo ly (alS lo ly false s (nf.tmod 6) (nn + 1)) (alS lo ly false s (nf.tmod 6) (nn + 1)) (nn + 1) w' := by
  have HAT := Lib.hid (fun W (H : Below w.heap.size w W) => at_ww (h.below H) 0 nf a u raw)
  have HWW := Lib.hid h
  have hq0 : 0 ≤ nf.tmod 6 ∧ nf.tmod 6 < 6 := by rw [Int.tmod_eq_emod_of_nonneg hnf]; omega
  generalize hqq : nf.tmod 6 = q at *
  have hn0 := h.n0
  generalize at13 raw s.wo.length s.wy.length a = y at *
  clear h
  go_enter Try.func25, Try.ntmps25
  go_wp2_with fail
  have hb1 : Below w.heap.size w (w.alloc (.cells #[.int .u8 0, .int .u8 nf, .int .i64 a, .int .u64 u, .bool raw] 45)) := by (repeat (first | exact Below.refl _ _ | assumption | refine Below.drew ?_ | refine below_drewN ?_ _ | refine balloc ?_ _ | refine Below.setCell ?_ (by first | (simp; done) | (simp; omega) | omega) _ | refine bchain (by assumption) ?_))
  refine (HAT.out _ hb1).mono ?_
  rintro e w2 ⟨rfl, hb2⟩
  have k0 := op_cell hb2
  have hb02 := bchain hb2 hb1
  have HW2 := Lib.hid (HWW.out.below hb02)
  have q0 : w2.cell? ⟨w.heap.size, 0, none⟩ = some (.int .u8 0) := by rw [cell_of_block k0]; rfl
  have q1 : w2.cell? ⟨w.heap.size, 1, none⟩ = some (.int .u8 nf) := by rw [cell_of_block k0]; rfl
  have q2 : w2.cell? ⟨w.heap.size, 2, none⟩ = some (.int .i64 a) := by rw [cell_of_block k0]; rfl
  have q3 : w2.cell? ⟨w.heap.size, 3, none⟩ = some (.int .u64 u) := by rw [cell_of_block k0]; rfl
  have q4 : w2.cell? ⟨w.heap.size, 4, none⟩ = some (.bool raw) := by rw [cell_of_block k0]; rfl
  clear hb2 hb1 HAT
  obtain ⟨bO, bY, bL, aO, nO, cO, aY, nY, cY, vA, vW, rO, rY, S, hW⟩ := HWW.out
  have hsq : ¬ S w.heap.size := fun e => by have := hW.real.lt _ e; omega
  have hpq : w.heap.size ≠ p := by have := hW.plt; omega
  have h := hW.below hb02
  clear hW
  have hwq : IntKind.u8.wrap q = q := by simp [IntKind.wrap, IntKind.bits, IntKind.signed]; omega
  have hwq2 : IntKind.i64.wrap q = q := IntWalk.i64_in _ (by omega)
  have hw64 : IntKind.i64.wrap (nn + 1) = nn + 1 := IntWalk.i64_in _ (by omega)
  have kp := h.blk
  unfold wc13 at kp
  have hf := h.ref (t' := s) (nn' := nn + 1) (Below.refl _ w2) h.lg h.rm (fun k hk => .inl hk) one_offm (one_off kp)
  have pf : ∀ i, w2.frozen? ⟨p, i, none⟩ = false := frozen_of_block kp
  have p13 : w2.cell? ⟨p, 13, none⟩ = some (.int .i64 nn) := by rw [cell_of_block kp]; rfl
  have k1 := set_other (i := 13) (v := .int .i64 (nn + 1)) k0 hpq
  have HF := Lib.hid hf
  clear hf h kp k0 q1 q2 q3 q4 hq0 hnn hnn1 hnf hnf1
  go_upto_region 6 with fail
  obtain ⟨w3, hw3⟩ : ∃ W, (w2.setCell ⟨p, 13, none⟩ (.int .i64 (nn + 1))) = W := ⟨_, rfl⟩
  rw [hw3] at HF k1 ⊢
  obtain ⟨h3, hM3⟩ := HF.out
  have HM3 := Lib.hid hM3
  have HW3 := Lib.hid h3
  have kp := h3.blk
  unfold wc13 at kp
  have hpl : p < w3.heap.size := h3.plt
  have hql : w.heap.size < w3.heap.size := (Array.getElem?_eq_some_iff.1 k1).1
  clear hw3 HF pf p13 q0 h3 hM3
  have p0 : w3.cell? ⟨p, 0, none⟩ = some (.pointer (some ⟨bO, 0, none⟩)) := by rw [cell_of_block kp]; rfl
  have p1 : w3.cell? ⟨p, 1, none⟩ = some (.pointer (some ⟨bY, 0, none⟩)) := by rw [cell_of_block kp]; rfl
  have p13 : w3.cell? ⟨p, 13, none⟩ = some (.int .i64 (nn + 1)) := by rw [cell_of_block kp]; rfl
  have q0 : w3.cell? ⟨w.heap.size, 0, none⟩ = some (.int .u8 0) := by rw [cell_of_block k1]; rfl
  have q1 : w3.cell? ⟨w.heap.size, 1, none⟩ = some (.int .u8 nf) := by rw [cell_of_block k1]; rfl
  have K1 := Lib.hid k1
  clear kp k1
  go_cut [6, 7] from 39 to 48 (fun s6 s7 wx => CutHI w3 q (nn + 1) s6 s7 wx)
  case first =>
    go_region
    all_goals (try go_wp2_with fail)
    all_goals go_meet
    · exact ⟨_, _, rfl, rfl, alloc_lt _ (alloc_get _ _), alloc_at1 _ _ _, Nat.le_refl _, Nat.le_succ _, (balloc (balloc (Below.refl _ _) _) _).drew⟩
    · exact ⟨_, _, rfl, rfl, alloc_at1 _ _ _, alloc_lt _ (alloc_get _ _), Nat.le_succ _, Nat.le_refl _, (balloc (balloc (Below.refl _ _) _) _).drew⟩
  case rest =>
    obtain ⟨A, B, rfl, rfl, kA, kB, hA, hB, hbc⟩ := hcut
    have HW4 := Lib.hid (HW3.out.below hbc)
    have HM4 := Lib.hid (Mods.chain hbc HM3.out)
    have k4 := bblock hbc K1.out
    have kp := HW4.out.blk
    unfold wc13 at kp
    have hsA : ¬ S A := fun e => by have := HW3.out.real.lt _ e; omega
    have hsB : ¬ S B := fun e => by have := HW3.out.real.lt _ e; omega
    have HA0 := al_real0 HW4.out.real q (nn + 1)
    have HR0 := fun W (H : RMem W aO nO cO aY nY cY lo ly s.wo s.wy rO rY) => rmalloc_any H false 0 1 q 1 (nn + 1)
    obtain ⟨ra, hra⟩ : ∃ x, amA lo ly s.wo s.wy false 0 1 q 1 (nn + 1) = x := ⟨_, rfl⟩
    obtain ⟨re, hre⟩ : ∃ x, amE lo ly s.wo s.wy false 0 1 q 1 (nn + 1) = x := ⟨_, rfl⟩
    rw [hra, hre] at HA0
    simp only [hra, hre] at HR0
    have HA := Lib.hid HA0
    have HR1 := Lib.hid HR0
    clear hra hre HA0 HR0
    have KA := Lib.hid kA
    have KB := Lib.hid kB
    have K4 := Lib.hid k4
    have e0 : wc.cell? ⟨p, 0, none⟩ = some (.pointer (some ⟨bO, 0, none⟩)) := by rw [cell_of_block kp]; rfl
    have e1 : wc.cell? ⟨p, 1, none⟩ = some (.pointer (some ⟨bY, 0, none⟩)) := by rw [cell_of_block kp]; rfl
    have o0 : wc.cell? ⟨w.heap.size, 0, none⟩ = some (.int .u8 0) := by rw [cell_of_block k4]; rfl
    have a0 : wc.cell? ⟨A, 0, none⟩ = some (.int .i64 0) := by rw [cell_of_block kA]; rfl
    have a1 : wc.cell? ⟨A, 1, none⟩ = some (.int .i64 1) := by rw [cell_of_block kA]; rfl
    have a2 : wc.cell? ⟨A, 2, none⟩ = some (.int .i64 q) := by rw [cell_of_block kA]; rfl
    have b0 : wc.cell? ⟨B, 0, none⟩ = some (.int .i64 1) := by rw [cell_of_block kB]; rfl
    have b1 : wc.cell? ⟨B, 1, none⟩ = some (.int .i64 (nn + 1)) := by rw [cell_of_block kB]; rfl
    clear kA kB kp k4 q0 q1 p0 p1 p13
    go_wp2_with fail
    refine HA.out.mono ?_
    rintro e w5 ⟨rfl, hN⟩
    obtain ⟨S5, h5, hM5, hMs⟩ := HW4.out.step hN
    have k5 := mblock hMs K4.out hsq
    have kA := mblock hMs KA.out hsA
    have kB := mblock hMs KB.out hsB
    have HR : ∀ W, Below w5.heap.size w5 W → Calls Try.prog 41 #[.agg #[.int .i64 0, .int .i64 lo, .slice aO nO cO, .int .i64 16777216, .int .i64 ly, .slice aY nY cY], .bool false, .agg #[.int .i64 0, .int .i64 1, .int .i64 q], .agg #[.int .i64 1, .int .i64 (nn + 1)]] W (fun e w' => RmNx w5 ra re lo ly (amO lo s.wo false 0 1 q 1 (nn + 1)) (amY ly s.wy false 0 1 q 1 (nn + 1)) rO rY e w' ∧ Below W.heap.size W w') := fun W H => (HR1.out W (h5.rm.below H)).mono (fun e w' h => RNext.rm H h)
    obtain ⟨mo', hmo⟩ : ∃ x, amO lo s.wo false 0 1 q 1 (nn + 1) = x := ⟨_, rfl⟩
    obtain ⟨my', hmy⟩ : ∃ x, amY ly s.wy false 0 1 q 1 (nn + 1) = x := ⟨_, rfl⟩
    rw [hmo, hmy] at HR
    have HMO := Lib.hid hmo
    have HMY := Lib.hid hmy
    have HR := Lib.hid HR
    clear hmo hmy
    have HW5 := Lib.hid h5
    have HM5 := Lib.hid (HM4.out.ge hM5)
    have kp := h5.blk
    unfold wc13 at kp
    have hpl : p < w5.heap.size := h5.plt
    have hql : w.heap.size < w5.heap.size := (Array.getElem?_eq_some_iff.1 k5).1
    have hAl : A < w5.heap.size := (Array.getElem?_eq_some_iff.1 kA).1
    have hBl : B < w5.heap.size := (Array.getElem?_eq_some_iff.1 kB).1
    have p3 : w5.cell? ⟨p, 3, none⟩ = some (.int .i64 0) := by rw [cell_of_block kp]; rfl
    have p4 : w5.cell? ⟨p, 4, none⟩ = some (.int .i64 lo) := by rw [cell_of_block kp]; rfl
    have p5 : w5.cell? ⟨p, 5, none⟩ = some (.slice aO nO cO) := by rw [cell_of_block kp]; rfl
    have p6 : w5.cell? ⟨p, 6, none⟩ = some (.int .i64 16777216) := by rw [cell_of_block kp]; rfl
    have p7 : w5.cell? ⟨p, 7, none⟩ = some (.int .i64 ly) := by rw [cell_of_block kp]; rfl
    have p8 : w5.cell? ⟨p, 8, none⟩ = some (.slice aY nY cY) := by rw [cell_of_block kp]; rfl
    have q0 : w5.cell? ⟨w.heap.size, 0, none⟩ = some (.int .u8 0) := by rw [cell_of_block k5]; rfl
    have f0 : w5.cell? ⟨A, 0, none⟩ = some (.int .i64 0) := by rw [cell_of_block kA]; rfl
    have f1 : w5.cell? ⟨A, 1, none⟩ = some (.int .i64 1) := by rw [cell_of_block kA]; rfl
    have f2 : w5.cell? ⟨A, 2, none⟩ = some (.int .i64 q) := by rw [cell_of_block kA]; rfl
    have g0 : w5.cell? ⟨B, 0, none⟩ = some (.int .i64 1) := by rw [cell_of_block kB]; rfl
    have g1 : w5.cell? ⟨B, 1, none⟩ = some (.int .i64 (nn + 1)) := by rw [cell_of_block kB]; rfl
    clear hN hMs hM5 h5 kp k5 kA kB e0 e1 o0 a0 a1 a2 b0 b1
    go_wp2_with fail
    have Cp3 := Lib.hid p3
    have Cp4 := Lib.hid p4
    have Cp5 := Lib.hid p5
    have Cp6 := Lib.hid p6
    have Cp7 := Lib.hid p7
    have Cp8 := Lib.hid p8
    have Cq0 := Lib.hid q0
    have Cf0 := Lib.hid f0
    have Cf1 := Lib.hid f1
    have Cf2 := Lib.hid f2
    have Cg0 := Lib.hid g0
    have Cg1 := Lib.hid g1
    have KP := Lib.hid (fun (W : World) (H : Below w5.heap.size w5 W) => (⟨bcellv H Cp3.out, bcellv H Cp4.out, bcellv H Cp5.out, bcellv H Cp6.out, bcellv H Cp7.out, bcellv H Cp8.out, bcellv H Cq0.out, bcellv H Cf0.out, bcellv H Cf1.out, bcellv H Cf2.out, bcellv H Cg0.out, bcellv H Cg1.out⟩ : W.cell? ⟨p, 3, none⟩ = some (.int .i64 0) ∧ W.cell? ⟨p, 4, none⟩ = some (.int .i64 lo) ∧ W.cell? ⟨p, 5, none⟩ = some (.slice aO nO cO) ∧ W.cell? ⟨p, 6, none⟩ = some (.int .i64 16777216) ∧ W.cell? ⟨p, 7, none⟩ = some (.int .i64 ly) ∧ W.cell? ⟨p, 8, none⟩ = some (.slice aY nY cY) ∧ W.cell? ⟨w.heap.size, 0, none⟩ = some (.int .u8 0) ∧ W.cell? ⟨A, 0, none⟩ = some (.int .i64 0) ∧ W.cell? ⟨A, 1, none⟩ = some (.int .i64 1) ∧ W.cell? ⟨A, 2, none⟩ = some (.int .i64 q) ∧ W.cell? ⟨B, 0, none⟩ = some (.int .i64 1) ∧ W.cell? ⟨B, 1, none⟩ = some (.int .i64 (nn + 1))))
    go_cut [11, 12, 13] from 69 to 82 (fun s1 s2 s3 wx => CutMm w5 lo ly ra re mo' my' rO rY s1 s2 s3 wx)
    case first =>
      go_region_held3 (fun w' => w'.cell? ⟨p, 3, none⟩ = some (.int .i64 0) ∧ w'.cell? ⟨p, 4, none⟩ = some (.int .i64 lo) ∧ w'.cell? ⟨p, 5, none⟩ = some (.slice aO nO cO) ∧ w'.cell? ⟨p, 6, none⟩ = some (.int .i64 16777216) ∧ w'.cell? ⟨p, 7, none⟩ = some (.int .i64 ly) ∧ w'.cell? ⟨p, 8, none⟩ = some (.slice aY nY cY) ∧ w'.cell? ⟨w.heap.size, 0, none⟩ = some (.int .u8 0) ∧ w'.cell? ⟨A, 0, none⟩ = some (.int .i64 0) ∧ w'.cell? ⟨A, 1, none⟩ = some (.int .i64 1) ∧ w'.cell? ⟨A, 2, none⟩ = some (.int .i64 q) ∧ w'.cell? ⟨B, 0, none⟩ = some (.int .i64 1) ∧ w'.cell? ⟨B, 1, none⟩ = some (.int .i64 (nn + 1))) (first | go_keep | (with_reducible exact KP.out _ (by (repeat (first | exact Below.refl _ _ | assumption | refine Below.drew ?_ | refine below_drewN ?_ _ | refine balloc ?_ _ | refine Below.setCell ?_ (by first | (simp; done) | (simp; omega) | omega) _ | refine bchain (by assumption) ?_))))) (first | (go_at_call 41; (with_reducible refine (HR.out _ (by (repeat (first | exact Below.refl _ _ | assumption | refine Below.drew ?_ | refine below_drewN ?_ _ | refine balloc ?_ _ | refine Below.setCell ?_ (by first | (simp; done) | (simp; omega) | omega) _ | refine bchain (by assumption) ?_)))).mono ?_); rintro e w6 ⟨⟨aO', nO', cO', aY', nY', cY', rO', rY', rfl, hr6, hg6, hbq⟩, hb6⟩; have HR6 := Lib.hid hr6; have HG6 := Lib.hid hg6; clear hg6 hr6; have p3 := bcellv hbq Cp3.out; have p4 := bcellv hbq Cp4.out; have p5 := bcellv hbq Cp5.out; have p6 := bcellv hbq Cp6.out; have p7 := bcellv hbq Cp7.out; have p8 := bcellv hbq Cp8.out; have q0 := bcellv hbq Cq0.out; have f0 := bcellv hbq Cf0.out; have f1 := bcellv hbq Cf1.out; have f2 := bcellv hbq Cf2.out; have g0 := bcellv hbq Cg0.out; have g1 := bcellv hbq Cg1.out; (try (have kM0 : w6.heap[w5.heap.size]? = some (.cells #[.int .i64 0, .int .i64 0, .slice none 0 0, .int .i64 0, .int .i64 0, .slice none 0 0] 35 (0, 0)) := bblock hb6 (alloc_get _ _); have kM0_f : ∀ i, w6.frozen? ⟨w5.heap.size, i, none⟩ = false := frozen_of_block kM0; have kM0_z : w5.heap.size < w6.heap.size := (Array.getElem?_eq_some_iff.1 kM0).1; have kM0_0 : w6.cell? ⟨w5.heap.size, 0, none⟩ = some (.int .i64 0) := (by rw [cell_of_block kM0]; rfl); have kM0_1 : w6.cell? ⟨w5.heap.size, 1, none⟩ = some (.int .i64 0) := (by rw [cell_of_block kM0]; rfl); have kM0_2 : w6.cell? ⟨w5.heap.size, 2, none⟩ = some (.slice none 0 0) := (by rw [cell_of_block kM0]; rfl); have kM0_3 : w6.cell? ⟨w5.heap.size, 3, none⟩ = some (.int .i64 0) := (by rw [cell_of_block kM0]; rfl); have kM0_4 : w6.cell? ⟨w5.heap.size, 4, none⟩ = some (.int .i64 0) := (by rw [cell_of_block kM0]; rfl); have kM0_5 : w6.cell? ⟨w5.heap.size, 5, none⟩ = some (.slice none 0 0) := (by rw [cell_of_block kM0]; rfl))); have hz6 := hbq.size))
      all_goals (try go_wp2_with fail)
      all_goals go_meet
      · exact CutMm.of HR6.out HG6.out hbq (mods_al _) hz6 (.inr (Nat.le_refl _)) (alloc_get _ _)
      · exact CutMm.of HR6.out HG6.out hbq six_mods (Nat.le_refl _) (fr_mem kM0) (set6 kM0)
    case rest =>
      obtain ⟨U, aO', nO', cO', aY', nY', cY', rO', rY', rfl, rfl, rfl, kU, hU, hr2, hg2, hbc2⟩ := hcut
      have kp := bblock hbc2 HW5.out.blk
      unfold wc13 at kp
      have hUp : U ≠ p := by have := HW5.out.plt; omega
      have hf := HW5.out.ref (t' := ⟨mo', my', s.op, s.top, s.nt⟩) (nn' := nn + 1) hbc2 (HW5.out.lg.below hbc2) hr2 (fun k hk => by
        rcases hk with e | e | e | e
        · rcases hg2 k (.inl e) with h | h | h
          · exact .inl (.inl h)
          · exact .inl (.inr (.inl h))
          · exact .inr h
        · rcases hg2 k (.inr e) with h | h | h
          · exact .inl (.inl h)
          · exact .inl (.inr (.inl h))
          · exact .inr h
        · exact .inl (.inr (.inr (.inl e)))
        · exact .inl (.inr (.inr (.inr e)))) six_wm (six_w kp)
      have HF := Lib.hid hf
      have pf : ∀ i, wc.frozen? ⟨p, i, none⟩ = false := frozen_of_block kp
      have u0 : wc.cell? ⟨U, 0, none⟩ = some (.int .i64 0) := by rw [cell_of_block kU]; rfl
      have u1 : wc.cell? ⟨U, 1, none⟩ = some (.int .i64 lo) := by rw [cell_of_block kU]; rfl
      have u2 : wc.cell? ⟨U, 2, none⟩ = some (.slice aO' nO' cO') := by rw [cell_of_block kU]; rfl
      have u3 : wc.cell? ⟨U, 3, none⟩ = some (.int .i64 16777216) := by rw [cell_of_block kU]; rfl
      have u4 : wc.cell? ⟨U, 4, none⟩ = some (.int .i64 ly) := by rw [cell_of_block kU]; rfl
      have u5 : wc.cell? ⟨U, 5, none⟩ = some (.slice aY' nY' cY') := by rw [cell_of_block kU]; rfl
      have d3 : wc.cell? ⟨p, 3, none⟩ = some (.int .i64 0) := by rw [cell_of_block kp]; rfl
      have d4 : wc.cell? ⟨p, 4, none⟩ = some (.int .i64 lo) := by rw [cell_of_block kp]; rfl
      have d5 : wc.cell? ⟨p, 5, none⟩ = some (.slice aO nO cO) := by rw [cell_of_block kp]; rfl
      have d6 : wc.cell? ⟨p, 6, none⟩ = some (.int .i64 16777216) := by rw [cell_of_block kp]; rfl
      have d7 : wc.cell? ⟨p, 7, none⟩ = some (.int .i64 ly) := by rw [cell_of_block kp]; rfl
      have d8 : wc.cell? ⟨p, 8, none⟩ = some (.slice aY nY cY) := by rw [cell_of_block kp]; rfl
      clear hf kp kU hr2 hg2
      go_wp2
      go_ret
      have hww := HF.out.1.ww
      rw [show (⟨mo', my', s.op, s.top, s.nt⟩ : M13) = alS lo ly false s q (nn + 1) by rw [← HMO.out, ← HMY.out]; rfl] at hww
      exact ⟨by simp, WNx.pre HWW.out hb02 ⟨hww, HM5.out.ge HF.out.2⟩⟩
set_option maxRecDepth 100000 in
set_option maxHeartbeats 8000000 in
theorem step_1 {w : World} {n0 : Dom} {p : Nat} {lo ly nn : Int} {s : M13} (nf a u : Int) (raw : Bool) (h : WW w n0 p lo ly s s nn) (hnn : 0 ≤ nn) (hnn1 : nn < 4611686018427387904) (hnf : 0 ≤ nf) (hnf1 : nf < 256) :
    Calls Try.prog 25 #[.pointer (some ⟨p, 0, none⟩), .agg #[.int .u8 1, .int .u8 nf, .int .i64 a, .int .u64 u, .bool raw]] w fun e w' => e = .returned (.bool true) ∧ WNx w n0 p lo ly (alS lo ly true s (nf.tmod 6) (nn + 1)) (alS lo ly true s (nf.tmod 6) (nn + 1)) (nn + 1) w' := by
  have HAT := Lib.hid (fun W (H : Below w.heap.size w W) => at_ww (h.below H) 1 nf a u raw)
  have HWW := Lib.hid h
  have hq0 : 0 ≤ nf.tmod 6 ∧ nf.tmod 6 < 6 := by rw [Int.tmod_eq_emod_of_nonneg hnf]; omega
  generalize hqq : nf.tmod 6 = q at *
  have hn0 := h.n0
  generalize at13 raw s.wo.length s.wy.length a = y at *
  clear h
  go_enter Try.func25, Try.ntmps25
  go_wp2_with fail
  have hb1 : Below w.heap.size w (w.alloc (.cells #[.int .u8 1, .int .u8 nf, .int .i64 a, .int .u64 u, .bool raw] 45)) := by (repeat (first | exact Below.refl _ _ | assumption | refine Below.drew ?_ | refine below_drewN ?_ _ | refine balloc ?_ _ | refine Below.setCell ?_ (by first | (simp; done) | (simp; omega) | omega) _ | refine bchain (by assumption) ?_))
  refine (HAT.out _ hb1).mono ?_
  rintro e w2 ⟨rfl, hb2⟩
  have k0 := op_cell hb2
  have hb02 := bchain hb2 hb1
  have HW2 := Lib.hid (HWW.out.below hb02)
  have q0 : w2.cell? ⟨w.heap.size, 0, none⟩ = some (.int .u8 1) := by rw [cell_of_block k0]; rfl
  have q1 : w2.cell? ⟨w.heap.size, 1, none⟩ = some (.int .u8 nf) := by rw [cell_of_block k0]; rfl
  have q2 : w2.cell? ⟨w.heap.size, 2, none⟩ = some (.int .i64 a) := by rw [cell_of_block k0]; rfl
  have q3 : w2.cell? ⟨w.heap.size, 3, none⟩ = some (.int .u64 u) := by rw [cell_of_block k0]; rfl
  have q4 : w2.cell? ⟨w.heap.size, 4, none⟩ = some (.bool raw) := by rw [cell_of_block k0]; rfl
  clear hb2 hb1 HAT
  obtain ⟨bO, bY, bL, aO, nO, cO, aY, nY, cY, vA, vW, rO, rY, S, hW⟩ := HWW.out
  have hsq : ¬ S w.heap.size := fun e => by have := hW.real.lt _ e; omega
  have hpq : w.heap.size ≠ p := by have := hW.plt; omega
  have h := hW.below hb02
  clear hW
  have hwq : IntKind.u8.wrap q = q := by simp [IntKind.wrap, IntKind.bits, IntKind.signed]; omega
  have hwq2 : IntKind.i64.wrap q = q := IntWalk.i64_in _ (by omega)
  have hw64 : IntKind.i64.wrap (nn + 1) = nn + 1 := IntWalk.i64_in _ (by omega)
  have kp := h.blk
  unfold wc13 at kp
  have hf := h.ref (t' := s) (nn' := nn + 1) (Below.refl _ w2) h.lg h.rm (fun k hk => .inl hk) one_offm (one_off kp)
  have pf : ∀ i, w2.frozen? ⟨p, i, none⟩ = false := frozen_of_block kp
  have p13 : w2.cell? ⟨p, 13, none⟩ = some (.int .i64 nn) := by rw [cell_of_block kp]; rfl
  have k1 := set_other (i := 13) (v := .int .i64 (nn + 1)) k0 hpq
  have HF := Lib.hid hf
  clear hf h kp k0 q1 q2 q3 q4 hq0 hnn hnn1 hnf hnf1
  go_upto_region 6 with fail
  obtain ⟨w3, hw3⟩ : ∃ W, (w2.setCell ⟨p, 13, none⟩ (.int .i64 (nn + 1))) = W := ⟨_, rfl⟩
  rw [hw3] at HF k1 ⊢
  obtain ⟨h3, hM3⟩ := HF.out
  have HM3 := Lib.hid hM3
  have HW3 := Lib.hid h3
  have kp := h3.blk
  unfold wc13 at kp
  have hpl : p < w3.heap.size := h3.plt
  have hql : w.heap.size < w3.heap.size := (Array.getElem?_eq_some_iff.1 k1).1
  clear hw3 HF pf p13 q0 h3 hM3
  have p0 : w3.cell? ⟨p, 0, none⟩ = some (.pointer (some ⟨bO, 0, none⟩)) := by rw [cell_of_block kp]; rfl
  have p1 : w3.cell? ⟨p, 1, none⟩ = some (.pointer (some ⟨bY, 0, none⟩)) := by rw [cell_of_block kp]; rfl
  have p13 : w3.cell? ⟨p, 13, none⟩ = some (.int .i64 (nn + 1)) := by rw [cell_of_block kp]; rfl
  have q0 : w3.cell? ⟨w.heap.size, 0, none⟩ = some (.int .u8 1) := by rw [cell_of_block k1]; rfl
  have q1 : w3.cell? ⟨w.heap.size, 1, none⟩ = some (.int .u8 nf) := by rw [cell_of_block k1]; rfl
  have K1 := Lib.hid k1
  clear kp k1
  go_cut [6, 7] from 39 to 48 (fun s6 s7 wx => CutHI w3 q (nn + 1) s6 s7 wx)
  case first =>
    go_region
    all_goals (try go_wp2_with fail)
    all_goals go_meet
    · exact ⟨_, _, rfl, rfl, alloc_lt _ (alloc_get _ _), alloc_at1 _ _ _, Nat.le_refl _, Nat.le_succ _, (balloc (balloc (Below.refl _ _) _) _).drew⟩
    · exact ⟨_, _, rfl, rfl, alloc_at1 _ _ _, alloc_lt _ (alloc_get _ _), Nat.le_succ _, Nat.le_refl _, (balloc (balloc (Below.refl _ _) _) _).drew⟩
  case rest =>
    obtain ⟨A, B, rfl, rfl, kA, kB, hA, hB, hbc⟩ := hcut
    have HW4 := Lib.hid (HW3.out.below hbc)
    have HM4 := Lib.hid (Mods.chain hbc HM3.out)
    have k4 := bblock hbc K1.out
    have kp := HW4.out.blk
    unfold wc13 at kp
    have hsA : ¬ S A := fun e => by have := HW3.out.real.lt _ e; omega
    have hsB : ¬ S B := fun e => by have := HW3.out.real.lt _ e; omega
    have HA0 := al_real1 HW4.out.real q (nn + 1)
    have HR0 := fun W (H : RMem W aO nO cO aY nY cY lo ly s.wo s.wy rO rY) => rmalloc_any H true 0 1 q 1 (nn + 1)
    obtain ⟨ra, hra⟩ : ∃ x, amA lo ly s.wo s.wy true 0 1 q 1 (nn + 1) = x := ⟨_, rfl⟩
    obtain ⟨re, hre⟩ : ∃ x, amE lo ly s.wo s.wy true 0 1 q 1 (nn + 1) = x := ⟨_, rfl⟩
    rw [hra, hre] at HA0
    simp only [hra, hre] at HR0
    have HA := Lib.hid HA0
    have HR1 := Lib.hid HR0
    clear hra hre HA0 HR0
    have KA := Lib.hid kA
    have KB := Lib.hid kB
    have K4 := Lib.hid k4
    have e0 : wc.cell? ⟨p, 0, none⟩ = some (.pointer (some ⟨bO, 0, none⟩)) := by rw [cell_of_block kp]; rfl
    have e1 : wc.cell? ⟨p, 1, none⟩ = some (.pointer (some ⟨bY, 0, none⟩)) := by rw [cell_of_block kp]; rfl
    have o0 : wc.cell? ⟨w.heap.size, 0, none⟩ = some (.int .u8 1) := by rw [cell_of_block k4]; rfl
    have a0 : wc.cell? ⟨A, 0, none⟩ = some (.int .i64 0) := by rw [cell_of_block kA]; rfl
    have a1 : wc.cell? ⟨A, 1, none⟩ = some (.int .i64 1) := by rw [cell_of_block kA]; rfl
    have a2 : wc.cell? ⟨A, 2, none⟩ = some (.int .i64 q) := by rw [cell_of_block kA]; rfl
    have b0 : wc.cell? ⟨B, 0, none⟩ = some (.int .i64 1) := by rw [cell_of_block kB]; rfl
    have b1 : wc.cell? ⟨B, 1, none⟩ = some (.int .i64 (nn + 1)) := by rw [cell_of_block kB]; rfl
    clear kA kB kp k4 q0 q1 p0 p1 p13
    go_wp2_with fail
    refine HA.out.mono ?_
    rintro e w5 ⟨rfl, hN⟩
    obtain ⟨S5, h5, hM5, hMs⟩ := HW4.out.step hN
    have k5 := mblock hMs K4.out hsq
    have kA := mblock hMs KA.out hsA
    have kB := mblock hMs KB.out hsB
    have HR : ∀ W, Below w5.heap.size w5 W → Calls Try.prog 41 #[.agg #[.int .i64 0, .int .i64 lo, .slice aO nO cO, .int .i64 16777216, .int .i64 ly, .slice aY nY cY], .bool true, .agg #[.int .i64 0, .int .i64 1, .int .i64 q], .agg #[.int .i64 1, .int .i64 (nn + 1)]] W (fun e w' => RmNx w5 ra re lo ly (amO lo s.wo true 0 1 q 1 (nn + 1)) (amY ly s.wy true 0 1 q 1 (nn + 1)) rO rY e w' ∧ Below W.heap.size W w') := fun W H => (HR1.out W (h5.rm.below H)).mono (fun e w' h => RNext.rm H h)
    obtain ⟨mo', hmo⟩ : ∃ x, amO lo s.wo true 0 1 q 1 (nn + 1) = x := ⟨_, rfl⟩
    obtain ⟨my', hmy⟩ : ∃ x, amY ly s.wy true 0 1 q 1 (nn + 1) = x := ⟨_, rfl⟩
    rw [hmo, hmy] at HR
    have HMO := Lib.hid hmo
    have HMY := Lib.hid hmy
    have HR := Lib.hid HR
    clear hmo hmy
    have HW5 := Lib.hid h5
    have HM5 := Lib.hid (HM4.out.ge hM5)
    have kp := h5.blk
    unfold wc13 at kp
    have hpl : p < w5.heap.size := h5.plt
    have hql : w.heap.size < w5.heap.size := (Array.getElem?_eq_some_iff.1 k5).1
    have hAl : A < w5.heap.size := (Array.getElem?_eq_some_iff.1 kA).1
    have hBl : B < w5.heap.size := (Array.getElem?_eq_some_iff.1 kB).1
    have p3 : w5.cell? ⟨p, 3, none⟩ = some (.int .i64 0) := by rw [cell_of_block kp]; rfl
    have p4 : w5.cell? ⟨p, 4, none⟩ = some (.int .i64 lo) := by rw [cell_of_block kp]; rfl
    have p5 : w5.cell? ⟨p, 5, none⟩ = some (.slice aO nO cO) := by rw [cell_of_block kp]; rfl
    have p6 : w5.cell? ⟨p, 6, none⟩ = some (.int .i64 16777216) := by rw [cell_of_block kp]; rfl
    have p7 : w5.cell? ⟨p, 7, none⟩ = some (.int .i64 ly) := by rw [cell_of_block kp]; rfl
    have p8 : w5.cell? ⟨p, 8, none⟩ = some (.slice aY nY cY) := by rw [cell_of_block kp]; rfl
    have q0 : w5.cell? ⟨w.heap.size, 0, none⟩ = some (.int .u8 1) := by rw [cell_of_block k5]; rfl
    have f0 : w5.cell? ⟨A, 0, none⟩ = some (.int .i64 0) := by rw [cell_of_block kA]; rfl
    have f1 : w5.cell? ⟨A, 1, none⟩ = some (.int .i64 1) := by rw [cell_of_block kA]; rfl
    have f2 : w5.cell? ⟨A, 2, none⟩ = some (.int .i64 q) := by rw [cell_of_block kA]; rfl
    have g0 : w5.cell? ⟨B, 0, none⟩ = some (.int .i64 1) := by rw [cell_of_block kB]; rfl
    have g1 : w5.cell? ⟨B, 1, none⟩ = some (.int .i64 (nn + 1)) := by rw [cell_of_block kB]; rfl
    clear hN hMs hM5 h5 kp k5 kA kB e0 e1 o0 a0 a1 a2 b0 b1
    go_wp2_with fail
    have Cp3 := Lib.hid p3
    have Cp4 := Lib.hid p4
    have Cp5 := Lib.hid p5
    have Cp6 := Lib.hid p6
    have Cp7 := Lib.hid p7
    have Cp8 := Lib.hid p8
    have Cq0 := Lib.hid q0
    have Cf0 := Lib.hid f0
    have Cf1 := Lib.hid f1
    have Cf2 := Lib.hid f2
    have Cg0 := Lib.hid g0
    have Cg1 := Lib.hid g1
    have KP := Lib.hid (fun (W : World) (H : Below w5.heap.size w5 W) => (⟨bcellv H Cp3.out, bcellv H Cp4.out, bcellv H Cp5.out, bcellv H Cp6.out, bcellv H Cp7.out, bcellv H Cp8.out, bcellv H Cq0.out, bcellv H Cf0.out, bcellv H Cf1.out, bcellv H Cf2.out, bcellv H Cg0.out, bcellv H Cg1.out⟩ : W.cell? ⟨p, 3, none⟩ = some (.int .i64 0) ∧ W.cell? ⟨p, 4, none⟩ = some (.int .i64 lo) ∧ W.cell? ⟨p, 5, none⟩ = some (.slice aO nO cO) ∧ W.cell? ⟨p, 6, none⟩ = some (.int .i64 16777216) ∧ W.cell? ⟨p, 7, none⟩ = some (.int .i64 ly) ∧ W.cell? ⟨p, 8, none⟩ = some (.slice aY nY cY) ∧ W.cell? ⟨w.heap.size, 0, none⟩ = some (.int .u8 1) ∧ W.cell? ⟨A, 0, none⟩ = some (.int .i64 0) ∧ W.cell? ⟨A, 1, none⟩ = some (.int .i64 1) ∧ W.cell? ⟨A, 2, none⟩ = some (.int .i64 q) ∧ W.cell? ⟨B, 0, none⟩ = some (.int .i64 1) ∧ W.cell? ⟨B, 1, none⟩ = some (.int .i64 (nn + 1))))
    go_cut [11, 12, 13] from 69 to 82 (fun s1 s2 s3 wx => CutMm w5 lo ly ra re mo' my' rO rY s1 s2 s3 wx)
    case first =>
      go_region_held3 (fun w' => w'.cell? ⟨p, 3, none⟩ = some (.int .i64 0) ∧ w'.cell? ⟨p, 4, none⟩ = some (.int .i64 lo) ∧ w'.cell? ⟨p, 5, none⟩ = some (.slice aO nO cO) ∧ w'.cell? ⟨p, 6, none⟩ = some (.int .i64 16777216) ∧ w'.cell? ⟨p, 7, none⟩ = some (.int .i64 ly) ∧ w'.cell? ⟨p, 8, none⟩ = some (.slice aY nY cY) ∧ w'.cell? ⟨w.heap.size, 0, none⟩ = some (.int .u8 1) ∧ w'.cell? ⟨A, 0, none⟩ = some (.int .i64 0) ∧ w'.cell? ⟨A, 1, none⟩ = some (.int .i64 1) ∧ w'.cell? ⟨A, 2, none⟩ = some (.int .i64 q) ∧ w'.cell? ⟨B, 0, none⟩ = some (.int .i64 1) ∧ w'.cell? ⟨B, 1, none⟩ = some (.int .i64 (nn + 1))) (first | go_keep | (with_reducible exact KP.out _ (by (repeat (first | exact Below.refl _ _ | assumption | refine Below.drew ?_ | refine below_drewN ?_ _ | refine balloc ?_ _ | refine Below.setCell ?_ (by first | (simp; done) | (simp; omega) | omega) _ | refine bchain (by assumption) ?_))))) (first | (go_at_call 41; (with_reducible refine (HR.out _ (by (repeat (first | exact Below.refl _ _ | assumption | refine Below.drew ?_ | refine below_drewN ?_ _ | refine balloc ?_ _ | refine Below.setCell ?_ (by first | (simp; done) | (simp; omega) | omega) _ | refine bchain (by assumption) ?_)))).mono ?_); rintro e w6 ⟨⟨aO', nO', cO', aY', nY', cY', rO', rY', rfl, hr6, hg6, hbq⟩, hb6⟩; have HR6 := Lib.hid hr6; have HG6 := Lib.hid hg6; clear hg6 hr6; have p3 := bcellv hbq Cp3.out; have p4 := bcellv hbq Cp4.out; have p5 := bcellv hbq Cp5.out; have p6 := bcellv hbq Cp6.out; have p7 := bcellv hbq Cp7.out; have p8 := bcellv hbq Cp8.out; have q0 := bcellv hbq Cq0.out; have f0 := bcellv hbq Cf0.out; have f1 := bcellv hbq Cf1.out; have f2 := bcellv hbq Cf2.out; have g0 := bcellv hbq Cg0.out; have g1 := bcellv hbq Cg1.out; (try (have kM0 : w6.heap[w5.heap.size]? = some (.cells #[.int .i64 0, .int .i64 0, .slice none 0 0, .int .i64 0, .int .i64 0, .slice none 0 0] 35 (0, 0)) := bblock hb6 (alloc_get _ _); have kM0_f : ∀ i, w6.frozen? ⟨w5.heap.size, i, none⟩ = false := frozen_of_block kM0; have kM0_z : w5.heap.size < w6.heap.size := (Array.getElem?_eq_some_iff.1 kM0).1; have kM0_0 : w6.cell? ⟨w5.heap.size, 0, none⟩ = some (.int .i64 0) := (by rw [cell_of_block kM0]; rfl); have kM0_1 : w6.cell? ⟨w5.heap.size, 1, none⟩ = some (.int .i64 0) := (by rw [cell_of_block kM0]; rfl); have kM0_2 : w6.cell? ⟨w5.heap.size, 2, none⟩ = some (.slice none 0 0) := (by rw [cell_of_block kM0]; rfl); have kM0_3 : w6.cell? ⟨w5.heap.size, 3, none⟩ = some (.int .i64 0) := (by rw [cell_of_block kM0]; rfl); have kM0_4 : w6.cell? ⟨w5.heap.size, 4, none⟩ = some (.int .i64 0) := (by rw [cell_of_block kM0]; rfl); have kM0_5 : w6.cell? ⟨w5.heap.size, 5, none⟩ = some (.slice none 0 0) := (by rw [cell_of_block kM0]; rfl))); have hz6 := hbq.size))
      all_goals (try go_wp2_with fail)
      all_goals go_meet
      · exact CutMm.of HR6.out HG6.out hbq (mods_al _) hz6 (.inr (Nat.le_refl _)) (alloc_get _ _)
      · exact CutMm.of HR6.out HG6.out hbq six_mods (Nat.le_refl _) (fr_mem kM0) (set6 kM0)
    case rest =>
      obtain ⟨U, aO', nO', cO', aY', nY', cY', rO', rY', rfl, rfl, rfl, kU, hU, hr2, hg2, hbc2⟩ := hcut
      have kp := bblock hbc2 HW5.out.blk
      unfold wc13 at kp
      have hUp : U ≠ p := by have := HW5.out.plt; omega
      have hf := HW5.out.ref (t' := ⟨mo', my', s.op, s.top, s.nt⟩) (nn' := nn + 1) hbc2 (HW5.out.lg.below hbc2) hr2 (fun k hk => by
        rcases hk with e | e | e | e
        · rcases hg2 k (.inl e) with h | h | h
          · exact .inl (.inl h)
          · exact .inl (.inr (.inl h))
          · exact .inr h
        · rcases hg2 k (.inr e) with h | h | h
          · exact .inl (.inl h)
          · exact .inl (.inr (.inl h))
          · exact .inr h
        · exact .inl (.inr (.inr (.inl e)))
        · exact .inl (.inr (.inr (.inr e)))) six_wm (six_w kp)
      have HF := Lib.hid hf
      have pf : ∀ i, wc.frozen? ⟨p, i, none⟩ = false := frozen_of_block kp
      have u0 : wc.cell? ⟨U, 0, none⟩ = some (.int .i64 0) := by rw [cell_of_block kU]; rfl
      have u1 : wc.cell? ⟨U, 1, none⟩ = some (.int .i64 lo) := by rw [cell_of_block kU]; rfl
      have u2 : wc.cell? ⟨U, 2, none⟩ = some (.slice aO' nO' cO') := by rw [cell_of_block kU]; rfl
      have u3 : wc.cell? ⟨U, 3, none⟩ = some (.int .i64 16777216) := by rw [cell_of_block kU]; rfl
      have u4 : wc.cell? ⟨U, 4, none⟩ = some (.int .i64 ly) := by rw [cell_of_block kU]; rfl
      have u5 : wc.cell? ⟨U, 5, none⟩ = some (.slice aY' nY' cY') := by rw [cell_of_block kU]; rfl
      have d3 : wc.cell? ⟨p, 3, none⟩ = some (.int .i64 0) := by rw [cell_of_block kp]; rfl
      have d4 : wc.cell? ⟨p, 4, none⟩ = some (.int .i64 lo) := by rw [cell_of_block kp]; rfl
      have d5 : wc.cell? ⟨p, 5, none⟩ = some (.slice aO nO cO) := by rw [cell_of_block kp]; rfl
      have d6 : wc.cell? ⟨p, 6, none⟩ = some (.int .i64 16777216) := by rw [cell_of_block kp]; rfl
      have d7 : wc.cell? ⟨p, 7, none⟩ = some (.int .i64 ly) := by rw [cell_of_block kp]; rfl
      have d8 : wc.cell? ⟨p, 8, none⟩ = some (.slice aY nY cY) := by rw [cell_of_block kp]; rfl
      clear hf kp kU hr2 hg2
      go_wp2
      go_ret
      have hww := HF.out.1.ww
      rw [show (⟨mo', my', s.op, s.top, s.nt⟩ : M13) = alS lo ly true s q (nn + 1) by rw [← HMO.out, ← HMY.out]; rfl] at hww
      exact ⟨by simp, WNx.pre HWW.out hb02 ⟨hww, HM5.out.ge HF.out.2⟩⟩
end Go.Proofs.Ytgipmcmmicppkaa
