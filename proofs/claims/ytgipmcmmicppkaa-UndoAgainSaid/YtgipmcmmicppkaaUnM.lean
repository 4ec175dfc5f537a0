/-
  law 13: Rollback on both sides.
-/
import Derived.Test.YtgipmcmmicppkaaUnY
namespace Go.Proofs.Ytgipmcmmicppkaa
open Go.RowKit
set_option linter.unusedSimpArgs false
set_option linter.unusedVariables false

def RbNext (w : World) (nt : List (Int × Int)) (op : Bool) (top er lo ly : Int) (mo my : List Int) (vA vW : Value) (rO rY : Option Nat) (e : Ending) (w' : World) : Prop :=
  ∃ vA' vW' aO' nO' cO' aY' nY' cY' rO' rY', e = .returned (.tuple #[lgV op top vA' vW', mmV lo ly aO' nO' cO' aY' nY' cY', .int .i64 er]) ∧ LgAt w' nt vA' vW' ∧ RMem w' aO' nO' cO' aY' nY' cY' lo ly mo my rO' rY' ∧ (∀ k, RT rO' rY' vA' vW' k → RT rO rY vA vW k ∨ w.heap.size ≤ k) ∧ Below w.heap.size w w'
theorem rrb_next {w : World} {s : M13} {vA vW : Value} (h : LgAt w s.nt vA vW) {aO : Option Addr} {nO cO : Nat} {aY : Option Addr} {nY cY : Nat} {lo ly : Int} {rO rY : Option Nat} (hm : RMem w aO nO cO aY nY cY lo ly s.wo s.wy rO rY) (hn : s.nt.length ≤ 100000) :
    Calls Try.prog 45 #[lgV s.op s.top vA vW, mmV lo ly aO nO cO aY nY cY] w (RbNext w (rlS s).nt (rlS s).op (rlS s).top (rlE s) lo ly (rlS s).wo (rlS s).wy vA vW rO rY) := by
  obtain ⟨wo, wy, op, top, nt⟩ := s
  refine (rrb_any h hm hn).mono ?_
  rintro e w' ⟨aO', nO', cO', aY', nY', cY', gO', gY', rfl, hr, g1, g2, hb⟩
  cases op
  · refine ⟨vA, vW, aO', nO', cO', aY', nY', cY', gO', gY', rfl, h.below hb, hr, fun k hk => ?_, hb⟩
    rcases hk with e | e | e | e
    · exact (g1 k e).imp .inl id
    · exact (g2 k e).imp (fun h => .inr (.inl h)) id
    · exact .inl (.inr (.inr (.inl e)))
    · exact .inl (.inr (.inr (.inr e)))
  · refine ⟨_, _, aO', nO', cO', aY', nY', cY', gO', gY', rfl, LgAt.nil _, hr, fun k hk => ?_, hb⟩
    rcases hk with e | e | e | e
    · exact (g1 k e).imp .inl id
    · exact (g2 k e).imp (fun h => .inr (.inl h)) id
    · cases e
    · cases e
/-- The same, from a world that came later. -/
theorem RbNext.late {q w : World} {nt : List (Int × Int)} {op : Bool} {top er lo ly : Int} {mo my : List Int} {vA vW : Value} {rO rY : Option Nat} {e : Ending} {w' : World} (hb : Below q.heap.size q w) (h : RbNext w nt op top er lo ly mo my vA vW rO rY e w') :
    RbNext q nt op top er lo ly mo my vA vW rO rY e w' ∧ Below w.heap.size w w' := by
  obtain ⟨vA', vW', aO', nO', cO', aY', nY', cY', rO', rY', h1, h2, h3, h4, h5⟩ := h
  exact ⟨⟨vA', vW', aO', nO', cO', aY', nY', cY', rO', rY', h1, h2, h3, fun k hk => (h4 k hk).imp id (fun h => Nat.le_trans hb.size h), bchain h5 hb⟩, h5⟩
def CutRB (wq : World) (nt : List (Int × Int)) (op : Bool) (top er lo ly : Int) (mo my : List Int) (vA vW : Value) (rO rY : Option Nat) (sV sU sE : Value) (wx : World) : Prop :=
  ∃ V U a3 n3 c3 a4 n4 c4 aO' nO' cO' aY' nY' cY' rO' rY', sV = .pointer (some ⟨V, 0, none⟩) ∧ sU = .pointer (some ⟨U, 0, none⟩) ∧ sE = .int .i64 er ∧ wx.heap[V]? = some (.cells #[.bool op, .int .i64 top, .slice a3 n3 c3, .slice a4 n4 c4] 38 (0, 0)) ∧ wx.heap[U]? = some (.cells #[.int .i64 0, .int .i64 lo, .slice aO' nO' cO', .int .i64 16777216, .int .i64 ly, .slice aY' nY' cY'] 35 (0, 0)) ∧ wq.heap.size ≤ V ∧ wq.heap.size ≤ U ∧ LgAt wx nt (.slice a3 n3 c3) (.slice a4 n4 c4) ∧ RMem wx aO' nO' cO' aY' nY' cY' lo ly mo my rO' rY' ∧ (∀ k, RT rO' rY' (.slice a3 n3 c3) (.slice a4 n4 c4) k → RT rO rY vA vW k ∨ wq.heap.size ≤ k) ∧ Below wq.heap.size wq wx
theorem alloc_at1 (w : World) (a b : Obj) : ((w.alloc a).alloc b).heap[w.heap.size + 1]? = some b := alloc_at _ (by simp)
def Fr (w : World) (k : Nat) : Prop := (∃ cs T, w.heap[k]? = some (.cells cs T (0, 0)) ∧ T ≠ 3 ∧ T ≠ 43) ∨ w.heap.size ≤ k
theorem CutRB.of {w3 w6 wx : World} {nt : List (Int × Int)} {op : Bool} {top er lo ly : Int} {mo my : List Int} {vA vW : Value} {rO rY : Option Nat} {a3 : Option Addr} {n3 c3 : Nat} {a4 : Option Addr} {n4 c4 : Nat} {aO' : Option Addr} {nO' cO' : Nat} {aY' : Option Addr} {nY' cY' : Nat} {rO' rY' : Option Nat}
    (hl : LgAt w6 nt (.slice a3 n3 c3) (.slice a4 n4 c4)) (hr : RMem w6 aO' nO' cO' aY' nY' cY' lo ly mo my rO' rY') (hg : ∀ k, RT rO' rY' (.slice a3 n3 c3) (.slice a4 n4 c4) k → RT rO rY vA vW k ∨ w3.heap.size ≤ k) (hb : Below w3.heap.size w3 w6) {V U : Nat}
    (hM : Mods (fun k => k = V ∨ k = U) w6 wx) (hV : w3.heap.size ≤ V) (hU : w3.heap.size ≤ U) (fV : Fr w6 V) (fU : Fr w6 U) (kV : wx.heap[V]? = some (.cells #[.bool op, .int .i64 top, .slice a3 n3 c3, .slice a4 n4 c4] 38 (0, 0))) (kU : wx.heap[U]? = some (.cells #[.int .i64 0, .int .i64 lo, .slice aO' nO' cO', .int .i64 16777216, .int .i64 ly, .slice aY' nY' cY'] 35 (0, 0))) :
    CutRB w3 nt op top er lo ly mo my vA vW rO rY (.pointer (some ⟨V, 0, none⟩)) (.pointer (some ⟨U, 0, none⟩)) (.int .i64 er) wx := by
  have q : ∀ j, Fr w6 j → ∀ k, RT rO' rY' (.slice a3 n3 c3) (.slice a4 n4 c4) k → k ≠ j := fun j hj k hk => by
    rcases hj with ⟨cs, T, h1, h2, h3⟩ | h1
    · rcases hk with e | e | e | e
      · exact row_ne hr.old h1 h3 k e
      · exact row_ne hr.yng h1 h3 k e
      · exact (lg_ne hl h1 h2 h3).1 k e
      · exact (lg_ne hl h1 h2 h3).2 k e
    · have : k < w6.heap.size := by
        rcases hk with e | e | e | e
        · exact hr.old.lt' k e
        · exact hr.yng.lt' k e
        · exact nrow_lt hl.at_ k e
        · exact nrow_lt hl.wd k e
      omega
  have q2 : ∀ k, RT rO' rY' (.slice a3 n3 c3) (.slice a4 n4 c4) k → ¬ (k = V ∨ k = U) := fun k hk h => h.elim (q V fV k hk) (q U fU k hk)
  have hB : Below w3.heap.size w6 wx := hM.below hb.size (fun k hk => by rcases hk with rfl | rfl <;> assumption)
  exact ⟨V, U, a3, n3, c3, a4, n4, c4, aO', nO', cO', aY', nY', cY', rO', rY', rfl, rfl, rfl, kV, kU, hV, hU, hl.mods hM (fun G e => q2 G (.inr (.inr (.inl e)))) (fun G e => q2 G (.inr (.inr (.inr e)))), hr.mods' hM (fun G e => q2 G (.inl e)) (fun G e => q2 G (.inr (.inl e))), hg, hb.trans hB⟩
theorem mods_two {w w1 w2 : World} {V U : Nat} (h1 : Mods (fun k => k = V) w w1) (h2 : Mods (fun k => k = U) w1 w2) : Mods (fun k => k = V ∨ k = U) w w2 := (h1.mono (fun i hi => .inl hi)).trans h2 (fun i hi => .inl (.inr hi))
theorem mods_twoR {w w1 w2 : World} {V U : Nat} (h1 : Mods (fun k => k = U) w w1) (h2 : Mods (fun k => k = V) w1 w2) : Mods (fun k => k = V ∨ k = U) w w2 := (h1.mono (fun i hi => .inr hi)).trans h2 (fun i hi => .inl (.inl hi))
theorem mods_self {w w1 w2 : World} {k : Nat} (h1 : Mods (fun j => j = k) w w1) (h2 : Mods (fun j => j = k) w1 w2) : Mods (fun j => j = k) w w2 := h1.trans h2 (fun i hi => .inl hi)
theorem mods_al {w : World} (o : Obj) {S : Nat → Prop} : Mods S w (w.alloc o) := (Mods.refl S w).alloc o
theorem fr_log {w : World} {k : Nat} {cs : Array Value} (h : w.heap[k]? = some (.cells cs 38 (0, 0))) : Fr w k := .inl ⟨_, _, h, by decide, by decide⟩
theorem fr_mem {w : World} {k : Nat} {cs : Array Value} (h : w.heap[k]? = some (.cells cs 35 (0, 0))) : Fr w k := .inl ⟨_, _, h, by decide, by decide⟩
theorem set_blk {w : World} {k j i : Nat} {u : Value} {o : Obj} (h : w.heap[k]? = some o) (hn : k ≠ j) : (w.setCell ⟨j, i, none⟩ u).heap[k]? = some o := set_other h hn
theorem four_blk {w : World} {k j : Nat} {b0 b1 b2 b3 : Value} {o : Obj} (h : w.heap[k]? = some o) (hn : k ≠ j) : ((((w.setCell ⟨j, 0, none⟩ b0).setCell ⟨j, 1, none⟩ b1).setCell ⟨j, 2, none⟩ b2).setCell ⟨j, 3, none⟩ b3).heap[k]? = some o := set_other (set_other (set_other (set_other h hn) hn) hn) hn
theorem six_blk {w : World} {k j : Nat} {b0 b1 b2 b3 b4 b5 : Value} {o : Obj} (h : w.heap[k]? = some o) (hn : k ≠ j) : ((((((w.setCell ⟨j, 0, none⟩ b0).setCell ⟨j, 1, none⟩ b1).setCell ⟨j, 2, none⟩ b2).setCell ⟨j, 3, none⟩ b3).setCell ⟨j, 4, none⟩ b4).setCell ⟨j, 5, none⟩ b5).heap[k]? = some o := set_other (set_other (set_other (set_other (set_other (set_other h hn) hn) hn) hn) hn) hn
set_option maxRecDepth 100000 in
set_option maxHeartbeats 8000000 in
theorem step_7 {w : World} {n0 : Dom} {p : Nat} {lo ly nn : Int} {s : M13} (nf a u : Int) (raw : Bool) (h : WW w n0 p lo ly s s nn) (hn : s.nt.length ≤ 100000) :
    Calls Try.prog 25 #[.pointer (some ⟨p, 0, none⟩), .agg #[.int .u8 7, .int .u8 nf, .int .i64 a, .int .u64 u, .bool raw]] w fun e w' => e = .returned (.bool true) ∧ WNx w n0 p lo ly (rlS s) (rlS s) nn w' := by
  have HAT := Lib.hid (fun W (H : Below w.heap.size w W) => at_ww (h.below H) 7 nf a u raw)
  have HWW := Lib.hid h
  have hn0 := h.n0
  generalize at13 raw s.wo.length s.wy.length a = y at *
  clear h
  go_enter Try.func25, Try.ntmps25
  go_wp2_with fail
  have hb1 : Below w.heap.size w (w.alloc (.cells #[.int .u8 7, .int .u8 nf, .int .i64 a, .int .u64 u, .bool raw] 45)) := by (repeat (first | exact Below.refl _ _ | assumption | refine Below.drew ?_ | refine below_drewN ?_ _ | refine balloc ?_ _ | refine Below.setCell ?_ (by first | (simp; done) | (simp; omega) | omega) _ | refine bchain (by assumption) ?_))
  refine (HAT.out _ hb1).mono ?_
  rintro e w2 ⟨rfl, hb2⟩
  have k0 := op_cell hb2
  have hb02 := bchain hb2 hb1
  have HW2 := Lib.hid (HWW.out.below hb02)
  have q0 : w2.cell? ⟨w.heap.size, 0, none⟩ = some (.int .u8 7) := by rw [cell_of_block k0]; rfl
  have q1 : w2.cell? ⟨w.heap.size, 1, none⟩ = some (.int .u8 nf) := by rw [cell_of_block k0]; rfl
  have q2 : w2.cell? ⟨w.heap.size, 2, none⟩ = some (.int .i64 a) := by rw [cell_of_block k0]; rfl
  have q3 : w2.cell? ⟨w.heap.size, 3, none⟩ = some (.int .u64 u) := by rw [cell_of_block k0]; rfl
  have q4 : w2.cell? ⟨w.heap.size, 4, none⟩ = some (.bool raw) := by rw [cell_of_block k0]; rfl
  clear hb2 hb1 HAT
  clear k0 q1 q2 q3 q4
  obtain ⟨bO, bY, bL, aO, nO, cO, aY, nY, cY, vA, vW, rO, rY, S, h⟩ := HW2.out
  obtain ⟨a1, c1, eA, _⟩ := row_form1 h.lg.at_
  obtain ⟨a2, c2, eW, _⟩ := row_form1 h.lg.wd
  subst eA eW
  obtain ⟨n1, hn1⟩ : ∃ n, s.nt.length = n := ⟨_, rfl⟩
  have H1N := Lib.hid hn1
  rw [hn1] at h
  clear hn1
  have hS := fun W (H : Below w2.heap.size w2 W) => rollback_any (h.real.below H) hn
  have hR0 := fun W (H1 : LgAt W s.nt (.slice a1 n1 c1) (.slice a2 n1 c2)) (H2 : RMem W aO nO cO aY nY cY lo ly s.wo s.wy rO rY) => rrb_next (s := s) H1 H2 hn
  have hq : (⟨(rlS s).wo, (rlS s).wy, (rlS s).op, (rlS s).top, (rlS s).nt⟩ : M13) = rlS s := rfl
  obtain ⟨mo', hmo⟩ : ∃ x, (rlS s).wo = x := ⟨_, rfl⟩
  obtain ⟨my', hmy⟩ : ∃ x, (rlS s).wy = x := ⟨_, rfl⟩
  obtain ⟨er, her⟩ : ∃ x, rlE s = x := ⟨_, rfl⟩
  obtain ⟨nt', hnt⟩ : ∃ x, (rlS s).nt = x := ⟨_, rfl⟩
  obtain ⟨op', hop⟩ : ∃ x, (rlS s).op = x := ⟨_, rfl⟩
  obtain ⟨top', htop⟩ : ∃ x, (rlS s).top = x := ⟨_, rfl⟩
  rw [her] at hS
  simp only [hnt, hop, htop, her, hmo, hmy] at hR0 hq
  have HS := Lib.hid hS
  have HQ := Lib.hid hq
  have HR0 := Lib.hid hR0
  clear hS hq hR0 her hnt hop htop hmo hmy
  have HW := Lib.hid h
  have hsp := h.sp
  have kp := h.blk
  unfold wc13 at kp
  have p0 : w2.cell? ⟨p, 0, none⟩ = some (.pointer (some ⟨bO, 0, none⟩)) := by rw [cell_of_block kp]; rfl
  have p1 : w2.cell? ⟨p, 1, none⟩ = some (.pointer (some ⟨bY, 0, none⟩)) := by rw [cell_of_block kp]; rfl
  have p2 : w2.cell? ⟨p, 2, none⟩ = some (.pointer (some ⟨bL, 0, none⟩)) := by rw [cell_of_block kp]; rfl
  clear h kp
  have hBd : Below w2.heap.size w2 w2.drew := (Below.refl _ _).drew
  go_wp2_with fail
  go_region_held3 (fun w' => w'.cell? ⟨p, 0, none⟩ = some (.pointer (some ⟨bO, 0, none⟩)) ∧ w'.cell? ⟨p, 1, none⟩ = some (.pointer (some ⟨bY, 0, none⟩)) ∧ w'.cell? ⟨p, 2, none⟩ = some (.pointer (some ⟨bL, 0, none⟩))) (first | (with_reducible exact ⟨p0, p1, p2⟩) | go_keep) (first | (go_at_call 18; (with_reducible refine (HS.out _ hBd).mono ?_); rintro e w3 ⟨rfl, S', r1, r2, r3⟩; have p0 := mcell r2 (show w2.drew.cell? _ = _ from p0) hsp; have p1 := mcell r2 (show w2.drew.cell? _ = _ from p1) hsp; have p2 := mcell r2 (show w2.drew.cell? _ = _ from p2) hsp; have HR1 := Lib.hid r1; have HR3 := Lib.hid r3; clear r1 r3))
  obtain ⟨S3, h3, hM3, hMs⟩ := (HW.out.below hBd).step ⟨S', HR1.out, r2, HR3.out⟩
  have hM3 : Mods n0.D w2 w3 := Mods.mk hM3.os hM3.tape hM3.output hM3.size hM3.block
  clear hMs r2 p0 p1 p2
  have HR : ∀ W, Below w3.heap.size w3 W → Calls Try.prog 45 #[lgV s.op s.top (.slice a1 n1 c1) (.slice a2 n1 c2), mmV lo ly aO nO cO aY nY cY] W (fun e w' => RbNext w3 nt' op' top' er lo ly mo' my' (.slice a1 n1 c1) (.slice a2 n1 c2) rO rY e w' ∧ Below W.heap.size W w') := fun W H => (HR0.out W (h3.lg.below H) (h3.rm.below H)).mono (fun e w' h => RbNext.late H h)
  have HR := Lib.hid HR
  unfold lgV mmV at HR
  have HW3 := Lib.hid h3
  have HM3 := Lib.hid hM3
  have kp := h3.blk
  unfold wc13 at kp
  clear hM3
  have p3 : w3.cell? ⟨p, 3, none⟩ = some (.int .i64 0) := by rw [cell_of_block kp]; rfl
  have p4 : w3.cell? ⟨p, 4, none⟩ = some (.int .i64 lo) := by rw [cell_of_block kp]; rfl
  have p5 : w3.cell? ⟨p, 5, none⟩ = some (.slice aO nO cO) := by rw [cell_of_block kp]; rfl
  have p6 : w3.cell? ⟨p, 6, none⟩ = some (.int .i64 16777216) := by rw [cell_of_block kp]; rfl
  have p7 : w3.cell? ⟨p, 7, none⟩ = some (.int .i64 ly) := by rw [cell_of_block kp]; rfl
  have p8 : w3.cell? ⟨p, 8, none⟩ = some (.slice aY nY cY) := by rw [cell_of_block kp]; rfl
  have p9 : w3.cell? ⟨p, 9, none⟩ = some (.bool s.op) := by rw [cell_of_block kp]; rfl
  have p10 : w3.cell? ⟨p, 10, none⟩ = some (.int .i64 s.top) := by rw [cell_of_block kp]; rfl
  have p11 : w3.cell? ⟨p, 11, none⟩ = some (.slice a1 n1 c1) := by rw [cell_of_block kp]; rfl
  have p12 : w3.cell? ⟨p, 12, none⟩ = some (.slice a2 n1 c2) := by rw [cell_of_block kp]; rfl
  clear h3 kp
  have hpl : p < w3.heap.size := HW3.out.plt
  go_wp2_with fail
  have P3 := Lib.hid p3
  have P4 := Lib.hid p4
  have P5 := Lib.hid p5
  have P6 := Lib.hid p6
  have P7 := Lib.hid p7
  have P8 := Lib.hid p8
  have P9 := Lib.hid p9
  have P10 := Lib.hid p10
  have P11 := Lib.hid p11
  have P12 := Lib.hid p12
  have KP := Lib.hid (fun (W : World) (H : Below w3.heap.size w3 W) => (⟨bcellv H P3.out, bcellv H P4.out, bcellv H P5.out, bcellv H P6.out, bcellv H P7.out, bcellv H P8.out, bcellv H P9.out, bcellv H P10.out, bcellv H P11.out, bcellv H P12.out⟩ : W.cell? ⟨p, 3, none⟩ = some (.int .i64 0) ∧ W.cell? ⟨p, 4, none⟩ = some (.int .i64 lo) ∧ W.cell? ⟨p, 5, none⟩ = some (.slice aO nO cO) ∧ W.cell? ⟨p, 6, none⟩ = some (.int .i64 16777216) ∧ W.cell? ⟨p, 7, none⟩ = some (.int .i64 ly) ∧ W.cell? ⟨p, 8, none⟩ = some (.slice aY nY cY) ∧ W.cell? ⟨p, 9, none⟩ = some (.bool s.op) ∧ W.cell? ⟨p, 10, none⟩ = some (.int .i64 s.top) ∧ W.cell? ⟨p, 11, none⟩ = some (.slice a1 n1 c1) ∧ W.cell? ⟨p, 12, none⟩ = some (.slice a2 n1 c2)))
  go_cut [21, 22, 23] from 183 to 194 (fun s8 s9 s10 wx => CutRB w3 nt' op' top' er lo ly mo' my' (.slice a1 n1 c1) (.slice a2 n1 c2) rO rY s8 s9 s10 wx)
  case first =>
    go_region_held3 (fun w' => w'.cell? ⟨p, 3, none⟩ = some (.int .i64 0) ∧ w'.cell? ⟨p, 4, none⟩ = some (.int .i64 lo) ∧ w'.cell? ⟨p, 5, none⟩ = some (.slice aO nO cO) ∧ w'.cell? ⟨p, 6, none⟩ = some (.int .i64 16777216) ∧ w'.cell? ⟨p, 7, none⟩ = some (.int .i64 ly) ∧ w'.cell? ⟨p, 8, none⟩ = some (.slice aY nY cY) ∧ w'.cell? ⟨p, 9, none⟩ = some (.bool s.op) ∧ w'.cell? ⟨p, 10, none⟩ = some (.int .i64 s.top) ∧ w'.cell? ⟨p, 11, none⟩ = some (.slice a1 n1 c1) ∧ w'.cell? ⟨p, 12, none⟩ = some (.slice a2 n1 c2)) (first | go_keep | (with_reducible exact KP.out _ (by (repeat (first | exact Below.refl _ _ | assumption | refine Below.drew ?_ | refine below_drewN ?_ _ | refine balloc ?_ _ | refine Below.setCell ?_ (by first | (simp; done) | (simp; omega) | omega) _ | refine bchain (by assumption) ?_))))) (first | (go_at_call 45; (with_reducible refine (HR.out _ (by (repeat (first | exact Below.refl _ _ | assumption | refine Below.drew ?_ | refine below_drewN ?_ _ | refine balloc ?_ _ | refine Below.setCell ?_ (by first | (simp; done) | (simp; omega) | omega) _ | refine bchain (by assumption) ?_)))).mono ?_); rintro e w6 ⟨⟨vA', vW', aO', nO', cO', aY', nY', cY', rO', rY', rfl, hl6, hr6, hg6, hbq⟩, hb6⟩; have HL6 := Lib.hid hl6; have HR6 := Lib.hid hr6; have HG6 := Lib.hid hg6; obtain ⟨a3, c3, eA, _⟩ := row_form1 hl6.at_; obtain ⟨a4, c4, eW, _⟩ := row_form1 hl6.wd; subst eA eW; clear hg6 hl6 hr6; unfold lgV mmV; have p3 := bcellv hbq P3.out; have p4 := bcellv hbq P4.out; have p5 := bcellv hbq P5.out; have p6 := bcellv hbq P6.out; have p7 := bcellv hbq P7.out; have p8 := bcellv hbq P8.out; have p9 := bcellv hbq P9.out; have p10 := bcellv hbq P10.out; have p11 := bcellv hbq P11.out; have p12 := bcellv hbq P12.out; (try (have kL0 : w6.heap[w3.heap.size]? = some (.cells #[.bool false, .int .i64 0, .slice none 0 0, .slice none 0 0] 38 (0, 0)) := bblock hb6 (by first | exact alloc_get _ _ | exact alloc_at1 _ _ _ | exact alloc_lt _ (alloc_get _ _)); have kL0_f : ∀ i, w6.frozen? ⟨w3.heap.size, i, none⟩ = false := frozen_of_block kL0; have kL0_z : w3.heap.size < w6.heap.size := (Array.getElem?_eq_some_iff.1 kL0).1; have kL0_0 : w6.cell? ⟨w3.heap.size, 0, none⟩ = some (.bool false) := (by rw [cell_of_block kL0]; rfl); have kL0_1 : w6.cell? ⟨w3.heap.size, 1, none⟩ = some (.int .i64 0) := (by rw [cell_of_block kL0]; rfl); have kL0_2 : w6.cell? ⟨w3.heap.size, 2, none⟩ = some (.slice none 0 0) := (by rw [cell_of_block kL0]; rfl); have kL0_3 : w6.cell? ⟨w3.heap.size, 3, none⟩ = some (.slice none 0 0) := (by rw [cell_of_block kL0]; rfl))); (try (have kL1 : w6.heap[w3.heap.size + 1]? = some (.cells #[.bool false, .int .i64 0, .slice none 0 0, .slice none 0 0] 38 (0, 0)) := bblock hb6 (by first | exact alloc_get _ _ | exact alloc_at1 _ _ _ | exact alloc_lt _ (alloc_get _ _)); have kL1_f : ∀ i, w6.frozen? ⟨w3.heap.size + 1, i, none⟩ = false := frozen_of_block kL1; have kL1_z : w3.heap.size + 1 < w6.heap.size := (Array.getElem?_eq_some_iff.1 kL1).1; have kL1_0 : w6.cell? ⟨w3.heap.size + 1, 0, none⟩ = some (.bool false) := (by rw [cell_of_block kL1]; rfl); have kL1_1 : w6.cell? ⟨w3.heap.size + 1, 1, none⟩ = some (.int .i64 0) := (by rw [cell_of_block kL1]; rfl); have kL1_2 : w6.cell? ⟨w3.heap.size + 1, 2, none⟩ = some (.slice none 0 0) := (by rw [cell_of_block kL1]; rfl); have kL1_3 : w6.cell? ⟨w3.heap.size + 1, 3, none⟩ = some (.slice none 0 0) := (by rw [cell_of_block kL1]; rfl))); (try (have kM0 : w6.heap[w3.heap.size]? = some (.cells #[.int .i64 0, .int .i64 0, .slice none 0 0, .int .i64 0, .int .i64 0, .slice none 0 0] 35 (0, 0)) := bblock hb6 (by first | exact alloc_get _ _ | exact alloc_at1 _ _ _ | exact alloc_lt _ (alloc_get _ _)); have kM0_f : ∀ i, w6.frozen? ⟨w3.heap.size, i, none⟩ = false := frozen_of_block kM0; have kM0_z : w3.heap.size < w6.heap.size := (Array.getElem?_eq_some_iff.1 kM0).1; have kM0_0 : w6.cell? ⟨w3.heap.size, 0, none⟩ = some (.int .i64 0) := (by rw [cell_of_block kM0]; rfl); have kM0_1 : w6.cell? ⟨w3.heap.size, 1, none⟩ = some (.int .i64 0) := (by rw [cell_of_block kM0]; rfl); have kM0_2 : w6.cell? ⟨w3.heap.size, 2, none⟩ = some (.slice none 0 0) := (by rw [cell_of_block kM0]; rfl); have kM0_3 : w6.cell? ⟨w3.heap.size, 3, none⟩ = some (.int .i64 0) := (by rw [cell_of_block kM0]; rfl); have kM0_4 : w6.cell? ⟨w3.heap.size, 4, none⟩ = some (.int .i64 0) := (by rw [cell_of_block kM0]; rfl); have kM0_5 : w6.cell? ⟨w3.heap.size, 5, none⟩ = some (.slice none 0 0) := (by rw [cell_of_block kM0]; rfl))); (try (have kM1 : w6.heap[w3.heap.size + 1]? = some (.cells #[.int .i64 0, .int .i64 0, .slice none 0 0, .int .i64 0, .int .i64 0, .slice none 0 0] 35 (0, 0)) := bblock hb6 (by first | exact alloc_get _ _ | exact alloc_at1 _ _ _ | exact alloc_lt _ (alloc_get _ _)); have kM1_f : ∀ i, w6.frozen? ⟨w3.heap.size + 1, i, none⟩ = false := frozen_of_block kM1; have kM1_z : w3.heap.size + 1 < w6.heap.size := (Array.getElem?_eq_some_iff.1 kM1).1; have kM1_0 : w6.cell? ⟨w3.heap.size + 1, 0, none⟩ = some (.int .i64 0) := (by rw [cell_of_block kM1]; rfl); have kM1_1 : w6.cell? ⟨w3.heap.size + 1, 1, none⟩ = some (.int .i64 0) := (by rw [cell_of_block kM1]; rfl); have kM1_2 : w6.cell? ⟨w3.heap.size + 1, 2, none⟩ = some (.slice none 0 0) := (by rw [cell_of_block kM1]; rfl); have kM1_3 : w6.cell? ⟨w3.heap.size + 1, 3, none⟩ = some (.int .i64 0) := (by rw [cell_of_block kM1]; rfl); have kM1_4 : w6.cell? ⟨w3.heap.size + 1, 4, none⟩ = some (.int .i64 0) := (by rw [cell_of_block kM1]; rfl); have kM1_5 : w6.cell? ⟨w3.heap.size + 1, 5, none⟩ = some (.slice none 0 0) := (by rw [cell_of_block kM1]; rfl))); have hz6 := hbq.size))
    all_goals (try go_wp2_with fail)
    all_goals go_meet
    · exact CutRB.of HL6.out HR6.out HG6.out hbq (Mods.alloc (mods_al _) _) hz6 (by omega) (.inr (Nat.le_refl _)) (.inr (by omega)) (alloc_lt _ (alloc_get _ _)) (alloc_at1 _ _ _)
    · exact CutRB.of HL6.out HR6.out HG6.out hbq (Mods.alloc (mods_al _) _) (by omega) hz6 (.inr (by omega)) (.inr (Nat.le_refl _)) (alloc_at1 _ _ _) (alloc_lt _ (alloc_get _ _))
    · exact CutRB.of HL6.out HR6.out HG6.out hbq (mods_two four_mods (mods_al _)) (Nat.le_refl _) hz6 (fr_log kL0) (.inr (Nat.le_refl _)) (alloc_lt _ (four_set' kL0)) (alloc_at _ (by simp))
    · exact CutRB.of HL6.out HR6.out HG6.out hbq (mods_two four_mods six_mods) (Nat.le_refl _) (by omega) (fr_log kL0) (fr_mem kM1) (six_blk (four_set' kL0) (by omega)) (set6 (four_blk kM1 (by omega)))
    · exact CutRB.of HL6.out HR6.out HG6.out hbq (mods_twoR six_mods (mods_al _)) hz6 (Nat.le_refl _) (.inr (Nat.le_refl _)) (fr_mem kM0) (alloc_at _ (by simp)) (alloc_lt _ (set6 kM0))
    · exact CutRB.of HL6.out HR6.out HG6.out hbq (mods_two four_mods six_mods) (by omega) (Nat.le_refl _) (fr_log kL1) (fr_mem kM0) (six_blk (four_set' kL1) (by omega)) (set6 (four_blk kM0 (by omega)))
  case rest =>
    obtain ⟨V, U, a3, n3, c3, a4, n4, c4, aO', nO', cO', aY', nY', cY', rO', rY', rfl, rfl, rfl, kV, kU, hV, hU, hl2, hr2, hg2, hbc⟩ := hcut
    have kp := bblock hbc HW3.out.blk
    unfold wc13 at kp
    have hVp : V ≠ p := by have := HW3.out.plt; omega
    have hUp : U ≠ p := by have := HW3.out.plt; omega
    have hf1 := HW3.out.ref (t' := ⟨mo', my', op', top', nt'⟩) (nn' := nn) hbc hl2 hr2 hg2 (mods_self four_offm six_wm) (six_w (four_off kp))
    have hf2 := HW3.out.ref (t' := ⟨mo', my', op', top', nt'⟩) (nn' := nn) hbc hl2 hr2 hg2 (mods_self six_wm four_offm) (four_off (six_w kp))
    have HF1 := Lib.hid hf1
    have HF2 := Lib.hid hf2
    have pf : ∀ i, wc.frozen? ⟨p, i, none⟩ = false := frozen_of_block kp
    have v0 : wc.cell? ⟨V, 0, none⟩ = some (.bool op') := by rw [cell_of_block kV]; rfl
    have v1 : wc.cell? ⟨V, 1, none⟩ = some (.int .i64 top') := by rw [cell_of_block kV]; rfl
    have v2 : wc.cell? ⟨V, 2, none⟩ = some (.slice a3 n3 c3) := by rw [cell_of_block kV]; rfl
    have v3 : wc.cell? ⟨V, 3, none⟩ = some (.slice a4 n4 c4) := by rw [cell_of_block kV]; rfl
    have u0 : wc.cell? ⟨U, 0, none⟩ = some (.int .i64 0) := by rw [cell_of_block kU]; rfl
    have u1 : wc.cell? ⟨U, 1, none⟩ = some (.int .i64 lo) := by rw [cell_of_block kU]; rfl
    have u2 : wc.cell? ⟨U, 2, none⟩ = some (.slice aO' nO' cO') := by rw [cell_of_block kU]; rfl
    have u3 : wc.cell? ⟨U, 3, none⟩ = some (.int .i64 16777216) := by rw [cell_of_block kU]; rfl
    have u4 : wc.cell? ⟨U, 4, none⟩ = some (.int .i64 ly) := by rw [cell_of_block kU]; rfl
    have u5 : wc.cell? ⟨U, 5, none⟩ = some (.slice aY' nY' cY') := by rw [cell_of_block kU]; rfl
    have d3 : wc.cell? ⟨p, 3, none⟩ = some (.int .i64 0) := by rw [cell_of_block kp]; rfl
    have d4 : wc.cell? ⟨p, 4, none⟩ = some (.int .i64 lo) := by rw [cell_of_block kp]; rfl
    have d5 : wc.cell? ⟨p, 5, none⟩ = some (.slice aO nO cO) := by rw [cell_of_block kp]; rfl
    have d6 : wc.cell? ⟨p, 6, none⟩ = some (.int .i64 16777216) := by rw [cell_of_block kp]; rfl
    have d7 : wc.cell? ⟨p, 7, none⟩ = some (.int .i64 ly) := by rw [cell_of_block kp]; rfl
    have d8 : wc.cell? ⟨p, 8, none⟩ = some (.slice aY nY cY) := by rw [cell_of_block kp]; rfl
    have d9 : wc.cell? ⟨p, 9, none⟩ = some (.bool s.op) := by rw [cell_of_block kp]; rfl
    have d10 : wc.cell? ⟨p, 10, none⟩ = some (.int .i64 s.top) := by rw [cell_of_block kp]; rfl
    have d11 : wc.cell? ⟨p, 11, none⟩ = some (.slice a1 n1 c1) := by rw [cell_of_block kp]; rfl
    have d12 : wc.cell? ⟨p, 12, none⟩ = some (.slice a2 n1 c2) := by rw [cell_of_block kp]; rfl
    clear hf1 hf2 kp kV kU hl2 hr2 hg2
    go_wp2_with fail
    go_region
    obtain ⟨wz, hwz⟩ : ∃ W, ((((((((((wc.setCell ⟨p, 9, none⟩ (.bool op')).setCell ⟨p, 10, none⟩ (.int .i64 top')).setCell ⟨p, 11, none⟩ (.slice a3 n3 c3)).setCell ⟨p, 12, none⟩ (.slice a4 n4 c4)).setCell ⟨p, 3, none⟩ (.int .i64 0)).setCell ⟨p, 4, none⟩ (.int .i64 lo)).setCell ⟨p, 5, none⟩ (.slice aO' nO' cO')).setCell ⟨p, 6, none⟩ (.int .i64 16777216)).setCell ⟨p, 7, none⟩ (.int .i64 ly)).setCell ⟨p, 8, none⟩ (.slice aY' nY' cY')) = W := ⟨_, rfl⟩
    rw [hwz] at HF1 ⊢
    have HF := Lib.hid (HF1.out.1.below (Below.drew (Below.refl _ wz)))
    have HG := Lib.hid (HM3.out.ge HF1.out.2.drew)
    clear hwz HF1 HF2
    go_wp2
    go_ret
    have hww := HF.out.ww
    rw [HQ.out] at hww
    exact ⟨by simp, WNx.pre HWW.out hb02 ⟨hww, HG.out⟩⟩
end Go.Proofs.Ytgipmcmmicppkaa
