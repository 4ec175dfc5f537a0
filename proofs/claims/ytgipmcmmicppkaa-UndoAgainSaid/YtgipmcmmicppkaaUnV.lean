/-
  law 13: a world; note and store on both sides.
-/
import Derived.Test.YtgipmcmmicppkaaUnU
import Derived.Deep.Cut
namespace Go.Proofs.Ytgipmcmmicppkaa
open Go.RowKit
set_option linter.unusedSimpArgs false
set_option linter.unusedVariables false

def RT (rO rY : Option Nat) (vA vW : Value) : Nat → Prop := fun k => rO = some k ∨ rY = some k ∨ vA.ownBlock = some k ∨ vW.ownBlock = some k
structure Dom where
  D : Nat → Prop
  T : Nat → Nat → Nat → Prop
structure W13 (w : World) (n0 : Dom) (p : Nat) (lo ly : Int) (s t : M13) (nn : Int) (bO bY bL : Nat) (aO : Option Addr) (nO cO : Nat) (aY : Option Addr) (nY cY : Nat) (vA vW : Value) (rO rY : Option Nat) (S : Nat → Prop) : Prop where
  blk : w.heap[p]? = some (.cells (wc13 bO bY bL lo ly aO nO cO aY nY cY t.op t.top vA vW nn) 40 (0, 0))
  real : RealW w bO bY bL lo ly s S
  lg : LgAt w t.nt vA vW
  rm : RMem w aO nO cO aY nY cY lo ly t.wo t.wy rO rY
  sep : ∀ k, RT rO rY vA vW k → ¬ S k ∧ k ≠ p
  sp : ¬ S p
  np : n0.D p
  ns : ∀ k, S k → n0.D k
  nw : ∀ k, w.heap.size ≤ k → n0.D k
  tg : n0.T bO bY bL
  rd : ∀ k, RT rO rY vA vW k → n0.D k
def WW (w : World) (n0 : Dom) (p : Nat) (lo ly : Int) (s t : M13) (nn : Int) : Prop := ∃ bO bY bL aO nO cO aY nY cY vA vW rO rY S, W13 w n0 p lo ly s t nn bO bY bL aO nO cO aY nY cY vA vW rO rY S
def WNx (w : World) (n0 : Dom) (p : Nat) (lo ly : Int) (s t : M13) (nn : Int) (w' : World) : Prop := WW w' n0 p lo ly s t nn ∧ Mods n0.D w w'
theorem W13.plt {w : World} {n0 : Dom} {p : Nat} {lo ly nn : Int} {s t : M13} {bO bY bL : Nat} {aO : Option Addr} {nO cO : Nat} {aY : Option Addr} {nY cY : Nat} {vA vW : Value} {rO rY : Option Nat} {S : Nat → Prop} (h : W13 w n0 p lo ly s t nn bO bY bL aO nO cO aY nY cY vA vW rO rY S) : p < w.heap.size := (Array.getElem?_eq_some_iff.1 h.blk).1
theorem W13.rlt {w : World} {n0 : Dom} {p : Nat} {lo ly nn : Int} {s t : M13} {bO bY bL : Nat} {aO : Option Addr} {nO cO : Nat} {aY : Option Addr} {nY cY : Nat} {vA vW : Value} {rO rY : Option Nat} {S : Nat → Prop} (h : W13 w n0 p lo ly s t nn bO bY bL aO nO cO aY nY cY vA vW rO rY S) : ∀ k, RT rO rY vA vW k → k < w.heap.size := by
  rintro k (e | e | e | e)
  · exact h.rm.old.lt' k e
  · exact h.rm.yng.lt' k e
  · exact nrow_lt h.lg.at_ k e
  · exact nrow_lt h.lg.wd k e
theorem W13.below {w w' : World} {n0 : Dom} {p : Nat} {lo ly nn : Int} {s t : M13} {bO bY bL : Nat} {aO : Option Addr} {nO cO : Nat} {aY : Option Addr} {nY cY : Nat} {vA vW : Value} {rO rY : Option Nat} {S : Nat → Prop} (h : W13 w n0 p lo ly s t nn bO bY bL aO nO cO aY nY cY vA vW rO rY S) (hb : Below w.heap.size w w') : W13 w' n0 p lo ly s t nn bO bY bL aO nO cO aY nY cY vA vW rO rY S :=
  ⟨bblock hb h.blk, h.real.below hb, h.lg.below hb, h.rm.below hb, h.sep, h.sp, h.np, h.ns, fun k hk => h.nw k (Nat.le_trans hb.size hk), h.tg, h.rd⟩
theorem W13.n0 {w : World} {n0 : Dom} {p : Nat} {lo ly nn : Int} {s t : M13} {bO bY bL : Nat} {aO : Option Addr} {nO cO : Nat} {aY : Option Addr} {nY cY : Nat} {vA vW : Value} {rO rY : Option Nat} {S : Nat → Prop} (h : W13 w n0 p lo ly s t nn bO bY bL aO nO cO aY nY cY vA vW rO rY S) : ∀ k, w.heap.size ≤ k → n0.D k := h.nw
/-- The real side made a step. -/
theorem W13.step {w w' : World} {n0 : Dom} {p : Nat} {lo ly nn : Int} {s s' t : M13} {bO bY bL : Nat} {aO : Option Addr} {nO cO : Nat} {aY : Option Addr} {nY cY : Nat} {vA vW : Value} {rO rY : Option Nat} {S : Nat → Prop} (h : W13 w n0 p lo ly s t nn bO bY bL aO nO cO aY nY cY vA vW rO rY S) (hN : RNx w bO bY bL lo ly s' S w') : ∃ S', W13 w' n0 p lo ly s' t nn bO bY bL aO nO cO aY nY cY vA vW rO rY S' ∧ Mods n0.D w w' ∧ Mods S w w' := by
  obtain ⟨S', h1, h2, h3⟩ := hN
  have hlt := h.rlt
  have hp := h.plt
  refine ⟨S', ⟨mblock h2 h.blk h.sp, h1, h.lg.mods h2 (fun G e => (h.sep G (.inr (.inr (.inl e)))).1) (fun G e => (h.sep G (.inr (.inr (.inr e)))).1), h.rm.mods' h2 (fun G e => (h.sep G (.inl e)).1) (fun G e => (h.sep G (.inr (.inl e))).1), fun k hk => ⟨fun hs => ?_, (h.sep k hk).2⟩, fun hs => ?_, h.np, fun k hk => ?_, fun k hk => h.nw k (Nat.le_trans h2.size hk), h.tg, h.rd⟩, h2.mono h.ns, h2⟩
  · rcases h3 k hs with e | e
    · exact (h.sep k hk).1 e
    · have := hlt k hk; omega
  · rcases h3 p hs with e | e
    · exact h.sp e
    · omega
  · rcases h3 k hk with e | e
    · exact h.ns k e
    · exact h.nw k e
/-- The reference's side made a step (w1), then the world's block was written (w2). -/
theorem W13.ref {w w1 w2 : World} {n0 : Dom} {p : Nat} {lo ly nn nn' : Int} {s t t' : M13} {bO bY bL : Nat} {aO : Option Addr} {nO cO : Nat} {aY : Option Addr} {nY cY : Nat} {vA vW : Value} {rO rY : Option Nat} {S : Nat → Prop} (h : W13 w n0 p lo ly s t nn bO bY bL aO nO cO aY nY cY vA vW rO rY S) {aO' : Option Addr} {nO' cO' : Nat} {aY' : Option Addr} {nY' cY' : Nat} {vA' vW' : Value} {rO' rY' : Option Nat}
    (hb : Below w.heap.size w w1) (hl : LgAt w1 t'.nt vA' vW') (hm : RMem w1 aO' nO' cO' aY' nY' cY' lo ly t'.wo t'.wy rO' rY') (ho : ∀ k, RT rO' rY' vA' vW' k → RT rO rY vA vW k ∨ w.heap.size ≤ k) (hM : Mods (fun k => k = p) w1 w2)
    (hp : w2.heap[p]? = some (.cells (wc13 bO bY bL lo ly aO' nO' cO' aY' nY' cY' t'.op t'.top vA' vW' nn') 40 (0, 0))) : W13 w2 n0 p lo ly s t' nn' bO bY bL aO' nO' cO' aY' nY' cY' vA' vW' rO' rY' S ∧ Mods n0.D w w2 := by
  have hlt := h.real.lt
  have hpl := h.plt
  have q : ∀ k, RT rO' rY' vA' vW' k → ¬ S k ∧ k ≠ p := fun k hk => by
    rcases ho k hk with e | e
    · exact h.sep k e
    · exact ⟨fun hs => by have := hlt k hs; omega, by omega⟩
  refine ⟨⟨hp, (h.real.below hb).mods hM (fun k hk e => h.sp (by rw [e] at hk; exact hk)), hl.mods hM (fun G e => (q G (.inr (.inr (.inl e)))).2) (fun G e => (q G (.inr (.inr (.inr e)))).2), hm.mods' hM (fun G e => (q G (.inl e)).2) (fun G e => (q G (.inr (.inl e))).2), q, h.sp, h.np, h.ns, fun k hk => h.nw k (Nat.le_trans hb.size (Nat.le_trans hM.size hk)), h.tg, fun k hk => (ho k hk).elim (h.rd k) (h.nw k)⟩, ?_⟩
  exact (Mods.of_below (S := n0.D) hb).trans hM (fun i hi => .inl (by rw [hi]; exact h.np))
theorem W13.ww {w : World} {n0 : Dom} {p : Nat} {lo ly nn : Int} {s t : M13} {bO bY bL : Nat} {aO : Option Addr} {nO cO : Nat} {aY : Option Addr} {nY cY : Nat} {vA vW : Value} {rO rY : Option Nat} {S : Nat → Prop} (h : W13 w n0 p lo ly s t nn bO bY bL aO nO cO aY nY cY vA vW rO rY S) : WW w n0 p lo ly s t nn := ⟨_, _, _, _, _, _, _, _, _, _, _, _, _, _, h⟩
theorem Mods.ge {n0 : Nat → Prop} {a b c : World} (h : Mods n0 a b) (k : Mods n0 b c) : Mods n0 a c := h.trans k (fun i hi => .inl hi)
theorem four_off {w : World} {k : Nat} {T : TypeId} {x0 x1 x2 x3 x4 x5 x6 x7 x8 x9 x10 x11 x12 x13 b0 b1 b2 b3 : Value} (h : w.heap[k]? = some (.cells #[x0, x1, x2, x3, x4, x5, x6, x7, x8, x9, x10, x11, x12, x13] T (0, 0))) :
    ((((w.setCell ⟨k, 9, none⟩ b0).setCell ⟨k, 10, none⟩ b1).setCell ⟨k, 11, none⟩ b2).setCell ⟨k, 12, none⟩ b3).heap[k]? = some (.cells #[x0, x1, x2, x3, x4, x5, x6, x7, x8, b0, b1, b2, b3, x13] T (0, 0)) := block_set (block_set (block_set (block_set h)))
theorem four_offm {w : World} {k : Nat} {b0 b1 b2 b3 : Value} : Mods (fun j => j = k) w ((((w.setCell ⟨k, 9, none⟩ b0).setCell ⟨k, 10, none⟩ b1).setCell ⟨k, 11, none⟩ b2).setCell ⟨k, 12, none⟩ b3) :=
  ((((Mods.refl (fun j => j = k) w : Mods (fun j => j = k) w w).setCell (p := ⟨k, 9, none⟩) (.inl (by rfl)) _).setCell (p := ⟨k, 10, none⟩) (.inl (by rfl)) _).setCell (p := ⟨k, 11, none⟩) (.inl (by rfl)) _).setCell (p := ⟨k, 12, none⟩) (.inl (by rfl)) _
theorem six_w {w : World} {k : Nat} {T : TypeId} {x0 x1 x2 x3 x4 x5 x6 x7 x8 x9 x10 x11 x12 x13 b0 b1 b2 b3 b4 b5 : Value} (h : w.heap[k]? = some (.cells #[x0, x1, x2, x3, x4, x5, x6, x7, x8, x9, x10, x11, x12, x13] T (0, 0))) :
    ((((((w.setCell ⟨k, 3, none⟩ b0).setCell ⟨k, 4, none⟩ b1).setCell ⟨k, 5, none⟩ b2).setCell ⟨k, 6, none⟩ b3).setCell ⟨k, 7, none⟩ b4).setCell ⟨k, 8, none⟩ b5).heap[k]? = some (.cells #[x0, x1, x2, b0, b1, b2, b3, b4, b5, x9, x10, x11, x12, x13] T (0, 0)) := block_set (block_set (block_set (block_set (block_set (block_set h)))))
theorem six_wm {w : World} {k : Nat} {b0 b1 b2 b3 b4 b5 : Value} : Mods (fun j => j = k) w ((((((w.setCell ⟨k, 3, none⟩ b0).setCell ⟨k, 4, none⟩ b1).setCell ⟨k, 5, none⟩ b2).setCell ⟨k, 6, none⟩ b3).setCell ⟨k, 7, none⟩ b4).setCell ⟨k, 8, none⟩ b5) :=
  ((((((Mods.refl (fun j => j = k) w : Mods (fun j => j = k) w w).setCell (p := ⟨k, 3, none⟩) (.inl (by rfl)) _).setCell (p := ⟨k, 4, none⟩) (.inl (by rfl)) _).setCell (p := ⟨k, 5, none⟩) (.inl (by rfl)) _).setCell (p := ⟨k, 6, none⟩) (.inl (by rfl)) _).setCell (p := ⟨k, 7, none⟩) (.inl (by rfl)) _).setCell (p := ⟨k, 8, none⟩) (.inl (by rfl)) _
theorem stS_real {w : World} {bO bY bL : Nat} {lo ly : Int} {s : M13} {S : Nat → Prop} (h : RealW w bO bY bL lo ly s S) (a u : Int) (hu : U64 u) :
    Calls Try.prog 16 #[.agg #[.pointer (some ⟨bO, 0, none⟩), .pointer (some ⟨bY, 0, none⟩)], .int .i64 a, .int .u64 u] w fun e w' => e = .returned (.int .i64 (LE s.wo s.wy a)) ∧ RNx w bO bY bL lo ly ⟨stO s.wo a u, stY s.wy a u, s.op, s.top, s.nt⟩ S w' := by
  obtain ⟨lv, gO, gY, h1, h2⟩ := h
  refine (mstore_any h1.mem a u hu).mono ?_
  rintro e w' ⟨rfl, hm, hM⟩
  exact ⟨rfl, RNx.ofS h2 ⟨_, RealW.toS (h1.setMem hm hM), hM.mono (fun k hk => .inl hk), fun k hk => .inl hk⟩⟩
def stS (s : M13) (a u : Int) : M13 := ⟨stO s.wo a u, stY s.wy a u, s.op, s.top, s.nt⟩
set_option maxRecDepth 100000 in
set_option maxHeartbeats 4000000 in
theorem store_w {w : World} {n0 : Dom} {p : Nat} {lo ly nn : Int} {s : M13} (a u : Int) (hu : U64 u) (h : WW w n0 p lo ly s s nn) :
    Calls Try.prog 43 #[.pointer (some ⟨p, 0, none⟩), .int .i64 a, .int .u64 u] w fun e w' => e = .returned (.bool true) ∧ WNx w n0 p lo ly (stS s a u) (stS s a u) nn w' := by
  obtain ⟨bO, bY, bL, aO, nO, cO, aY, nY, cY, vA, vW, rO, rY, S, h⟩ := h
  have HS := Lib.hid (stS_real h.real a u hu)
  have HW := Lib.hid h
  have kp := h.blk
  unfold wc13 at kp
  have p0 : w.cell? ⟨p, 0, none⟩ = some (.pointer (some ⟨bO, 0, none⟩)) := by rw [cell_of_block kp]; rfl
  have p1 : w.cell? ⟨p, 1, none⟩ = some (.pointer (some ⟨bY, 0, none⟩)) := by rw [cell_of_block kp]; rfl
  clear h kp
  go_enter Try.func43, Try.ntmps43
  go_wp2_with fail
  refine HS.out.mono ?_
  rintro e w2 ⟨rfl, hN⟩
  obtain ⟨S2, h2, hM2, hMs⟩ := HW.out.step hN
  have HR := Lib.hid (fun W (H : Below w2.heap.size w2 W) => rmstore_any (h2.rm.below H) a u hu)
  have HW2 := Lib.hid h2
  have HM2 := Lib.hid hM2
  have kp := h2.blk
  unfold wc13 at kp
  clear hN hMs hM2
  have p3 : w2.cell? ⟨p, 3, none⟩ = some (.int .i64 0) := by rw [cell_of_block kp]; rfl
  have p4 : w2.cell? ⟨p, 4, none⟩ = some (.int .i64 lo) := by rw [cell_of_block kp]; rfl
  have p5 : w2.cell? ⟨p, 5, none⟩ = some (.slice aO nO cO) := by rw [cell_of_block kp]; rfl
  have p6 : w2.cell? ⟨p, 6, none⟩ = some (.int .i64 16777216) := by rw [cell_of_block kp]; rfl
  have p7 : w2.cell? ⟨p, 7, none⟩ = some (.int .i64 ly) := by rw [cell_of_block kp]; rfl
  have p8 : w2.cell? ⟨p, 8, none⟩ = some (.slice aY nY cY) := by rw [cell_of_block kp]; rfl
  clear h2 kp
  go_wp2_with fail
  refine (HR.out _ (by (repeat (first | exact Below.refl _ _ | assumption | refine Below.drew ?_ | refine below_drewN ?_ _ | refine balloc ?_ _ | refine Below.setCell ?_ (by first | (simp; done) | (simp; omega) | omega) _ | refine bchain (by assumption) ?_)))).mono ?_
  rintro e w3 ⟨aO', nO', cO', aY', nY', cY', rO', rY', rfl, hr3, g1, g2, hb3⟩
  have HG1 := Lib.hid g1
  have HG2 := Lib.hid g2
  have HR3 := Lib.hid hr3
  clear g1 g2 hr3
  have HW3 := Lib.hid (HW2.out.below hb3)
  have hz3 := HW3.out.plt
  go_upto_region 3 with fail
  have hb4 : Below w2.heap.size w2 (w3.alloc (.cells #[.int .i64 0, .int .i64 lo, .slice aO' nO' cO', .int .i64 16777216, .int .i64 ly, .slice aY' nY' cY'] 35)) := balloc hb3 _
  have kv : (w3.alloc (.cells #[.int .i64 0, .int .i64 lo, .slice aO' nO' cO', .int .i64 16777216, .int .i64 ly, .slice aY' nY' cY'] 35)).heap[w3.heap.size]? = some (.cells #[.int .i64 0, .int .i64 lo, .slice aO' nO' cO', .int .i64 16777216, .int .i64 ly, .slice aY' nY' cY'] 35 (0, 0)) := alloc_get _ _
  have hr4 := HR3.out.below (balloc (Below.refl _ w3) (.cells #[.int .i64 0, .int .i64 lo, .slice aO' nO' cO', .int .i64 16777216, .int .i64 ly, .slice aY' nY' cY'] 35))
  obtain ⟨V, hV⟩ : ∃ V, w3.heap.size = V := ⟨_, rfl⟩
  obtain ⟨w4, hw4⟩ : ∃ W, (w3.alloc (.cells #[.int .i64 0, .int .i64 lo, .slice aO' nO' cO', .int .i64 16777216, .int .i64 ly, .slice aY' nY' cY'] 35)) = W := ⟨_, rfl⟩
  rw [hw4] at hb4 kv hr4 ⊢
  rw [hV] at kv hz3 ⊢
  clear hw4 hV hb3
  have kp := bblock hb4 HW2.out.blk
  unfold wc13 at kp
  have hfin := HW2.out.ref (t' := stS s a u) (nn' := nn) hb4 (HW2.out.lg.below hb4) hr4 (fun k hk => by
    rcases hk with e | e | e | e
    · exact (HG1.out k e).imp .inl id
    · exact (HG2.out k e).imp (fun h => .inr (.inl h)) id
    · exact .inl (.inr (.inr (.inl e)))
    · exact .inl (.inr (.inr (.inr e)))) six_wm (six_w kp)
  have HF := Lib.hid hfin
  have pf : ∀ i, w4.frozen? ⟨p, i, none⟩ = false := frozen_of_block kp
  have c3 : w4.cell? ⟨p, 3, none⟩ = some (.int .i64 0) := by rw [cell_of_block kp]; rfl
  have c4 : w4.cell? ⟨p, 4, none⟩ = some (.int .i64 lo) := by rw [cell_of_block kp]; rfl
  have c5 : w4.cell? ⟨p, 5, none⟩ = some (.slice aO nO cO) := by rw [cell_of_block kp]; rfl
  have c6 : w4.cell? ⟨p, 6, none⟩ = some (.int .i64 16777216) := by rw [cell_of_block kp]; rfl
  have c7 : w4.cell? ⟨p, 7, none⟩ = some (.int .i64 ly) := by rw [cell_of_block kp]; rfl
  have c8 : w4.cell? ⟨p, 8, none⟩ = some (.slice aY nY cY) := by rw [cell_of_block kp]; rfl
  have v0 : w4.cell? ⟨V, 0, none⟩ = some (.int .i64 0) := by rw [cell_of_block kv]; rfl
  have v1 : w4.cell? ⟨V, 1, none⟩ = some (.int .i64 lo) := by rw [cell_of_block kv]; rfl
  have v2 : w4.cell? ⟨V, 2, none⟩ = some (.slice aO' nO' cO') := by rw [cell_of_block kv]; rfl
  have v3 : w4.cell? ⟨V, 3, none⟩ = some (.int .i64 16777216) := by rw [cell_of_block kv]; rfl
  have v4 : w4.cell? ⟨V, 4, none⟩ = some (.int .i64 ly) := by rw [cell_of_block kv]; rfl
  have v5 : w4.cell? ⟨V, 5, none⟩ = some (.slice aY' nY' cY') := by rw [cell_of_block kv]; rfl
  clear hfin kp kv hr4 hb4
  go_wp2
  go_ret
  refine ⟨by simp, HF.out.1.ww, ?_⟩
  exact HM2.out.ge HF.out.2
end Go.Proofs.Ytgipmcmmicppkaa
