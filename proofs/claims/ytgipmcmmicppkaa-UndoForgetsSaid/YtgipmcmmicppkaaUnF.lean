/-
  law 13: a world with its blocks named; the operations of the real side; open.
-/
import Derived.Test.YtgipmcmmicppkaaUnE
namespace Go.Proofs.Ytgipmcmmicppkaa
open Go.RowKit
set_option linter.unusedSimpArgs false
set_option linter.unusedVariables false

structure P13 where
  bO : Nat
  bY : Nat
  bL : Nat
  aO : Option Addr
  nO : Nat
  cO : Nat
  aY : Option Addr
  nY : Nat
  cY : Nat
  aA : Option Addr
  nA : Nat
  cA : Nat
  aW : Option Addr
  nW : Nat
  cW : Nat
  rO : Option Nat
  rY : Option Nat

def P13.T (P : P13) : Nat → Nat → Nat → Prop := fun x y z => x = P.bO ∧ y = P.bY ∧ z = P.bL
def Wx (w : World) (D : Nat → Prop) (p : Nat) (lo ly : Int) (s t : M13) (nn : Int) (P : P13) : Prop := ∃ S, W13 w ⟨D, P.T⟩ p lo ly s t nn P.bO P.bY P.bL P.aO P.nO P.cO P.aY P.nY P.cY (.slice P.aA P.nA P.cA) (.slice P.aW P.nW P.cW) P.rO P.rY S
def WXn (w : World) (D : Nat → Prop) (p : Nat) (lo ly : Int) (s t : M13) (nn : Int) (P : P13) (w' : World) : Prop := Wx w' D p lo ly s t nn P ∧ Mods D w w'
theorem WW.wx {w : World} {D : Nat → Prop} {T : Nat → Nat → Nat → Prop} {p : Nat} {lo ly nn : Int} {s t : M13} (h : WW w ⟨D, T⟩ p lo ly s t nn) : ∃ P, Wx w D p lo ly s t nn P ∧ T P.bO P.bY P.bL := by
  obtain ⟨bO, bY, bL, aO, nO, cO, aY, nY, cY, vA, vW, rO, rY, S, h⟩ := h
  obtain ⟨a1, c1, eA, _⟩ := row_form1 h.lg.at_
  obtain ⟨a2, c2, eW, _⟩ := row_form1 h.lg.wd
  subst eA eW
  exact ⟨⟨bO, bY, bL, aO, nO, cO, aY, nY, cY, a1, t.nt.length, c1, a2, t.nt.length, c2, rO, rY⟩, ⟨S, h.blk, h.real, h.lg, h.rm, h.sep, h.sp, h.np, h.ns, h.nw, ⟨rfl, rfl, rfl⟩, h.rd⟩, h.tg⟩
theorem Wx.ww {w : World} {D : Nat → Prop} {p : Nat} {lo ly nn : Int} {s t : M13} {P : P13} (h : Wx w D p lo ly s t nn P) : WW w ⟨D, P.T⟩ p lo ly s t nn := by
  obtain ⟨S, h⟩ := h
  exact h.ww
theorem Wx.below {w : World} {D : Nat → Prop} {p : Nat} {lo ly nn : Int} {s t : M13} {P : P13} (h : Wx w D p lo ly s t nn P) {w' : World} (hb : Below w.heap.size w w') : Wx w' D p lo ly s t nn P := by
  obtain ⟨S, h⟩ := h
  exact ⟨S, h.below hb⟩
theorem Wx.plt {w : World} {D : Nat → Prop} {p : Nat} {lo ly nn : Int} {s t : M13} {P : P13} (h : Wx w D p lo ly s t nn P) : p < w.heap.size := by
  obtain ⟨S, h⟩ := h
  exact h.plt
theorem Wx.pd {w : World} {D : Nat → Prop} {p : Nat} {lo ly nn : Int} {s t : M13} {P : P13} (h : Wx w D p lo ly s t nn P) : D p := by
  obtain ⟨S, h⟩ := h
  exact h.np
theorem Wx.blk {w : World} {D : Nat → Prop} {p : Nat} {lo ly nn : Int} {s t : M13} {P : P13} (h : Wx w D p lo ly s t nn P) : w.heap[p]? = some (.cells (wc13 P.bO P.bY P.bL lo ly P.aO P.nO P.cO P.aY P.nY P.cY t.op t.top (.slice P.aA P.nA P.cA) (.slice P.aW P.nW P.cW) nn) 40 (0, 0)) := by
  obtain ⟨S, h⟩ := h
  exact h.blk
theorem Wx.c0 {w : World} {D : Nat → Prop} {p : Nat} {lo ly nn : Int} {s t : M13} {P : P13} (h : Wx w D p lo ly s t nn P) : w.cell? ⟨p, 0, none⟩ = some (.pointer (some ⟨P.bO, 0, none⟩)) := by rw [cell_of_block h.blk]; rfl
theorem Wx.c1 {w : World} {D : Nat → Prop} {p : Nat} {lo ly nn : Int} {s t : M13} {P : P13} (h : Wx w D p lo ly s t nn P) : w.cell? ⟨p, 1, none⟩ = some (.pointer (some ⟨P.bY, 0, none⟩)) := by rw [cell_of_block h.blk]; rfl
theorem Wx.c2 {w : World} {D : Nat → Prop} {p : Nat} {lo ly nn : Int} {s t : M13} {P : P13} (h : Wx w D p lo ly s t nn P) : w.cell? ⟨p, 2, none⟩ = some (.pointer (some ⟨P.bL, 0, none⟩)) := by rw [cell_of_block h.blk]; rfl
theorem Wx.c3 {w : World} {D : Nat → Prop} {p : Nat} {lo ly nn : Int} {s t : M13} {P : P13} (h : Wx w D p lo ly s t nn P) : w.cell? ⟨p, 3, none⟩ = some (.int .i64 0) := by rw [cell_of_block h.blk]; rfl
theorem Wx.c4 {w : World} {D : Nat → Prop} {p : Nat} {lo ly nn : Int} {s t : M13} {P : P13} (h : Wx w D p lo ly s t nn P) : w.cell? ⟨p, 4, none⟩ = some (.int .i64 lo) := by rw [cell_of_block h.blk]; rfl
theorem Wx.c5 {w : World} {D : Nat → Prop} {p : Nat} {lo ly nn : Int} {s t : M13} {P : P13} (h : Wx w D p lo ly s t nn P) : w.cell? ⟨p, 5, none⟩ = some (.slice P.aO P.nO P.cO) := by rw [cell_of_block h.blk]; rfl
theorem Wx.c6 {w : World} {D : Nat → Prop} {p : Nat} {lo ly nn : Int} {s t : M13} {P : P13} (h : Wx w D p lo ly s t nn P) : w.cell? ⟨p, 6, none⟩ = some (.int .i64 16777216) := by rw [cell_of_block h.blk]; rfl
theorem Wx.c7 {w : World} {D : Nat → Prop} {p : Nat} {lo ly nn : Int} {s t : M13} {P : P13} (h : Wx w D p lo ly s t nn P) : w.cell? ⟨p, 7, none⟩ = some (.int .i64 ly) := by rw [cell_of_block h.blk]; rfl
theorem Wx.c8 {w : World} {D : Nat → Prop} {p : Nat} {lo ly nn : Int} {s t : M13} {P : P13} (h : Wx w D p lo ly s t nn P) : w.cell? ⟨p, 8, none⟩ = some (.slice P.aY P.nY P.cY) := by rw [cell_of_block h.blk]; rfl
theorem Wx.c9 {w : World} {D : Nat → Prop} {p : Nat} {lo ly nn : Int} {s t : M13} {P : P13} (h : Wx w D p lo ly s t nn P) : w.cell? ⟨p, 9, none⟩ = some (.bool t.op) := by rw [cell_of_block h.blk]; rfl
theorem Wx.c10 {w : World} {D : Nat → Prop} {p : Nat} {lo ly nn : Int} {s t : M13} {P : P13} (h : Wx w D p lo ly s t nn P) : w.cell? ⟨p, 10, none⟩ = some (.int .i64 t.top) := by rw [cell_of_block h.blk]; rfl
theorem Wx.c11 {w : World} {D : Nat → Prop} {p : Nat} {lo ly nn : Int} {s t : M13} {P : P13} (h : Wx w D p lo ly s t nn P) : w.cell? ⟨p, 11, none⟩ = some (.slice P.aA P.nA P.cA) := by rw [cell_of_block h.blk]; rfl
theorem Wx.c12 {w : World} {D : Nat → Prop} {p : Nat} {lo ly nn : Int} {s t : M13} {P : P13} (h : Wx w D p lo ly s t nn P) : w.cell? ⟨p, 12, none⟩ = some (.slice P.aW P.nW P.cW) := by rw [cell_of_block h.blk]; rfl
theorem Wx.c13 {w : World} {D : Nat → Prop} {p : Nat} {lo ly nn : Int} {s t : M13} {P : P13} (h : Wx w D p lo ly s t nn P) : w.cell? ⟨p, 13, none⟩ = some (.int .i64 nn) := by rw [cell_of_block h.blk]; rfl
theorem Wx.fz {w : World} {D : Nat → Prop} {p : Nat} {lo ly nn : Int} {s t : M13} {P : P13} (h : Wx w D p lo ly s t nn P) : ∀ i, w.frozen? ⟨p, i, none⟩ = false := frozen_of_block h.blk
/-- What a call of the reference leaves: the log anew. -/
def LgOk (w : World) (t' : M13) (P : P13) (a3 : Option Addr) (n3 c3 : Nat) (a4 : Option Addr) (n4 c4 : Nat) (w' : World) : Prop := LgAt w' t'.nt (.slice a3 n3 c3) (.slice a4 n4 c4) ∧ (∀ G, (Value.slice a3 n3 c3).ownBlock = some G → (Value.slice P.aA P.nA P.cA).ownBlock = some G ∨ w.heap.size ≤ G) ∧ (∀ G, (Value.slice a4 n4 c4).ownBlock = some G → (Value.slice P.aW P.nW P.cW).ownBlock = some G ∨ w.heap.size ≤ G) ∧ Below w.heap.size w w'
theorem Wx.rbegin {w : World} {D : Nat → Prop} {p : Nat} {lo ly nn : Int} {s t : M13} {P : P13} (h : Wx w D p lo ly s t nn P) : Calls Try.prog 23 #[.agg #[.bool t.op, .int .i64 t.top, .slice P.aA P.nA P.cA, .slice P.aW P.nW P.cW], .agg #[.int .i64 0, .int .i64 lo, .slice P.aO P.nO P.cO, .int .i64 16777216, .int .i64 ly, .slice P.aY P.nY P.cY]] w fun e w' => ∃ a3 n3 c3 a4 n4 c4, e = .returned (.tuple #[.agg #[.bool (bgS t).op, .int .i64 (bgS t).top, .slice a3 n3 c3, .slice a4 n4 c4], .int .i64 (bgE t)]) ∧ LgOk w (bgS t) P a3 n3 c3 a4 n4 c4 w' := by
  obtain ⟨S, h⟩ := h
  refine (rbegin_next (s := t) h.lg h.rm).mono ?_
  rintro e w' ⟨vA', vW', rfl, hl, g1, g2, hb⟩
  obtain ⟨a1, c1, eA, _⟩ := row_form1 hl.at_
  obtain ⟨a2, c2, eW, _⟩ := row_form1 hl.wd
  subst eA eW
  exact ⟨_, _, _, _, _, _, rfl, hl, g1, g2, hb⟩
def P13.log (P : P13) (a3 : Option Addr) (n3 c3 : Nat) (a4 : Option Addr) (n4 c4 : Nat) : P13 := ⟨P.bO, P.bY, P.bL, P.aO, P.nO, P.cO, P.aY, P.nY, P.cY, a3, n3, c3, a4, n4, c4, P.rO, P.rY⟩
theorem Wx.relog {w : World} {D : Nat → Prop} {p : Nat} {lo ly nn : Int} {s t : M13} {P : P13} (h : Wx w D p lo ly s t nn P) {w6 : World} {t' : M13} {a3 : Option Addr} {n3 c3 : Nat} {a4 : Option Addr} {n4 c4 : Nat} (ho : t'.wo = t.wo) (hy : t'.wy = t.wy) (hl : LgOk w t' P a3 n3 c3 a4 n4 c4 w6) : WXn w D p lo ly s t' nn (P.log a3 n3 c3 a4 n4 c4) ((((w6.setCell ⟨p, 9, none⟩ (.bool t'.op)).setCell ⟨p, 10, none⟩ (.int .i64 t'.top)).setCell ⟨p, 11, none⟩ (.slice a3 n3 c3)).setCell ⟨p, 12, none⟩ (.slice a4 n4 c4)) := by
  obtain ⟨S, h⟩ := h
  obtain ⟨hl, g1, g2, hb⟩ := hl
  have kp := bblock hb h.blk
  unfold wc13 at kp
  obtain ⟨h1, h2⟩ := h.ref (t' := t') (nn' := nn) hb hl (by rw [ho, hy]; exact h.rm.below hb) (fun k hk => by
    rcases hk with e | e | e | e
    · exact .inl (.inl e)
    · exact .inl (.inr (.inl e))
    · exact (g1 k e).imp (fun h => .inr (.inr (.inl h))) id
    · exact (g2 k e).imp (fun h => .inr (.inr (.inr h))) id) four_offm (four_off kp)
  exact ⟨⟨S, h1⟩, h2⟩
theorem WXn.pre {w w1 w2 : World} {D : Nat → Prop} {p : Nat} {lo ly nn : Int} {s t : M13} {P : P13} (hb : Below w.heap.size w w1) (h : WXn w1 D p lo ly s t nn P w2) (hD : ∀ k, w.heap.size ≤ k → D k) : WXn w D p lo ly s t nn P w2 :=
  ⟨h.1, (Mods.of_below (S := D) hb).trans h.2 (fun i hi => .inl hi)⟩
theorem Wx.real {w : World} {D : Nat → Prop} {p : Nat} {lo ly nn : Int} {s t : M13} {P : P13} (h : Wx w D p lo ly s t nn P) {f : FuncId} {args : Array Value} {v : Value} {s' : M13} (hc : ∀ S, RealW w P.bO P.bY P.bL lo ly s S → Calls Try.prog f args w (fun e w' => e = .returned v ∧ RNx w P.bO P.bY P.bL lo ly s' S w')) : Calls Try.prog f args w (fun e w' => e = .returned v ∧ WXn w D p lo ly s' t nn P w') := by
  obtain ⟨S, h⟩ := h
  refine (hc S h.real).mono ?_
  rintro e w' ⟨rfl, hN⟩
  obtain ⟨S', h1, h2, _⟩ := h.step hN
  exact ⟨rfl, ⟨S', h1⟩, h2⟩
theorem Wx.read {w : World} {D : Nat → Prop} {p : Nat} {lo ly nn : Int} {s t : M13} {P : P13} (h : Wx w D p lo ly s t nn P) {f : FuncId} {args : Array Value} {K : Ending → World → Prop} (hc : ∀ S, RealW w P.bO P.bY P.bL lo ly s S → Calls Try.prog f args w K) : Calls Try.prog f args w K := by
  obtain ⟨S, h⟩ := h
  exact hc S h.real
theorem Wx.redom {w : World} {D : Nat → Prop} {p : Nat} {lo ly nn : Int} {s t : M13} {P : P13} (h : Wx w D p lo ly s t nn P) {w' : World} (hb : Below w.heap.size w w') {D' : Nat → Prop} (hp : D' p) (hs : ∀ k, D k → k < w.heap.size → D' k) (hw : ∀ k, w'.heap.size ≤ k → D' k) : Wx w' D' p lo ly s t nn P := by
  obtain ⟨S, h⟩ := h
  have h' := h.below hb
  exact ⟨S, h'.blk, h'.real, h'.lg, h'.rm, h.sep, h.sp, hp, fun k hk => hs k (h.ns k hk) (h.real.lt k hk), hw, h.tg, fun k hk => hs k (h.rd k hk) (h.rlt k hk)⟩
theorem Wx.dom {w : World} {D : Nat → Prop} {p : Nat} {lo ly nn : Int} {s t : M13} {P : P13} (h : Wx w D p lo ly s t nn P) : ∀ k, w.heap.size ≤ k → D k := by
  obtain ⟨S, h⟩ := h
  exact h.nw
theorem sf_real {w : World} {bO bY bL : Nat} {lo ly : Int} {s : M13} {S : Nat → Prop} (h : RealW w bO bY bL lo ly s S) (a i u : Int) (hu : U64 u) :
    Calls Try.prog 20 #[.agg #[.pointer (some ⟨bO, 0, none⟩), .pointer (some ⟨bY, 0, none⟩)], .int .i64 a, .int .i64 i, .int .u64 u] w fun e w' => e = .returned (.int .i64 (sfE s.wo s.wy a i)) ∧ RNx w bO bY bL lo ly ⟨sfO s.wo s.wy a i u, sfY s.wo s.wy a i u, s.op, s.top, s.nt⟩ S w' := by
  obtain ⟨lv, gO, gY, h1, h2⟩ := h
  refine (msetf_any h1.mem a i u hu).mono ?_
  rintro e w' ⟨rfl, hm, hM⟩
  exact ⟨rfl, RNx.ofS h2 ⟨_, RealW.toS (h1.setMem hm hM), hM.mono (fun k hk => .inl hk), fun k hk => .inl hk⟩⟩
def sfS (s : M13) (a i u : Int) : M13 := ⟨sfO s.wo s.wy a i u, sfY s.wo s.wy a i u, s.op, s.top, s.nt⟩
theorem WXn.wx {w w' : World} {D : Nat → Prop} {p : Nat} {lo ly nn : Int} {s t : M13} {P : P13} (h : WXn w D p lo ly s t nn P w') : Wx w' D p lo ly s t nn P := h.1
theorem WXn.md {w w' : World} {D : Nat → Prop} {p : Nat} {lo ly nn : Int} {s t : M13} {P : P13} (h : WXn w D p lo ly s t nn P w') : Mods D w w' := h.2
theorem Wx.begin {w : World} {D : Nat → Prop} {p : Nat} {lo ly nn : Int} {s t : M13} {P : P13} (h : Wx w D p lo ly s t nn P) :
    Calls Try.prog 12 #[.pointer (some ⟨P.bL, 0, none⟩), .agg #[.pointer (some ⟨P.bO, 0, none⟩), .pointer (some ⟨P.bY, 0, none⟩)]] w fun e w' => e = .returned (.int .i64 (bgE s)) ∧ WXn w D p lo ly (bgS s) t nn P w' := h.real fun _ hr => begin_any hr
theorem Wx.note {w : World} {D : Nat → Prop} {p : Nat} {lo ly nn : Int} {s t : M13} {P : P13} (h : Wx w D p lo ly s t nn P) (a : Int) (hn : s.nt.length ≤ 100000) :
    Calls Try.prog 15 #[.pointer (some ⟨P.bL, 0, none⟩), .agg #[.pointer (some ⟨P.bO, 0, none⟩), .pointer (some ⟨P.bY, 0, none⟩)], .int .i64 a] w fun e w' => e = .returned (.int .i64 (ntE s a)) ∧ WXn w D p lo ly (ntS s a) t nn P w' := h.real fun _ hr => note_any a hr hn
theorem Wx.commit {w : World} {D : Nat → Prop} {p : Nat} {lo ly nn : Int} {s t : M13} {P : P13} (h : Wx w D p lo ly s t nn P) :
    Calls Try.prog 21 #[.pointer (some ⟨P.bL, 0, none⟩)] w fun e w' => e = .returned (.int .i64 (cmE s)) ∧ WXn w D p lo ly (cmS s) t nn P w' := h.real fun _ hr => commit_any hr
theorem Wx.rollback {w : World} {D : Nat → Prop} {p : Nat} {lo ly nn : Int} {s t : M13} {P : P13} (h : Wx w D p lo ly s t nn P) (hn : s.nt.length ≤ 100000) :
    Calls Try.prog 18 #[.pointer (some ⟨P.bL, 0, none⟩), .agg #[.pointer (some ⟨P.bO, 0, none⟩), .pointer (some ⟨P.bY, 0, none⟩)]] w fun e w' => e = .returned (.int .i64 (rlE s)) ∧ WXn w D p lo ly (rlS s) t nn P w' := h.real fun _ hr => rollback_any hr hn
theorem Wx.store {w : World} {D : Nat → Prop} {p : Nat} {lo ly nn : Int} {s t : M13} {P : P13} (h : Wx w D p lo ly s t nn P) (a u : Int) (hu : U64 u) :
    Calls Try.prog 16 #[.agg #[.pointer (some ⟨P.bO, 0, none⟩), .pointer (some ⟨P.bY, 0, none⟩)], .int .i64 a, .int .u64 u] w fun e w' => e = .returned (.int .i64 (LE s.wo s.wy a)) ∧ WXn w D p lo ly (stS s a u) t nn P w' := h.real fun _ hr => stS_real hr a u hu
theorem Wx.setf {w : World} {D : Nat → Prop} {p : Nat} {lo ly nn : Int} {s t : M13} {P : P13} (h : Wx w D p lo ly s t nn P) (a i u : Int) (hu : U64 u) :
    Calls Try.prog 20 #[.agg #[.pointer (some ⟨P.bO, 0, none⟩), .pointer (some ⟨P.bY, 0, none⟩)], .int .i64 a, .int .i64 i, .int .u64 u] w fun e w' => e = .returned (.int .i64 (sfE s.wo s.wy a i)) ∧ WXn w D p lo ly (sfS s a i u) t nn P w' := h.real fun _ hr => sf_real hr a i u hu
theorem Wx.open {w : World} {D : Nat → Prop} {p : Nat} {lo ly nn : Int} {s t : M13} {P : P13} (h : Wx w D p lo ly s t nn P) :
    Calls Try.prog 22 #[.pointer (some ⟨P.bL, 0, none⟩)] w fun e w' => e = .returned (.bool s.op) ∧ Below w.heap.size w w' := h.read fun _ hr => lopen_any hr
theorem Wx.len {w : World} {D : Nat → Prop} {p : Nat} {lo ly nn : Int} {s t : M13} {P : P13} (h : Wx w D p lo ly s t nn P) :
    Calls Try.prog 17 #[.pointer (some ⟨P.bL, 0, none⟩)] w fun e w' => e = .returned (.int .i64 s.nt.length) ∧ Below w.heap.size w w' := h.read fun _ hr => llen_any hr
theorem Wx.load {w : World} {D : Nat → Prop} {p : Nat} {lo ly nn : Int} {s t : M13} {P : P13} (h : Wx w D p lo ly s t nn P) (a : Int) :
    Calls Try.prog 14 #[.agg #[.pointer (some ⟨P.bO, 0, none⟩), .pointer (some ⟨P.bY, 0, none⟩)], .int .i64 a] w fun e w' => e = .returned (.tuple #[.int .u64 (LD s.wo s.wy a), .int .i64 (LE s.wo s.wy a)]) ∧ Below w.heap.size w w' := h.read fun _ hr => (by obtain ⟨lv, gO, gY, h1, _⟩ := hr; exact mload_any h1.mem a)
theorem Wx.field {w : World} {D : Nat → Prop} {p : Nat} {lo ly nn : Int} {s t : M13} {P : P13} (h : Wx w D p lo ly s t nn P) (a i : Int) :
    Calls Try.prog 19 #[.agg #[.pointer (some ⟨P.bO, 0, none⟩), .pointer (some ⟨P.bY, 0, none⟩)], .int .i64 a, .int .i64 i] w fun e w' => e = .returned (.tuple #[.int .u64 (FV s.wo s.wy a i), .int .i64 (FE s.wo s.wy a i)]) ∧ Below w.heap.size w w' := h.read fun _ hr => (by obtain ⟨lv, gO, gY, h1, _⟩ := hr; exact mfield_any h1.mem a i)
theorem Wx.ytop {w : World} {D : Nat → Prop} {p : Nat} {lo ly nn : Int} {s t : M13} {P : P13} (h : Wx w D p lo ly s t nn P) :
    Calls Try.prog 29 #[.pointer (some ⟨P.bY, 0, none⟩)] w fun e w' => e = .returned (.int .i64 (16777216 + s.wy.length)) ∧ Below w.heap.size w w' := h.read fun _ hr => (by obtain ⟨lv, gO, gY, h1, _⟩ := hr; exact top_any h1.mem.yng h1.mem.okY)
theorem Wx.yalloc {w : World} {D : Nat → Prop} {p : Nat} {lo ly nn : Int} {s t : M13} {P : P13} (h : Wx w D p lo ly s t nn P) (f i : Int) :
    Calls Try.prog 30 #[.pointer (some ⟨P.bY, 0, none⟩), .agg #[.int .i64 0, .int .i64 1, .int .i64 f], .agg #[.int .i64 1, .int .i64 i]] w fun e w' => e = .returned (.tuple #[.int .i64 (amA lo ly s.wo s.wy true 0 1 f 1 i), .int .i64 (amE lo ly s.wo s.wy true 0 1 f 1 i)]) ∧ WXn w D p lo ly (alS lo ly true s f i) t nn P w' := h.real fun _ hr => al_real1 hr f i
theorem Wx.words {w : World} {D : Nat → Prop} {p : Nat} {lo ly nn : Int} {s t : M13} {P : P13} (h : Wx w D p lo ly s t nn P) : Calls Try.prog 27 #[.agg #[.pointer (some ⟨P.bO, 0, none⟩), .pointer (some ⟨P.bY, 0, none⟩)]] w fun e w' => ∃ v1 v2, e = .returned (.tuple #[v1, v2]) ∧ WrdsV w' v1 s.wo ∧ WrdsV w' v2 s.wy ∧ Below w.heap.size w w' ∧ (∀ G, v1.ownBlock = some G → w.heap.size ≤ G) ∧ (∀ G, v2.ownBlock = some G → w.heap.size ≤ G) := h.read fun _ hr => (by obtain ⟨lv, gO, gY, h1, _⟩ := hr; exact words13_any h1.mem)
def L13 : Int := nmL 400
def Y13 : Int := 16777216 + nmL 400
def z13 : M13 := ⟨[], [], false, 0, []⟩
def O13 : List Int := newObj 0 1 3 1 1
def N13 : List Int := newObj 0 1 2 1 2
def s13 : M13 := ⟨O13, N13, false, 0, []⟩
set_option maxRecDepth 100000 in
theorem op13_a : stpS L13 Y13 z13 0 0 3 0 0 false = ⟨O13, [], false, 0, []⟩ := by
  have e : alE 0 L13 [] 0 1 (Int.tmod 3 6) 1 (0 + 1) = 0 := by decide
  show (⟨alW 0 L13 [] 0 1 (Int.tmod 3 6) 1 (0 + 1), [], false, 0, []⟩ : M13) = _
  unfold alW
  rw [if_pos e, List.nil_append, show Int.tmod 3 6 = 3 from rfl, show (0 : Int) + 1 = 1 from rfl]
  unfold O13
  rfl
set_option maxRecDepth 100000 in
theorem op13_b : stpS L13 Y13 ⟨O13, [], false, 0, []⟩ 1 1 2 0 0 false = s13 := by
  have e : alE 16777216 Y13 [] 0 1 (Int.tmod 2 6) 1 (1 + 1) = 0 := by decide
  show (⟨O13, alW 16777216 Y13 [] 0 1 (Int.tmod 2 6) 1 (1 + 1), false, 0, []⟩ : M13) = _
  unfold alW
  rw [if_pos e, List.nil_append, show Int.tmod 2 6 = 2 from rfl, show (1 : Int) + 1 = 2 from rfl]
  unfold s13 N13
  rfl
theorem op13_c : stpN 0 0 = 1 ∧ stpN 1 1 = 2 := by decide
set_option maxRecDepth 100000 in
set_option maxHeartbeats 4000000 in
/-- open: a new world. -/
theorem open_any (w : World) : Calls Try.prog 11 #[] w fun e w' => ∃ p, e = .returned (.tuple #[.pointer (some ⟨p, 0, none⟩), .bool true]) ∧ WW w' ⟨fun k => w.heap.size ≤ k, fun _ _ _ => True⟩ p L13 Y13 s13 s13 2 ∧ Below w.heap.size w w' := by
  have n1 := fun W => onew_any 400 W
  have n3 := fun W => rmnew_any 400 W
  unfold NewMem at n1
  unfold RNew at n3
  have hlo : nmL 400 = L13 := rfl
  have hly : 16777216 + L13 = Y13 := rfl
  rw [hlo, hly] at n1 n3
  have HST := Lib.hid (fun (W : World) (p : Nat) (h : WW W ⟨fun k => w.heap.size ≤ k, fun _ _ _ => True⟩ p L13 Y13 z13 z13 0) => step_any 0 3 0 0 false h (by omega) (by omega) (by omega) (by omega) (by omega) (U64.of (by omega) (by omega)) (by simp [z13]))
  rw [op13_a, op13_c.1] at HST
  have HSU := Lib.hid (fun (W : World) (p : Nat) (h : WW W ⟨fun k => w.heap.size ≤ k, fun _ _ _ => True⟩ p L13 Y13 ⟨O13, [], false, 0, []⟩ ⟨O13, [], false, 0, []⟩ 1) => step_any 1 2 0 0 false h (by omega) (by omega) (by omega) (by omega) (by omega) (U64.of (by omega) (by omega)) (by simp))
  rw [op13_b, op13_c.2] at HSU
  generalize L13 = lo at *
  generalize Y13 = ly at *
  clear hlo hly
  go_enter Try.func11, Try.ntmps11
  go_wp2_with fail
  refine (n1 _).mono ?_
  rintro e w1 ⟨b1, b2, hb1, hb2, rfl, hm1, hw1⟩
  clear n1
  go_wp2_with fail
  refine (lnew_any _).mono ?_
  rintro e w2 ⟨rfl, rfl⟩
  go_wp2_with fail
  refine (n3 _).mono ?_
  rintro e w3 ⟨aO, cO, aY, cY, rfl, hr3, hw3⟩
  clear n3
  have hl1 := hm1.old.lt
  have hl2 := hm1.yng.lt
  have kL := bblock hw3 (alloc_get w1 (.cells #[.bool false, .int .i64 0, .slice none 0 0] 77 (0, 0)))
  have hbA := balloc (Below.refl _ w1) (.cells #[.bool false, .int .i64 0, .slice none 0 0] 77)
  have hm3 := (hm1.below hbA).below hw3
  have hz3 : w1.heap.size < w3.heap.size := (Array.getElem?_eq_some_iff.1 kL).1
  have hB := balloc (Below.refl _ w3) (.cells #[.pointer (some ⟨b1, 0, none⟩), .pointer (some ⟨b2, 0, none⟩), .pointer (some ⟨w1.heap.size, 0, none⟩), .int .i64 0, .int .i64 lo, .slice aO 0 cO, .int .i64 16777216, .int .i64 ly, .slice aY 0 cY, .bool false, .int .i64 0, .slice none 0 0, .slice none 0 0, .int .i64 0] 40)
  have hw4 : Below w.heap.size w (w3.alloc (.cells #[.pointer (some ⟨b1, 0, none⟩), .pointer (some ⟨b2, 0, none⟩), .pointer (some ⟨w1.heap.size, 0, none⟩), .int .i64 0, .int .i64 lo, .slice aO 0 cO, .int .i64 16777216, .int .i64 ly, .slice aY 0 cY, .bool false, .int .i64 0, .slice none 0 0, .slice none 0 0, .int .i64 0] 40)) := bchain (bchain hB hw3) (bchain hbA hw1)
  have hreal : RealAt (w3.alloc (.cells #[.pointer (some ⟨b1, 0, none⟩), .pointer (some ⟨b2, 0, none⟩), .pointer (some ⟨w1.heap.size, 0, none⟩), .int .i64 0, .int .i64 lo, .slice aO 0 cO, .int .i64 16777216, .int .i64 ly, .slice aY 0 cY, .bool false, .int .i64 0, .slice none 0 0, .slice none 0 0, .int .i64 0] 40)) b1 b2 w1.heap.size lo ly z13 (.slice none 0 0) none none := ⟨hm3.below hB, bblock hB kL, World.ownsRow_nil _ _ _ _, fun x hx => (by cases hx), fun hk => (by rcases hk with (h | h) | (h | h) <;> first | omega | cases h), fun G e => (by cases e)⟩
  have hW : W13 (w3.alloc (.cells #[.pointer (some ⟨b1, 0, none⟩), .pointer (some ⟨b2, 0, none⟩), .pointer (some ⟨w1.heap.size, 0, none⟩), .int .i64 0, .int .i64 lo, .slice aO 0 cO, .int .i64 16777216, .int .i64 ly, .slice aY 0 cY, .bool false, .int .i64 0, .slice none 0 0, .slice none 0 0, .int .i64 0] 40)) ⟨fun k => w.heap.size ≤ k, fun _ _ _ => True⟩ w3.heap.size lo ly z13 z13 0 b1 b2 w1.heap.size aO 0 cO aY 0 cY (.slice none 0 0) (.slice none 0 0) none none (RS b1 b2 w1.heap.size (.slice none 0 0) none none) :=
    ⟨alloc_get _ _, RealW.toS hreal, LgAt.nil _, hr3.below hB, fun k hk => (by rcases hk with h | h | h | h <;> cases h), fun hk => (by rcases hk with ((h | h) | (h | h)) | (h | h) <;> first | omega | cases h), (by have := hw1.size; show w.heap.size ≤ w3.heap.size; omega), fun k hk => (by have := hw1.size; show w.heap.size ≤ k; rcases hk with ((h | h) | (h | h)) | (h | h) <;> first | omega | cases h), fun k hk => (by have := hw4.size; show w.heap.size ≤ k; omega), trivial, fun k hk => (by rcases hk with h | h | h | h <;> cases h)⟩
  have HW := Lib.hid hW
  have HB4 := Lib.hid hw4
  have kp := hW.blk
  unfold wc13 at kp
  clear hW hreal hm3 hm1 hr3 kL hB hbA hw1 hw3 hw4 hb1 hb2 hl1 hl2 hz3
  go_upto_region 2 with fail
  obtain ⟨w4, hw4⟩ : ∃ W, (w3.alloc (.cells #[.pointer (some ⟨b1, 0, none⟩), .pointer (some ⟨b2, 0, none⟩), .pointer (some ⟨w1.heap.size, 0, none⟩), .int .i64 0, .int .i64 lo, .slice aO 0 cO, .int .i64 16777216, .int .i64 ly, .slice aY 0 cY, .bool false, .int .i64 0, .slice none 0 0, .slice none 0 0, .int .i64 0] 40)) = W := ⟨_, rfl⟩
  rw [hw4] at HW HB4 kp ⊢
  obtain ⟨p, hp⟩ : ∃ p, w3.heap.size = p := ⟨_, rfl⟩
  rw [hp] at HW kp ⊢
  have hpz : p < w4.heap.size := HW.out.plt
  have p0 : w4.cell? ⟨p, 0, none⟩ = some (.pointer (some ⟨b1, 0, none⟩)) := by rw [cell_of_block kp]; rfl
  have p1 : w4.cell? ⟨p, 1, none⟩ = some (.pointer (some ⟨b2, 0, none⟩)) := by rw [cell_of_block kp]; rfl
  have p2 : w4.cell? ⟨p, 2, none⟩ = some (.pointer (some ⟨w1.heap.size, 0, none⟩)) := by rw [cell_of_block kp]; rfl
  clear hw4 hp kp
  go_wp2_with fail
  refine (HST.out _ _ HW.out.ww).mono ?_
  rintro e w5 ⟨rfl, h5⟩
  have H5 := Lib.hid h5
  clear h5
  go_wp2_with fail
  refine (HSU.out _ _ H5.out.1).mono ?_
  rintro e w6 ⟨rfl, h6⟩
  have HF := Lib.hid (H5.out.trans h6)
  clear h6
  go_wp2
  refine bodyPost_ret (v := .tuple #[.pointer (some ⟨p, 0, none⟩), .bool true]) (by simp [results, Try.results11, go_sem]) rfl ?_
  exact ⟨p, rfl, HF.out.1, HB4.out.trans (HF.out.2.below HB4.out.size (fun k hk => hk))⟩
end Go.Proofs.Ytgipmcmmicppkaa
