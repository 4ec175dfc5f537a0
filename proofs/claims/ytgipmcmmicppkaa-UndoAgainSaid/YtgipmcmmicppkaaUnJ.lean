/-
  law 13: two worlds side by side.
-/
import Derived.Test.YtgipmcmmicppkaaUnK
namespace Go.Proofs.Ytgipmcmmicppkaa
open Go.RowKit
set_option linter.unusedSimpArgs false
set_option linter.unusedVariables false

theorem W13.frame {w w' : World} {n0 : Dom} {p : Nat} {lo ly nn : Int} {s t : M13} {bO bY bL : Nat} {aO : Option Addr} {nO cO : Nat} {aY : Option Addr} {nY cY : Nat} {vA vW : Value} {rO rY : Option Nat} {S E : Nat → Prop} (h : W13 w n0 p lo ly s t nn bO bY bL aO nO cO aY nY cY vA vW rO rY S) (hM : Mods E w w') (hE : ∀ k, k < w.heap.size → n0.D k → ¬ E k) :
    W13 w' ⟨fun k => n0.D k ∧ ¬ (w.heap.size ≤ k ∧ k < w'.heap.size), n0.T⟩ p lo ly s t nn bO bY bL aO nO cO aY nY cY vA vW rO rY S := by
  have hlt := h.rlt
  have hsz := hM.size
  have q : ∀ k, RT rO rY vA vW k → ¬ E k := fun k hk => hE k (hlt k hk) (h.rd k hk)
  exact ⟨mblock hM h.blk (hE p h.plt h.np), h.real.mods hM (fun k hk => hE k (h.real.lt k hk) (h.ns k hk)), h.lg.mods hM (fun G e => q G (.inr (.inr (.inl e)))) (fun G e => q G (.inr (.inr (.inr e)))), h.rm.mods' hM (fun G e => q G (.inl e)) (fun G e => q G (.inr (.inl e))), h.sep, h.sp,
    ⟨h.np, fun hh => by have := h.plt; omega⟩, fun k hk => ⟨h.ns k hk, fun hh => by have := h.real.lt k hk; omega⟩, fun k hk => ⟨h.nw k (by omega), fun hh => by omega⟩, h.tg, fun k hk => ⟨h.rd k hk, fun hh => by have := hlt k hk; omega⟩⟩
theorem WW.frame {w w' : World} {D : Nat → Prop} {T : Nat → Nat → Nat → Prop} {p : Nat} {lo ly nn : Int} {s t : M13} {E : Nat → Prop} (h : WW w ⟨D, T⟩ p lo ly s t nn) (hM : Mods E w w') (hE : ∀ k, k < w.heap.size → D k → ¬ E k) : WW w' ⟨fun k => D k ∧ ¬ (w.heap.size ≤ k ∧ k < w'.heap.size), T⟩ p lo ly s t nn := by
  obtain ⟨bO, bY, bL, aO, nO, cO, aY, nY, cY, vA, vW, rO, rY, S, h⟩ := h
  exact (h.frame hM hE).ww
theorem WW.setn {w : World} {n0 : Dom} {p : Nat} {lo ly nn : Int} {s t : M13} (h : WW w n0 p lo ly s t nn) (m : Int) : WNx w n0 p lo ly s t m (w.setCell ⟨p, 13, none⟩ (.int .i64 m)) := by
  obtain ⟨bO, bY, bL, aO, nO, cO, aY, nY, cY, vA, vW, rO, rY, S, h⟩ := h
  have kp := h.blk
  unfold wc13 at kp
  obtain ⟨h1, h2⟩ := h.ref (t' := t) (nn' := m) (Below.refl _ _) h.lg h.rm (fun k hk => .inl hk) ((Mods.refl (fun j => j = p) w : Mods (fun j => j = p) w w).setCell (p := ⟨p, 13, none⟩) (.inl (by rfl)) _) (block_set kp)
  exact ⟨h1.ww, h2⟩
def Tq (a b c : Nat) : Nat → Nat → Nat → Prop := fun x y z => x = a ∧ y = b ∧ z = c
theorem WW.q {w : World} {D : Nat → Prop} {x0 x1 x2 : Nat} {p : Nat} {lo ly nn : Int} {s t : M13} (h : WW w ⟨D, Tq x0 x1 x2⟩ p lo ly s t nn) : ∃ aO nO cO aY nY cY aA nA cA aW nW cW rO rY, Wx w D p lo ly s t nn ⟨x0, x1, x2, aO, nO, cO, aY, nY, cY, aA, nA, cA, aW, nW, cW, rO, rY⟩ := by
  obtain ⟨P2, hx, e0, e1, e2⟩ := h.wx
  clear h
  obtain ⟨b0, b1, b2, aO, nO, cO, aY, nY, cY, aA, nA, cA, aW, nW, cW, rO, rY⟩ := P2
  dsimp only at e0 e1 e2
  subst e0 e1 e2
  exact ⟨_, _, _, _, _, _, _, _, _, _, _, _, _, _, hx⟩
/-- Two worlds, in domains apart, both above N. -/
def TwW (w : World) (N px py : Nat) (lo ly : Int) (sx tx : M13) (nx : Int) (sy ty : M13) (ny : Int) (Tx Ty : Nat → Nat → Nat → Prop) : Prop := ∃ Dx Dy, WW w ⟨Dx, Tx⟩ px lo ly sx tx nx ∧ WW w ⟨Dy, Ty⟩ py lo ly sy ty ny ∧ (∀ k, k < w.heap.size → Dx k → ¬ Dy k) ∧ (∀ k, Dx k → N ≤ k) ∧ (∀ k, Dy k → N ≤ k)
def TwN (w : World) (N px py : Nat) (lo ly : Int) (sx tx : M13) (nx : Int) (sy ty : M13) (ny : Int) (Tx Ty : Nat → Nat → Nat → Prop) (w' : World) : Prop := TwW w' N px py lo ly sx tx nx sy ty ny Tx Ty ∧ Mods (fun k => N ≤ k) w w'
theorem TwW.swap {w : World} {N px py : Nat} {lo ly : Int} {sx tx : M13} {nx : Int} {sy ty : M13} {ny : Int} {Tx Ty : Nat → Nat → Nat → Prop} (h : TwW w N px py lo ly sx tx nx sy ty ny Tx Ty) : TwW w N py px lo ly sy ty ny sx tx nx Ty Tx := by
  obtain ⟨Dx, Dy, hx, hy, hd, h1, h2⟩ := h
  exact ⟨Dy, Dx, hy, hx, fun k hk a b => hd k hk b a, h2, h1⟩
theorem TwW.of {w w' : World} {N px py : Nat} {lo ly : Int} {sx tx : M13} {nx : Int} {sy ty : M13} {ny : Int} {Tx Ty : Nat → Nat → Nat → Prop} {Dx Dy : Nat → Prop} (hX : WNx w ⟨Dx, Tx⟩ px lo ly sx tx nx w') (hy : WW w ⟨Dy, Ty⟩ py lo ly sy ty ny) (hd : ∀ k, k < w.heap.size → Dx k → ¬ Dy k) (h1 : ∀ k, Dx k → N ≤ k) (h2 : ∀ k, Dy k → N ≤ k) : TwN w N px py lo ly sx tx nx sy ty ny Tx Ty w' :=
  ⟨⟨Dx, _, hX.1, hy.frame hX.2 (fun k hk a b => hd k hk b a), fun k hk a b => hd k (by have := b.2; omega) a b.1, h1, fun k hk => h2 k hk.1⟩, hX.2.mono h1⟩
theorem TwW.below {w : World} {N px py : Nat} {lo ly : Int} {sx tx : M13} {nx : Int} {sy ty : M13} {ny : Int} {Tx Ty : Nat → Nat → Nat → Prop} (h : TwW w N px py lo ly sx tx nx sy ty ny Tx Ty) {w' : World} (hb : Below w.heap.size w w') : TwW w' N px py lo ly sx tx nx sy ty ny Tx Ty := by
  obtain ⟨Dx, Dy, hx, hy, hd, h1, h2⟩ := h
  exact (TwW.of ⟨hx.below hb, Mods.of_below hb⟩ hy hd h1 h2).1
theorem TwW.x0 {w : World} {N px py x0 x1 x2 : Nat} {lo ly : Int} {sx tx : M13} {nx : Int} {sy ty : M13} {ny : Int} {Ty : Nat → Nat → Nat → Prop} (h : TwW w N px py lo ly sx tx nx sy ty ny (Tq x0 x1 x2) Ty) : w.cell? ⟨px, 0, none⟩ = some (.pointer (some ⟨x0, 0, none⟩)) ∧ w.cell? ⟨px, 1, none⟩ = some (.pointer (some ⟨x1, 0, none⟩)) ∧ w.cell? ⟨px, 2, none⟩ = some (.pointer (some ⟨x2, 0, none⟩)) ∧ w.cell? ⟨px, 13, none⟩ = some (.int .i64 nx) ∧ px < w.heap.size ∧ ∀ i, w.frozen? ⟨px, i, none⟩ = false := by
  obtain ⟨Dx, Dy, hx, hy, hd, h1, h2⟩ := h
  obtain ⟨_, _, _, _, _, _, _, _, _, _, _, _, _, _, h⟩ := hx.q
  exact ⟨h.c0, h.c1, h.c2, h.c13, h.plt, h.fz⟩
theorem TwW.opx {w : World} {N px py : Nat} {lo ly : Int} {sx tx : M13} {nx : Int} {sy ty : M13} {ny : Int} {Tx Ty : Nat → Nat → Nat → Prop} (h : TwW w N px py lo ly sx tx nx sy ty ny Tx Ty) {f : FuncId} {args : Array Value} {v : Value} {sx' tx' : M13} {nx' : Int} (hc : ∀ D, (∀ k, D k → N ≤ k) → WW w ⟨D, Tx⟩ px lo ly sx tx nx → Calls Try.prog f args w (fun e w' => e = .returned v ∧ WNx w ⟨D, Tx⟩ px lo ly sx' tx' nx' w')) :
    Calls Try.prog f args w (fun e w' => e = .returned v ∧ TwN w N px py lo ly sx' tx' nx' sy ty ny Tx Ty w') := by
  obtain ⟨Dx, Dy, hx, hy, hd, h1, h2⟩ := h
  refine (hc Dx h1 hx).mono ?_
  rintro e w' ⟨rfl, hX⟩
  exact ⟨rfl, TwW.of hX hy hd h1 h2⟩
theorem TwW.opy {w : World} {N px py : Nat} {lo ly : Int} {sx tx : M13} {nx : Int} {sy ty : M13} {ny : Int} {Tx Ty : Nat → Nat → Nat → Prop} (h : TwW w N px py lo ly sx tx nx sy ty ny Tx Ty) {f : FuncId} {args : Array Value} {v : Value} {sy' ty' : M13} {ny' : Int} (hc : ∀ D, (∀ k, D k → N ≤ k) → WW w ⟨D, Ty⟩ py lo ly sy ty ny → Calls Try.prog f args w (fun e w' => e = .returned v ∧ WNx w ⟨D, Ty⟩ py lo ly sy' ty' ny' w')) :
    Calls Try.prog f args w (fun e w' => e = .returned v ∧ TwN w N px py lo ly sx tx nx sy' ty' ny' Tx Ty w') := by
  refine (h.swap.opx hc).mono ?_
  rintro e w' ⟨rfl, hX⟩
  exact ⟨rfl, hX.1.swap, hX.2⟩
theorem WW.begin0 {w : World} {D : Nat → Prop} {x0 x1 x2 : Nat} {p : Nat} {lo ly nn : Int} {s t : M13} (h : WW w ⟨D, Tq x0 x1 x2⟩ p lo ly s t nn) (ho : s.op = false) : Calls Try.prog 12 #[.pointer (some ⟨x2, 0, none⟩), .agg #[.pointer (some ⟨x0, 0, none⟩), .pointer (some ⟨x1, 0, none⟩)]] w fun e w' => e = .returned (.int .i64 0) ∧ WNx w ⟨D, Tq x0 x1 x2⟩ p lo ly (bgS s) t nn w' := by
  obtain ⟨_, _, _, _, _, _, _, _, _, _, _, _, _, _, h⟩ := h.q
  refine (h.begin0 ho).mono ?_
  rintro e w' ⟨rfl, hX⟩
  exact ⟨rfl, hX.1.ww, hX.2⟩
theorem TwW.bgx {w : World} {N px py x0 x1 x2 : Nat} {lo ly : Int} {sx tx : M13} {nx : Int} {sy ty : M13} {ny : Int} {Ty : Nat → Nat → Nat → Prop} (h : TwW w N px py lo ly sx tx nx sy ty ny (Tq x0 x1 x2) Ty) (ho : sx.op = false) : Calls Try.prog 12 #[.pointer (some ⟨x2, 0, none⟩), .agg #[.pointer (some ⟨x0, 0, none⟩), .pointer (some ⟨x1, 0, none⟩)]] w fun e w' => e = .returned (.int .i64 0) ∧ TwN w N px py lo ly (bgS sx) tx nx sy ty ny (Tq x0 x1 x2) Ty w' := h.opx (fun D _ hw => hw.begin0 ho)
theorem TwW.bgy {w : World} {N px py x0 x1 x2 : Nat} {lo ly : Int} {sx tx : M13} {nx : Int} {sy ty : M13} {ny : Int} {Tx : Nat → Nat → Nat → Prop} (h : TwW w N px py lo ly sx tx nx sy ty ny Tx (Tq x0 x1 x2)) (ho : sy.op = false) : Calls Try.prog 12 #[.pointer (some ⟨x2, 0, none⟩), .agg #[.pointer (some ⟨x0, 0, none⟩), .pointer (some ⟨x1, 0, none⟩)]] w fun e w' => e = .returned (.int .i64 0) ∧ TwN w N px py lo ly sx tx nx (bgS sy) ty ny Tx (Tq x0 x1 x2) w' := h.opy (fun D _ hw => hw.begin0 ho)
theorem TwW.wds {w : World} {N px py x0 x1 x2 : Nat} {lo ly : Int} {sx tx : M13} {nx : Int} {sy ty : M13} {ny : Int} {Ty : Nat → Nat → Nat → Prop} (h : TwW w N px py lo ly sx tx nx sy ty ny (Tq x0 x1 x2) Ty) : Calls Try.prog 27 #[.agg #[.pointer (some ⟨x0, 0, none⟩), .pointer (some ⟨x1, 0, none⟩)]] w fun e w' => ∃ v1 v2, e = .returned (.tuple #[v1, v2]) ∧ WrdsV w' v1 sx.wo ∧ WrdsV w' v2 sx.wy ∧ Below w.heap.size w w' := by
  obtain ⟨Dx, Dy, hx, hy, hd, h1, h2⟩ := h
  obtain ⟨_, _, _, _, _, _, _, _, _, _, _, _, _, _, h⟩ := hx.q
  refine h.words.mono ?_
  rintro e w' ⟨v1, v2, rfl, a, b, c, _, _⟩
  exact ⟨v1, v2, rfl, a, b, c⟩
theorem TwW.setx {w : World} {N px py : Nat} {lo ly : Int} {sx tx : M13} {nx : Int} {sy ty : M13} {ny : Int} {Tx Ty : Nat → Nat → Nat → Prop} (h : TwW w N px py lo ly sx tx nx sy ty ny Tx Ty) (m : Int) : TwN w N px py lo ly sx tx m sy ty ny Tx Ty (w.setCell ⟨px, 13, none⟩ (.int .i64 m)) := by
  obtain ⟨Dx, Dy, hx, hy, hd, h1, h2⟩ := h
  exact TwW.of (hx.setn m) hy hd h1 h2
theorem TwW.start {w1 w2 : World} {N px py : Nat} {lo ly : Int} {sx tx : M13} {nx : Int} {sy ty : M13} {ny : Int} (hx : WW w1 ⟨fun k => N ≤ k, fun _ _ _ => True⟩ px lo ly sx tx nx) (hN : N ≤ w1.heap.size) (hy : WW w2 ⟨fun k => w1.heap.size ≤ k, fun _ _ _ => True⟩ py lo ly sy ty ny) (hb : Below w1.heap.size w1 w2) : ∃ x0 x1 x2 y0 y1 y2, TwW w2 N px py lo ly sx tx nx sy ty ny (Tq x0 x1 x2) (Tq y0 y1 y2) := by
  obtain ⟨P, hP, _⟩ := hx.wx
  obtain ⟨Q, hQ, _⟩ := hy.wx
  exact ⟨P.bO, P.bY, P.bL, Q.bO, Q.bY, Q.bL, _, _, hP.ww.frame (Mods.of_below (S := fun _ => False) hb) (fun _ _ _ h => h), hQ.ww, fun k hk a b => a.2 ⟨b, hk⟩, fun k hk => hk.1, fun k hk => Nat.le_trans hN hk⟩
def CutTw (wq : World) (N px py : Nat) (lo ly : Int) (sx tx : M13) (nx : Int) (sy ty : M13) (ny : Int) (Tx Ty : Nat → Nat → Nat → Prop) (_ : Value) (wx : World) : Prop := True ∧ TwN wq N px py lo ly sx tx nx sy ty ny Tx Ty wx
theorem CutTw.of {w w1 w6 : World} {N px py x0 x1 x2 : Nat} {lo ly : Int} {sx tx : M13} {nx : Int} {sy ty : M13} {ny : Int} {Ty : Nat → Nat → Nat → Prop} {Dx Dy : Nat → Prop} {aO : Option Addr} {nO cO : Nat} {aY : Option Addr} {nY cY : Nat} {aA : Option Addr} {nA cA : Nat} {aW : Option Addr} {nW cW : Nat} {rO rY : Option Nat} (h : Wx w Dx px lo ly sx tx nx ⟨x0, x1, x2, aO, nO, cO, aY, nY, cY, aA, nA, cA, aW, nW, cW, rO, rY⟩) (hy : WW w ⟨Dy, Ty⟩ py lo ly sy ty ny) (hd : ∀ k, k < w.heap.size → Dx k → ¬ Dy k) (h1 : ∀ k, Dx k → N ≤ k) (h2 : ∀ k, Dy k → N ≤ k) (hb : Below w.heap.size w w1) {a3 : Option Addr} {n3 c3 : Nat} {a4 : Option Addr} {n4 c4 : Nat} {v : Value} (hl : LgOk w1 (bgS tx) ⟨x0, x1, x2, aO, nO, cO, aY, nY, cY, aA, nA, cA, aW, nW, cW, rO, rY⟩ a3 n3 c3 a4 n4 c4 w6) :
    CutTw w N px py lo ly sx (bgS tx) nx sy ty ny (Tq x0 x1 x2) Ty v ((((w6.setCell ⟨px, 9, none⟩ (.bool (bgS tx).op)).setCell ⟨px, 10, none⟩ (.int .i64 (bgS tx).top)).setCell ⟨px, 11, none⟩ (.slice a3 n3 c3)).setCell ⟨px, 12, none⟩ (.slice a4 n4 c4)) := by
  have hr := Wx.relog (h.below hb) (t' := bgS tx) (bgS_w tx).1 (bgS_w tx).2 hl
  exact ⟨trivial, TwW.of ⟨hr.wx.ww, (Mods.of_below (S := Dx) hb).trans hr.md (fun i hi => .inl hi)⟩ hy hd h1 h2⟩
end Go.Proofs.Ytgipmcmmicppkaa
