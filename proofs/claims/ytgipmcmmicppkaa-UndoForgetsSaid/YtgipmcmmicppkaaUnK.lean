/-
  law 13: the operations of the real side, their errors known.
-/
import Derived.Test.YtgipmcmmicppkaaUnQ
namespace Go.Proofs.Ytgipmcmmicppkaa
open Go.RowKit
set_option linter.unusedSimpArgs false
set_option linter.unusedVariables false

theorem WrdsV.mods {S : Nat → Prop} {w w' : World} {v : Value} {xs : List Int} (h : WrdsV w v xs) (hM : Mods S w w') (hS : ∀ G, v.ownBlock = some G → ¬ S G) : WrdsV w' v xs := by
  obtain ⟨a, cap, rfl, h1, h2, h3⟩ := h
  refine ⟨a, cap, rfl, h1, h2, ?_⟩
  rcases h3 with h3 | ⟨b, off, rfl, h3⟩
  · exact .inl h3
  · exact .inr ⟨b, off, rfl, fun i x hx => mcell hM (h3 i x hx) (hS b rfl)⟩
theorem WrdsV.lt {w : World} {v : Value} {xs : List Int} (h : WrdsV w v xs) : xs = [] ∨ ∀ G, v.ownBlock = some G → G < w.heap.size := by
  obtain ⟨a, cap, rfl, h1, h2, h3⟩ := h
  rcases h3 with h3 | ⟨b, off, rfl, h3⟩
  · exact .inl h3
  · cases xs with
    | nil => exact .inl rfl
    | cons x xs => exact .inr fun G e => (by cases e; exact World.block_lt_of_cell? _ _ (h3 0 x rfl))
theorem WW.wxP {w : World} {D : Nat → Prop} {P : P13} {p : Nat} {lo ly nn : Int} {s t : M13} (h : WW w ⟨D, P.T⟩ p lo ly s t nn) : ∃ aO nO cO aY nY cY aA nA cA aW nW cW rO rY, Wx w D p lo ly s t nn ⟨P.bO, P.bY, P.bL, aO, nO, cO, aY, nY, cY, aA, nA, cA, aW, nW, cW, rO, rY⟩ := by
  obtain ⟨P2, h, e0, e1, e2⟩ := h.wx
  obtain ⟨b0, b1, b2, aO, nO, cO, aY, nY, cY, aA, nA, cA, aW, nW, cW, rO, rY⟩ := P2
  dsimp only at e0 e1 e2
  subst e0 e1 e2
  exact ⟨_, _, _, _, _, _, _, _, _, _, _, _, _, _, h⟩
/-- Words that lie in blocks of their own, above n. -/
def WrdsF (w : World) (n : Nat) (v : Value) (xs : List Int) : Prop := WrdsV w v xs ∧ (xs = [] ∨ ∀ G, v.ownBlock = some G → n ≤ G ∧ G < w.heap.size)
theorem WrdsF.of {w w' : World} {v : Value} {xs : List Int} (h : WrdsV w' v xs) (hf : ∀ G, v.ownBlock = some G → w.heap.size ≤ G) : WrdsF w' w.heap.size v xs := ⟨h, h.lt.imp id (fun q G e => ⟨hf G e, q G e⟩)⟩
theorem WrdsF.mods {S : Nat → Prop} {w w' : World} {n m : Nat} {v : Value} {xs : List Int} (h : WrdsF w n v xs) (hm : w.heap.size ≤ m) (hM : Mods S w w') (hS : ∀ G, S G → ¬ (n ≤ G ∧ G < m)) : WrdsF w' n v xs := by
  obtain ⟨h1, h2⟩ := h
  rcases h2 with rfl | h2
  · refine ⟨?_, .inl rfl⟩
    obtain ⟨a, cap, rfl, h1, h3, _⟩ := h1
    exact ⟨a, cap, rfl, h1, h3, .inl rfl⟩
  · exact ⟨h1.mods hM (fun G e hs => hS G hs ⟨(h2 G e).1, by have := (h2 G e).2; omega⟩), .inr fun G e => ⟨(h2 G e).1, by have := (h2 G e).2; have := hM.size; omega⟩⟩
theorem Wx.begin0 {w : World} {D : Nat → Prop} {p : Nat} {lo ly nn : Int} {s t : M13} {P : P13} (h : Wx w D p lo ly s t nn P) (ho : s.op = false) : Calls Try.prog 12 #[.pointer (some ⟨P.bL, 0, none⟩), .agg #[.pointer (some ⟨P.bO, 0, none⟩), .pointer (some ⟨P.bY, 0, none⟩)]] w fun e w' => e = .returned (.int .i64 0) ∧ WXn w D p lo ly (bgS s) t nn P w' := by
  have := h.begin
  rwa [show bgE s = 0 by unfold bgE; rw [ho]; rfl] at this
theorem Wx.begin9 {w : World} {D : Nat → Prop} {p : Nat} {lo ly nn : Int} {s t : M13} {P : P13} (h : Wx w D p lo ly s t nn P) (ho : s.op = true) : Calls Try.prog 12 #[.pointer (some ⟨P.bL, 0, none⟩), .agg #[.pointer (some ⟨P.bO, 0, none⟩), .pointer (some ⟨P.bY, 0, none⟩)]] w fun e w' => e = .returned (.int .i64 9) ∧ WXn w D p lo ly (s) t nn P w' := by
  have := h.begin
  rwa [show bgE s = 9 by unfold bgE; rw [ho]; rfl, show bgS s = s by unfold bgS; rw [ho]; rfl] at this
theorem Wx.note9 {w : World} {D : Nat → Prop} {p : Nat} {lo ly nn : Int} {s t : M13} {P : P13} (h : Wx w D p lo ly s t nn P) (a : Int) (hn : s.nt.length ≤ 100000) (ho : s.op = false) : Calls Try.prog 15 #[.pointer (some ⟨P.bL, 0, none⟩), .agg #[.pointer (some ⟨P.bO, 0, none⟩), .pointer (some ⟨P.bY, 0, none⟩)], .int .i64 a] w fun e w' => e = .returned (.int .i64 9) ∧ WXn w D p lo ly (s) t nn P w' := by
  have := h.note a hn
  rwa [show ntE s a = 9 by unfold ntE; rw [ho]; rfl, show ntS s a = s by unfold ntS; rw [ho]; rfl] at this
theorem Wx.note1 {w : World} {D : Nat → Prop} {p : Nat} {lo ly nn : Int} {s t : M13} {P : P13} (h : Wx w D p lo ly s t nn P) (a : Int) (hn : s.nt.length ≤ 100000) (ho : s.op = true) : Calls Try.prog 15 #[.pointer (some ⟨P.bL, 0, none⟩), .agg #[.pointer (some ⟨P.bO, 0, none⟩), .pointer (some ⟨P.bY, 0, none⟩)], .int .i64 a] w fun e w' => e = .returned (.int .i64 (LE s.wo s.wy a)) ∧ WXn w D p lo ly (ntS s a) t nn P w' := by
  have := h.note a hn
  rwa [show ntE s a = LE s.wo s.wy a by unfold ntE; rw [ho]; rfl] at this
theorem Wx.commit0 {w : World} {D : Nat → Prop} {p : Nat} {lo ly nn : Int} {s t : M13} {P : P13} (h : Wx w D p lo ly s t nn P) (ho : s.op = true) : Calls Try.prog 21 #[.pointer (some ⟨P.bL, 0, none⟩)] w fun e w' => e = .returned (.int .i64 0) ∧ WXn w D p lo ly ((⟨s.wo, s.wy, false, 0, []⟩ : M13)) t nn P w' := by
  have := h.commit
  rwa [show cmE s = 0 by unfold cmE; rw [ho]; rfl, show cmS s = ⟨s.wo, s.wy, false, 0, []⟩ by unfold cmS; rw [ho]; rfl] at this
theorem Wx.commit9 {w : World} {D : Nat → Prop} {p : Nat} {lo ly nn : Int} {s t : M13} {P : P13} (h : Wx w D p lo ly s t nn P) (ho : s.op = false) : Calls Try.prog 21 #[.pointer (some ⟨P.bL, 0, none⟩)] w fun e w' => e = .returned (.int .i64 9) ∧ WXn w D p lo ly (s) t nn P w' := by
  have := h.commit
  rwa [show cmE s = 9 by unfold cmE; rw [ho]; rfl, show cmS s = s by unfold cmS; rw [ho]; rfl] at this
theorem Wx.rollback9 {w : World} {D : Nat → Prop} {p : Nat} {lo ly nn : Int} {s t : M13} {P : P13} (h : Wx w D p lo ly s t nn P) (hn : s.nt.length ≤ 100000) (ho : s.op = false) : Calls Try.prog 18 #[.pointer (some ⟨P.bL, 0, none⟩), .agg #[.pointer (some ⟨P.bO, 0, none⟩), .pointer (some ⟨P.bY, 0, none⟩)]] w fun e w' => e = .returned (.int .i64 9) ∧ WXn w D p lo ly (s) t nn P w' := by
  have := h.rollback hn
  rwa [show rlE s = 9 by unfold rlE; rw [ho]; rfl, show rlS s = s by unfold rlS; rw [ho]; rfl] at this
theorem Wx.rollback0 {w : World} {D : Nat → Prop} {p : Nat} {lo ly nn : Int} {s t : M13} {P : P13} (h : Wx w D p lo ly s t nn P) {wo0 wy0 : List Int} (hn : s.nt.length ≤ 100000) (ho : Trn wo0 wy0 s) : Calls Try.prog 18 #[.pointer (some ⟨P.bL, 0, none⟩), .agg #[.pointer (some ⟨P.bO, 0, none⟩), .pointer (some ⟨P.bY, 0, none⟩)]] w fun e w' => e = .returned (.int .i64 0) ∧ WXn w D p lo ly ((⟨wo0, wy0, false, 0, []⟩ : M13)) t nn P w' := by
  have := h.rollback hn
  rwa [ho.back.1, ho.back.2] at this
theorem Wx.open0 {w : World} {D : Nat → Prop} {p : Nat} {lo ly nn : Int} {s t : M13} {P : P13} (h : Wx w D p lo ly s t nn P) (ho : s.op = false) : Calls Try.prog 22 #[.pointer (some ⟨P.bL, 0, none⟩)] w fun e w' => e = .returned (.bool false) ∧ Below w.heap.size w w' := by
  have := h.open
  rwa [ho] at this
theorem Wx.open1 {w : World} {D : Nat → Prop} {p : Nat} {lo ly nn : Int} {s t : M13} {P : P13} (h : Wx w D p lo ly s t nn P) (ho : s.op = true) : Calls Try.prog 22 #[.pointer (some ⟨P.bL, 0, none⟩)] w fun e w' => e = .returned (.bool true) ∧ Below w.heap.size w w' := by
  have := h.open
  rwa [ho] at this
theorem Wx.len0 {w : World} {D : Nat → Prop} {p : Nat} {lo ly nn : Int} {s t : M13} {P : P13} (h : Wx w D p lo ly s t nn P) (ho : s.nt = []) : Calls Try.prog 17 #[.pointer (some ⟨P.bL, 0, none⟩)] w fun e w' => e = .returned (.int .i64 0) ∧ Below w.heap.size w w' := by
  have := h.len
  rwa [ho] at this
theorem bgS_w (t : M13) : (bgS t).wo = t.wo ∧ (bgS t).wy = t.wy := by
  unfold bgS
  split <;> exact ⟨rfl, rfl⟩
def CutBg (wq : World) (D : Nat → Prop) (p : Nat) (lo ly : Int) (s t : M13) (nn : Int) (P : P13) (_ : Value) (wx : World) : Prop :=
  True ∧ ∃ a3 n3 c3 a4 n4 c4, Wx wx D p lo ly s (bgS t) nn (P.log a3 n3 c3 a4 n4 c4) ∧ Mods D wq wx
theorem CutBg.of {w w1 w6 : World} {D : Nat → Prop} {p : Nat} {lo ly nn : Int} {s t : M13} {P : P13} (h : Wx w D p lo ly s t nn P) (hd : Below w.heap.size w w1) {a3 : Option Addr} {n3 c3 : Nat} {a4 : Option Addr} {n4 c4 : Nat} {v : Value} (hl : LgOk w1 (bgS t) P a3 n3 c3 a4 n4 c4 w6) :
    CutBg w D p lo ly s t nn P v ((((w6.setCell ⟨p, 9, none⟩ (.bool (bgS t).op)).setCell ⟨p, 10, none⟩ (.int .i64 (bgS t).top)).setCell ⟨p, 11, none⟩ (.slice a3 n3 c3)).setCell ⟨p, 12, none⟩ (.slice a4 n4 c4)) := by
  have hr := Wx.relog (h.below hd) (t' := bgS t) (bgS_w t).1 (bgS_w t).2 hl
  exact ⟨trivial, _, _, _, _, _, _, hr.wx, (Mods.of_below (S := D) hd).trans hr.md (fun i hi => .inl hi)⟩
theorem trn_1 : Trn O13 N13 (bgS s13) := Trn.begin (s := s13) rfl sound_N
end Go.Proofs.Ytgipmcmmicppkaa
