/-
  refmeshlaw07.step: which blocks an operation on objects writes.
-/
import Derived.Test.YtcmhgjkijegpnaaGI
namespace Go.Proofs.Ytcmhgjkijegpnaa
open Go.RowKit
set_option linter.unusedSimpArgs false
set_option linter.unusedVariables false

/-- A world of law 07 in block p whose memory lies in the blocks bO, bY, gO, gY and whose list is lv. -/
def StR (w' : World) (n0 p bO bY : Nat) (lo ly : Int) (lv : Value) (gO gY : Option Nat) (x' : S7) : Prop :=
  ∃ (aO : Option Addr) (nO cO : Nat) (aY : Option Addr) (nY cY : Nat) (rO rY : Option Nat), w'.heap[p]? = some (.cells (wcs bO bY lo ly aO nO cO aY nY cY lv) 47 (0, 0)) ∧ WIn w' n0 bO bY lo ly x' aO nO cO aY nY cY lv gO gY rO rY ∧ ∀ G, MS bO bY gO gY G ∨ rO = some G ∨ rY = some G ∨ lv.ownBlock = some G → G ≠ p
/-- What an operation on objects comes to. -/
def StQ (w : World) (n0 p bO bY : Nat) (lo ly : Int) (lv : Value) (gO gY : Option Nat) (x' : S7) (e : Ending) (w' : World) : Prop := e = .returned (.bool true) ∧ StR w' n0 p bO bY lo ly lv gO gY x' ∧ Mods (fun k => k = p ∨ MS bO bY gO gY k) w w'
theorem StQ.to {w w' : World} {n0 p bO bY : Nat} {lo ly : Int} {lv : Value} {gO gY : Option Nat} {x' : S7} {e : Ending} (h : StQ w n0 p bO bY lo ly lv gO gY x' e w') (hp0 : n0 ≤ p) (hms : ∀ k, MS bO bY gO gY k → n0 ≤ k) : StP w n0 p lo ly x' e w' := by
  obtain ⟨h1, ⟨aO, nO, cO, aY, nY, cY, rO, rY, h2, h3, h4⟩, h5⟩ := h
  exact ⟨h1, ⟨bO, bY, aO, nO, cO, aY, nY, cY, lv, gO, gY, rO, rY, hp0, h2, h3, h4⟩, h5.mono (fun k hk => hk.elim (fun e => by omega) (hms k))⟩
/-- The reference was handed back (w2), laid into the world's block (w3), the memory was written (w4). -/
theorem WAt.finQ {w w2 w3 w4 : World} {n0 p bO bY : Nat} {lo ly : Int} {x : S7} {aO : Option Addr} {nO cO : Nat} {aY : Option Addr} {nY cY : Nat} {lv : Value} {gO gY rO rY : Option Nat} (h : WIn w n0 bO bY lo ly x aO nO cO aY nY cY lv gO gY rO rY) (hn : n0 ≤ w.heap.size) (hp0 : n0 ≤ p) (hp1 : p < w.heap.size)
    (hsep : ∀ G, MS bO bY gO gY G ∨ rO = some G ∨ rY = some G ∨ lv.ownBlock = some G → G ≠ p) {wo' wy' : List Int} {aO' : Option Addr} {nO' cO' : Nat} {aY' : Option Addr} {nY' cY' : Nat} {rO' rY' : Option Nat}
    (hb2 : Below w.heap.size w w2) (hr : RMem w2 aO' nO' cO' aY' nY' cY' lo ly wo' wy' rO' rY') (h1 : ∀ G, rO' = some G → rO = some G ∨ w.heap.size ≤ G) (h2 : ∀ G, rY' = some G → rY = some G ∨ w.heap.size ≤ G)
    (hM3 : Mods (fun k => k = p) w2 w3) (hm4 : MemAt w4 bO bY lo ly wo' wy' gO gY) (hM4 : Mods (MS bO bY gO gY) w3 w4)
    (hp3 : w3.heap[p]? = some (.cells (wcs bO bY lo ly aO' nO' cO' aY' nY' cY' lv) 47 (0, 0))) : StR w4 n0 p bO bY lo ly lv gO gY ⟨wo', wy', x.l⟩ ∧ Mods (fun k => k = p ∨ MS bO bY gO gY k) w w4 := by
  have hl := h.lt
  have hfr := h.mem.fresh
  have hpm : ¬ MS bO bY gO gY p := fun e => hsep p (.inl e) rfl
  have q1 : ∀ G, rO' = some G → G ≠ p ∧ ¬ MS bO bY gO gY G := fun G e => by
    rcases h1 G e with e' | e'
    · exact ⟨hsep G (.inr (.inl e')), h.rr G (.inl e')⟩
    · exact ⟨by omega, hfr G e'⟩
  have q2 : ∀ G, rY' = some G → G ≠ p ∧ ¬ MS bO bY gO gY G := fun G e => by
    rcases h2 G e with e' | e'
    · exact ⟨hsep G (.inr (.inr (.inl e'))), h.rr G (.inr (.inl e'))⟩
    · exact ⟨by omega, hfr G e'⟩
  have hr4 := (hr.mods hM3 (fun G e => (q1 G e).1) (fun G e => (q2 G e).1)).mods hM4 (fun G e => (q1 G e).2) (fun G e => (q2 G e).2)
  have hl4 : w4.ownsRow n0 3 1 lv x.l.length (x.l.map (Value.int .i64)) := row_keep h.lst (fun G o e ho => mblock hM4 (mblock hM3 (bblock hb2 ho) (hsep G (.inr (.inr (.inr e))))) (h.rr G (.inr (.inr e))))
  refine ⟨⟨aO', nO', cO', aY', nY', cY', rO', rY', mblock hM4 hp3 hpm, ⟨hm4, hr4, hl4, h.ms, ?_, ?_⟩, ?_⟩, ?_⟩
  · rintro G (e | e | e)
    · exact (q1 G e).2
    · exact (q2 G e).2
    · exact h.rr G (.inr (.inr e))
  · intro G e
    have h5 := hl G (.inr (.inr (.inr e)))
    exact ⟨fun e' => (h1 G e').elim (h.rl G e).1 (fun e2 => by omega), fun e' => (h2 G e').elim (h.rl G e).2 (fun e2 => by omega)⟩
  · rintro G (e | e | e | e)
    · exact hsep G (.inl e)
    · exact (q1 G e).1
    · exact (q2 G e).1
    · exact hsep G (.inr (.inr (.inr e)))
  · refine Mods.trans (S1 := MS bO bY gO gY) (Mods.trans (S := fun k => k = p ∨ MS bO bY gO gY k) (S1 := fun k => k = p) (Mods.of_below hb2) hM3 (fun i hi => .inl (.inl hi))) hM4 (fun i hi => .inl (.inr hi))
end Go.Proofs.Ytcmhgjkijegpnaa
