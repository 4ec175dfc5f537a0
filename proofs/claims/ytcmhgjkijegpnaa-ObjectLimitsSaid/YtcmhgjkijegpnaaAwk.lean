/-
  refmeshlaw07.awake.
-/
import Derived.Test.YtcmhgjkijegpnaaRfK
namespace Go.Proofs.Ytcmhgjkijegpnaa
open Go.RowKit
set_option linter.unusedSimpArgs false
set_option linter.unusedVariables false

theorem mem_old' {w : World} {bO bY : Nat} {lo ly : Int} {wo wy : List Int} {gO gY : Option Nat} (hm : MemAt w bO bY lo ly wo wy gO gY) {w' : World} {wo' : List Int} (hn : SpNext w bO 0 lo wo' gO w') (hk : SpOk 0 lo wo') : ∃ gO', MemAt w' bO bY lo ly wo' wy gO' gY ∧ Mods (MS bO bY gO gY) w w' ∧ (∀ G, gO' = some G → gO = some G ∨ w.heap.size ≤ G) := by
  obtain ⟨g', hs, hM, hg⟩ := hn
  have l1 := hm.yng.lt
  have l2 := hm.yng.glt
  refine ⟨g', ⟨hs, hm.yng.mods hM (not_sps (Ne.symm hm.bb) (fun G e => fun h => hm.gb (by rw [e, h]))) (fun G e => not_sps (fun h => hm.bg (by rw [e, h])) (fun G' e' h => hm.gg G' e' (by rw [e, h]))), hk, hm.okY, hm.lim, hm.bb, fun e => ?_, hm.bg, fun G e e' => ?_⟩, hM.mono (fun k hk => .inl hk), hg⟩
  · rcases hg _ e with h | h
    · exact hm.gb h
    · omega
  · rcases hg _ e with h | h
    · exact hm.gg G h e'
    · have := l2 G e'; omega
theorem mem_yng' {w : World} {bO bY : Nat} {lo ly : Int} {wo wy : List Int} {gO gY : Option Nat} (hm : MemAt w bO bY lo ly wo wy gO gY) {w' : World} {wy' : List Int} (hn : SpNext w bY 16777216 ly wy' gY w') (hk : SpOk 16777216 ly wy') : ∃ gY', MemAt w' bO bY lo ly wo wy' gO gY' ∧ Mods (MS bO bY gO gY) w w' ∧ (∀ G, gY' = some G → gY = some G ∨ w.heap.size ≤ G) := by
  obtain ⟨g', hs, hM, hg⟩ := hn
  have l1 := hm.old.lt
  have l2 := hm.old.glt
  refine ⟨g', ⟨hm.old.mods hM (not_sps hm.bb (fun G e => fun h => hm.bg (by rw [e, h]))) (fun G e => not_sps (fun h => hm.gb (by rw [e, h])) (fun G' e' h => hm.gg G e (by rw [e', h]))), hs, hm.okO, hk, hm.lim, hm.bb, hm.gb, fun e => ?_, fun G e e' => ?_⟩, hM.mono (fun k hk => .inr hk), hg⟩
  · rcases hg _ e with h | h
    · exact hm.bg h
    · omega
  · rcases hg _ e' with h | h
    · exact hm.gg G e h
    · have := l2 G e; omega
theorem aw1 : nmL 100 = 100 := by decide
theorem aw2 : alA 0 100 [] 0 1 3 1 1 = 0 ∧ alE 0 100 [] 0 1 3 1 1 = 0 := by decide
def awO1 : List Int := alW 0 100 [] 0 1 3 1 1
def awO2 : List Int := sfO awO1 [] 0 2 5
def awO3 : List Int := (tsM awO2 [] 0 2 9).1
theorem aw3 : sfE awO1 [] 0 2 = 0 ∧ sfY awO1 [] 0 2 5 = [] := by decide
theorem aw4 : LD awO2 [] 4 = 5 ∧ LE awO2 [] 4 = 0 := by decide
theorem aw5 : tsE awO2 [] 0 2 = 0 ∧ (tsM awO2 [] 0 2 9).2 = [] := by decide
theorem aw6a : sbE awO3 [] 0 = 0 := by decide
theorem aw6 : sbN awO3 [] 0 = 2 ∧ sbU awO3 [] 0 = 9 ∧ sbE awO3 [] 0 = 0 := by
  refine ⟨?_, by decide, aw6a⟩
  unfold sbN
  rw [if_pos aw6a, show LD awO3 [] (0 + 2) = 2 by decide]
  unfold wrap64; omega
theorem aw7 : LD awO3 [] 4 = 0 ∧ LE awO3 [] 4 = 0 ∧ LD awO3 [] 3 = 9 ∧ LE awO3 [] 3 = 0 := by decide
end Go.Proofs.Ytcmhgjkijegpnaa
