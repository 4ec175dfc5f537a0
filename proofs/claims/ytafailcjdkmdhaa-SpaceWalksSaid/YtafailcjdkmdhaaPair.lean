/-
  A space and its reference, the reference in a variable of its own: what a step leaves of them. Plain laws of the model's worlds.
-/
import Derived.Test.YtafailcjdkmdhaaClone
namespace Go.Proofs.Ytafailcjdkmdhaa
open Go.RowKit
set_option linter.unusedSimpArgs false
set_option linter.unusedVariables false

/-- A space at B, its reference in the variable T, all at w0 or later. -/
structure PairIn (w0 T B : Nat) (wr : World) (A : Option Addr) (n cap : Nat) (bs lm : Int) (ws : List Int) (g gm : Option Nat) : Prop where
  len : ws.length = n
  pair : PairAt wr B (.agg #[.int .i64 bs, .int .i64 lm, .slice A n cap]) bs lm ws g gm
  box : wr.heap[T]? = some (.cells #[.int .i64 bs, .int .i64 lm, .slice A n cap] 43 (0, 0))
  gT : ∀ G, g = some G → w0 ≤ G ∧ G ≠ T
  gmT : ∀ G, gm = some G → w0 ≤ G ∧ G ≠ T
  hB : w0 ≤ B
  hT : w0 ≤ T
  hTB : T ≠ B
theorem PairIn.lt {w0 T B : Nat} {wr : World} {A : Option Addr} {n cap : Nat} {bs lm : Int} {ws : List Int} {g gm : Option Nat} (h : PairIn w0 T B wr A n cap bs lm ws g gm) : T < wr.heap.size ∧ B < wr.heap.size ∧ (∀ G, g = some G → G < wr.heap.size) ∧ (∀ G, gm = some G → G < wr.heap.size) :=
  ⟨(Array.getElem?_eq_some_iff.1 h.box).1, h.pair.sp.lt, h.pair.sp.glt, h.pair.md.lt⟩
theorem PairIn.mods {w0 T B : Nat} {wr W : World} {A : Option Addr} {n cap : Nat} {bs lm : Int} {ws : List Int} {g gm : Option Nat} {S : Nat → Prop} (h : PairIn w0 T B wr A n cap bs lm ws g gm) (hm : Mods S wr W) (hT : ¬ S T) (hB : ¬ S B) (hg : ∀ G, g = some G → ¬ S G) (hgm : ∀ G, gm = some G → ¬ S G) : PairIn w0 T B W A n cap bs lm ws g gm :=
  ⟨h.len, ⟨h.pair.sp.mods hm hB hg, h.pair.md.mods hm hgm, h.pair.ok, h.pair.ap⟩, mblock hm h.box hT, h.gT, h.gmT, h.hB, h.hT, h.hTB⟩
theorem PairIn.below {w0 T B : Nat} {wr W : World} {A : Option Addr} {n cap : Nat} {bs lm : Int} {ws : List Int} {g gm : Option Nat} (h : PairIn w0 T B wr A n cap bs lm ws g gm) (hb : Below wr.heap.size wr W) : PairIn w0 T B W A n cap bs lm ws g gm :=
  h.mods (Mods.of_below (S := fun _ => False) hb) id id (fun _ _ => id) (fun _ _ => id)
theorem PairIn.drew {w0 T B : Nat} {wr : World} {A : Option Addr} {n cap : Nat} {bs lm : Int} {ws : List Int} {g gm : Option Nat} (h : PairIn w0 T B wr A n cap bs lm ws g gm) : PairIn w0 T B wr.drew A n cap bs lm ws g gm :=
  h.below (Below.refl _ _).drew
/-- The blocks that a step may write. -/
def TS (T B : Nat) (g : Option Nat) : Nat → Prop := fun k => k = T ∨ SpS B g k
theorem heap_put3 {w : World} {T : Nat} {u v x : Value} {a b c : Value} {t : TypeId} (h : w.heap[T]? = some (.cells #[u, v, x] t (0, 0))) :
    (((w.setCell ⟨T, 0, none⟩ a).setCell ⟨T, 1, none⟩ b).setCell ⟨T, 2, none⟩ c).heap[T]? = some (.cells #[a, b, c] t (0, 0)) :=
  heap_setCell_same _ T 2 _ _ _ (heap_setCell_same _ T 1 _ _ _ (heap_setCell_same _ T 0 _ _ _ h))
theorem PairIn.stepped {w0 T B : Nat} {wr w3 : World} {A A' : Option Addr} {n cap n' cap' : Nat} {bs lm : Int} {ws ws' : List Int} {g gm g' gm' : Option Nat} (h : PairIn w0 T B wr A n cap bs lm ws g gm) (hn : ws'.length = n') (hp : PairAt w3 B (.agg #[.int .i64 bs, .int .i64 lm, .slice A' n' cap']) bs lm ws' g' gm')
    (hm : Mods (SpS B g) wr w3) (hg : ∀ G, g' = some G → g = some G ∨ wr.heap.size ≤ G) (hgm : ∀ G, gm' = some G → gm = some G ∨ wr.heap.size ≤ G) :
    PairIn w0 T B (((w3.setCell ⟨T, 0, none⟩ (.int .i64 bs)).setCell ⟨T, 1, none⟩ (.int .i64 lm)).setCell ⟨T, 2, none⟩ (.slice A' n' cap')) A' n' cap' bs lm ws' g' gm' ∧
    Mods (TS T B g) wr (((w3.setCell ⟨T, 0, none⟩ (.int .i64 bs)).setCell ⟨T, 1, none⟩ (.int .i64 lm)).setCell ⟨T, 2, none⟩ (.slice A' n' cap')) := by
  obtain ⟨l1, l2, l3, l4⟩ := h.lt
  have hTS : ¬ SpS B g T := not_sps h.hTB (fun G e => fun h' => (h.gT G e).2 h'.symm)
  have hF : Mods (fun k => k = T) w3 (((w3.setCell ⟨T, 0, none⟩ (.int .i64 bs)).setCell ⟨T, 1, none⟩ (.int .i64 lm)).setCell ⟨T, 2, none⟩ (.slice A' n' cap')) :=
    (((Mods.refl (fun k => k = T) w3).setCell (p := ⟨T, 0, none⟩) (.inl rfl) _).setCell (p := ⟨T, 1, none⟩) (.inl rfl) _).setCell (p := ⟨T, 2, none⟩) (.inl rfl) _
  have e1 : ∀ G, g' = some G → w0 ≤ G ∧ G ≠ T := fun G e => by
    rcases hg G e with h' | h'
    · exact h.gT G h'
    · have := h.hT; exact ⟨by omega, by omega⟩
  have e2 : ∀ G, gm' = some G → w0 ≤ G ∧ G ≠ T := fun G e => by
    rcases hgm G e with h' | h'
    · exact h.gmT G h'
    · have := h.hT; exact ⟨by omega, by omega⟩
  refine ⟨⟨hn, ⟨hp.sp.mods hF (fun e => h.hTB e.symm) (fun G e => (e1 G e).2), hp.md.mods hF (fun G e => (e2 G e).2), hp.ok, hp.ap⟩, heap_put3 (mblock hm h.box hTS), e1, e2, h.hB, h.hT, h.hTB⟩, ?_⟩
  exact (hm.mono (fun k hk => .inr hk)).trans hF (fun i hi => .inl (.inl hi))
theorem PairIn.cells {w0 T B : Nat} {wr : World} {A : Option Addr} {n cap : Nat} {bs lm : Int} {ws : List Int} {g gm : Option Nat} (h : PairIn w0 T B wr A n cap bs lm ws g gm) :
    wr.cell? ⟨T, 0, none⟩ = some (.int .i64 bs) ∧ wr.cell? ⟨T, 1, none⟩ = some (.int .i64 lm) ∧ wr.cell? ⟨T, 2, none⟩ = some (.slice A n cap) ∧ ∀ i, wr.frozen? ⟨T, i, none⟩ = false :=
  ⟨by rw [cell_of_block h.box]; rfl, by rw [cell_of_block h.box]; rfl, by rw [cell_of_block h.box]; rfl, frozen_of_block h.box⟩
theorem PairIn.nT {w0 T B : Nat} {wr : World} {A : Option Addr} {n cap : Nat} {bs lm : Int} {ws : List Int} {g gm : Option Nat} (h : PairIn w0 T B wr A n cap bs lm ws g gm) : ¬ SpS B g T := not_sps h.hTB (fun G e => fun h' => (h.gT G e).2 h'.symm)
/-- A step, as a contract over pairs. -/
def StepIn (w0 T B : Nat) (bs lm : Int) (g gm : Option Nat) (wr : World) (e : Ending) (w3 : World) : Prop :=
  ∃ (A' : Option Addr) (n' cap' : Nat) (ws' : List Int) (g' gm' : Option Nat), e = .returned (.tuple #[.agg #[.int .i64 bs, .int .i64 lm, .slice A' n' cap'], .bool true]) ∧ Mods (SpS B g) wr w3 ∧
    PairIn w0 T B (((w3.setCell ⟨T, 0, none⟩ (.int .i64 bs)).setCell ⟨T, 1, none⟩ (.int .i64 lm)).setCell ⟨T, 2, none⟩ (.slice A' n' cap')) A' n' cap' bs lm ws' g' gm' ∧
    Mods (TS T B g) wr (((w3.setCell ⟨T, 0, none⟩ (.int .i64 bs)).setCell ⟨T, 1, none⟩ (.int .i64 lm)).setCell ⟨T, 2, none⟩ (.slice A' n' cap')) ∧
    (∀ G, g' = some G → g = some G ∨ wr.heap.size ≤ G) ∧ (∀ G, gm' = some G → gm = some G ∨ wr.heap.size ≤ G)
theorem step_in {w0 T B : Nat} {wr : World} {A : Option Addr} {n cap : Nat} {bs lm : Int} {ws : List Int} {g gm : Option Nat} (h : PairIn w0 T B wr A n cap bs lm ws g gm) (kd k c f m s x u : Int) (hu : U64 u) :
    Calls Try.prog 17 #[.pointer (some ⟨B, 0, none⟩), .agg #[.int .i64 bs, .int .i64 lm, .slice A n cap], .agg #[.int .u8 kd, .int .i64 k, .int .i64 c, .int .i64 f, .int .i64 m, .int .i64 s, .int .i64 x, .int .u64 u]] wr (StepIn w0 T B bs lm g gm wr) := by
  refine (step_any h.pair kd k c f m s x u hu).mono ?_
  rintro e w3 ⟨v', ws', g', gm', rfl, hp, hm, hg, hgm⟩
  obtain ⟨A', cap', hv, hr⟩ := hp.md
  subst hv
  obtain ⟨p1, p2⟩ := h.stepped rfl hp hm hg hgm
  exact ⟨A', _, cap', ws', g', gm', rfl, hm, p1, p2, hg, hgm⟩
theorem TS_ge {T B b0 : Nat} {g : Option Nat} (h1 : b0 ≤ T) (h2 : b0 ≤ B) (h3 : ∀ G, g = some G → b0 ≤ G) : ∀ k, TS T B g k → b0 ≤ k := by
  rintro k (rfl | rfl | h)
  · exact h1
  · exact h2
  · exact h3 _ h
end Go.Proofs.Ytafailcjdkmdhaa
