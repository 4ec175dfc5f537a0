/-
  (*Space).Alloc at every space that has room.
-/
import Derived.Test.YtcmhgjkijegpnaaSp5
namespace Go.Proofs.Ytcmhgjkijegpnaa
open Go.RowKit
set_option linter.unusedSimpArgs false
set_option linter.unusedVariables false

theorem alloc_ok {w : World} {b : Nat} {bs lm : Int} {ws : List Int} {g : Option Nat} (hs : SpAt w b bs lm ws g) (hk : SpOk bs lm ws) (k c f m s : Int) (h : hvB k c f = true) (hi : idB m s = true) (hf : bs + ws.length + wordsI f ≤ lm) :
    Calls Try.prog 13 #[.pointer (some ⟨b, 0, none⟩), .agg #[.int .i64 k, .int .i64 c, .int .i64 f], .agg #[.int .i64 m, .int .i64 s]] w (AllocOk w b bs lm ws g k c f m s) := by
  have hs' := hs
  obtain ⟨a, cap, e1, _⟩ := hs'
  by_cases hc : ws.length + (wordsI f).toNat ≤ cap
  · refine alloc_room hs hk k c f m s h hi hf (fun a' cap' e => ?_)
    rw [e1] at e
    simp only [Option.some.injEq, Obj.cells.injEq, Array.mk.injEq, List.cons.injEq, Value.slice.injEq] at e
    omega
  · refine alloc_grow hs hk k c f m s h hi hf (fun a' cap' e => ?_)
    rw [e1] at e
    simp only [Option.some.injEq, Obj.cells.injEq, Array.mk.injEq, List.cons.injEq, Value.slice.injEq] at e
    omega
theorem newObj_len {k c f m s : Int} (h : hvB k c f = true) : ((newObj k c f m s).length : Int) = wordsI f := by
  have := wordsI_bd h
  unfold newObj
  simp
  omega
theorem newObj_u64 {k c f m s : Int} (h : hvB k c f = true) (hi : idB m s = true) : ∀ x ∈ newObj k c f m s, U64 x := by
  have h1 := encI_bd h
  have h2 := idI_bd hi
  intro x hx
  unfold newObj at hx
  simp only [List.mem_cons, List.mem_replicate] at hx
  rcases hx with rfl | rfl | ⟨_, rfl⟩ <;> exact U64.of (by omega) (by omega)
theorem SpOk.grow {bs lm : Int} {ws : List Int} (hk : SpOk bs lm ws) {k c f m s : Int} (h : hvB k c f = true) (hi : idB m s = true) (hf : bs + ws.length + wordsI f ≤ lm) : SpOk bs lm (ws ++ newObj k c f m s) := by
  obtain ⟨b0, b1, b2, b3⟩ := hk
  refine ⟨b0, ?_, b2, ?_⟩
  · rw [List.length_append, Int.natCast_add, newObj_len h]
    omega
  · intro x hx
    rcases List.mem_append.1 hx with hx | hx
    · exact b3 x hx
    · exact newObj_u64 h hi x hx
/-- A new space, as a space in memory. -/
theorem sp_new (w : World) (bs lm : Int) : SpAt (w.alloc (.cells #[.int .i64 bs, .int .i64 lm, .slice none 0 0] 88)) w.heap.size bs lm [] none :=
  ⟨none, 0, alloc_get _ _, ⟨by simp, by omega, .inl ⟨rfl, rfl⟩⟩, by simp⟩

theorem not_sps {b k : Nat} {g : Option Nat} (h1 : k ≠ b) (h2 : ∀ G, g = some G → k ≠ G) : ¬ SpS b g k := by
  rintro (h | h)
  · exact h1 h
  · exact h2 _ h rfl
theorem sps_ge {b B : Nat} {g : Option Nat} (h1 : B ≤ b) (h2 : ∀ G, g = some G → B ≤ G) : ∀ k, SpS b g k → B ≤ k := by
  rintro k (rfl | h)
  · exact h1
  · exact h2 _ h
theorem later {B n : Nat} {g g' : Option Nat} (hg : ∀ G, g' = some G → g = some G ∨ n ≤ G) (h : ∀ G, g = some G → B ≤ G) (hB : B ≤ n) : ∀ G, g' = some G → B ≤ G := fun G e => by
  rcases hg G e with h' | h'
  · exact h G h'
  · omega
theorem none_ge {B : Nat} : ∀ G, (none : Option Nat) = some G → B ≤ G := fun G h => by cases h

end Go.Proofs.Ytcmhgjkijegpnaa
