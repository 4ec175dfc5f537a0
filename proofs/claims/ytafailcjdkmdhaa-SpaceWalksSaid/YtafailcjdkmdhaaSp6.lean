/-
  (*Space).Alloc at every space that has room; the example of the chapter.
-/
import Derived.Test.YtafailcjdkmdhaaSp5
namespace Go.Proofs.Ytafailcjdkmdhaa
open Go.RowKit
set_option linter.unusedSimpArgs false
set_option linter.unusedVariables false

theorem alloc_ok {w : World} {b : Nat} {bs lm : Int} {ws : List Int} {g : Option Nat} (hs : SpAt w b bs lm ws g) (hk : SpOk bs lm ws) (k c f m s : Int) (h : hvB k c f = true) (hi : idB m s = true) (hf : bs + ws.length + wordsI f ≤ lm) :
    Calls Try.prog 15 #[.pointer (some ⟨b, 0, none⟩), .agg #[.int .i64 k, .int .i64 c, .int .i64 f], .agg #[.int .i64 m, .int .i64 s]] w (AllocOk w b bs lm ws g k c f m s) := by
  have hs' := hs
  obtain ⟨a, cap, e1, _⟩ := hs'
  by_cases hc : ws.length + (wordsI f).toNat ≤ cap
  · refine alloc_room hs hk k c f m s h hi hf (fun a' cap' e => ?_)
    rw [e1] at e
    simp only [Option.some.injEq, Obj.cells.injEq, Array.mk.injEq, List.cons.injEq, Value.slice.injEq] at e
    omega
  · refine alloc_grow hs hk k c f m s h hi hf (fun a' cap' e => ?_)
    rw [e1] at e
    simp only [Option.some.injEq, Obj.cells.injEq, Array.mk.injEq, List.cons.injEq, Value.slice.injEq] at e
    omega
theorem newObj_len {k c f m s : Int} (h : hvB k c f = true) : ((newObj k c f m s).length : Int) = wordsI f := by
  have := wordsI_bd h
  unfold newObj
  simp
  omega
theorem newObj_u64 {k c f m s : Int} (h : hvB k c f = true) (hi : idB m s = true) : ∀ x ∈ newObj k c f m s, U64 x := by
  have h1 := encI_bd h
  have h2 := idI_bd hi
  intro x hx
  unfold newObj at hx
  simp only [List.mem_cons, List.mem_replicate] at hx
  rcases hx with rfl | rfl | ⟨_, rfl⟩ <;> exact U64.of (by omega) (by omega)
theorem SpOk.grow {bs lm : Int} {ws : List Int} (hk : SpOk bs lm ws) {k c f m s : Int} (h : hvB k c f = true) (hi : idB m s = true) (hf : bs + ws.length + wordsI f ≤ lm) : SpOk bs lm (ws ++ newObj k c f m s) := by
  obtain ⟨b0, b1, b2, b3⟩ := hk
  refine ⟨b0, ?_, b2, ?_⟩
  · rw [List.length_append, Int.natCast_add, newObj_len h]
    omega
  · intro x hx
    rcases List.mem_append.1 hx with hx | hx
    · exact b3 x hx
    · exact newObj_u64 h hi x hx
/-- A new space, as a space in memory. -/
theorem sp_new (w : World) (bs lm : Int) : SpAt (w.alloc (.cells #[.int .i64 bs, .int .i64 lm, .slice none 0 0] 71)) w.heap.size bs lm [] none :=
  ⟨none, 0, alloc_get _ _, ⟨by simp, by omega, .inl ⟨rfl, rfl⟩⟩, by simp⟩

theorem not_sps {b k : Nat} {g : Option Nat} (h1 : k ≠ b) (h2 : ∀ G, g = some G → k ≠ G) : ¬ SpS b g k := by
  rintro (h | h)
  · exact h1 h
  · exact h2 _ h rfl
theorem sps_ge {b B : Nat} {g : Option Nat} (h1 : B ≤ b) (h2 : ∀ G, g = some G → B ≤ G) : ∀ k, SpS b g k → B ≤ k := by
  rintro k (rfl | h)
  · exact h1
  · exact h2 _ h
theorem later {B n : Nat} {g g' : Option Nat} (hg : ∀ G, g' = some G → g = some G ∨ n ≤ G) (h : ∀ G, g = some G → B ≤ G) (hB : B ≤ n) : ∀ G, g' = some G → B ≤ G := fun G e => by
  rcases hg G e with h' | h'
  · exact h G h'
  · omega
theorem none_ge {B : Nat} : ∀ G, (none : Option Nat) = some G → B ≤ G := fun G h => by cases h

set_option maxRecDepth 100000 in
theorem awake6 (w : World) : Calls Try.prog 9 #[] w fun e w' => e = .returned (.bool true) ∧ Below w.heap.size w w' := by
  have n1 := fun W => new_any 100 110 W
  rw [show max (100 : Int) 0 = 100 by decide, show newLm 100 110 = 110 by decide] at n1
  go_enter Try.func9, Try.ntmps9
  go_wp2_with fail
  refine (n1 _).mono ?_
  rintro e w1 ⟨rfl, hw1⟩
  have hs := sp_new w 100 110
  rw [hw1] at hs
  have hb1 : Below w.heap.size w w1 := by rw [← hw1]; exact balloc (Below.refl _ _) _
  have hz1 : w.heap.size < w1.heap.size := hs.lt
  clear n1 hw1
  have hk : SpOk 100 110 [] := ⟨by omega, by simp, by omega, by simp⟩
  have hs1 : SpAt (w1.alloc (.cells #[.int .i64 1, .int .i64 1] 31)) w.heap.size 100 110 [] none := hs.below (balloc (Below.refl _ _) _)
  go_wp2_with fail
  refine (alloc_ok hs1 hk 0 1 3 1 1 (by decide) (by decide) (by decide)).mono ?_
  rintro e w2 ⟨rfl, g2, hs2, hm2, hg2⟩
  have hz2 : w1.heap.size + 1 ≤ w2.heap.size := by have := hm2.size; simpa using this
  have hG2 : ∀ G, g2 = some G → w1.heap.size + 1 ≤ G := later hg2 none_ge (by simp)
  have n2 : ¬ SpS w.heap.size (none : Option Nat) w1.heap.size := not_sps (by omega) (fun G h => by cases h)
  have p0 : w2.cell? ⟨w1.heap.size, 0, none⟩ = some (.int .i64 1) := mcell hm2 (by simp) n2
  have p1 : w2.cell? ⟨w1.heap.size, 1, none⟩ = some (.int .i64 1) := mcell hm2 (by simp) n2
  have hk2 := hk.grow (k := 0) (c := 1) (f := 3) (m := 1) (s := 1) (by decide) (by decide) (by decide)
  have hb2 : Below w.heap.size w w2 := (balloc hb1 _).trans (hm2.below (by simp; omega) (sps_ge (Nat.le_refl _) none_ge))
  have hl2 : (([] : List Int) ++ newObj 0 1 3 1 1).length = 5 := by decide
  generalize ([] : List Int) ++ newObj 0 1 3 1 1 = ws2 at *
  clear hm2 hg2 hs1 hs
  go_wp2_with fail
  refine (alloc_ok hs2 hk2 0 1 0 1 1 (by decide) (by decide) (by rw [hl2]; decide)).mono ?_
  rintro e w3 ⟨rfl, g3, hs3, hm3, hg3⟩
  have hz3 : w2.heap.size ≤ w3.heap.size := hm3.size
  have hG3 : ∀ G, g3 = some G → w1.heap.size + 1 ≤ G := later hg3 hG2 (by omega)
  have n3 : ¬ SpS w.heap.size g2 w1.heap.size := not_sps (by omega) (fun G h => by have := hG2 G h; omega)
  have q0 := mcell hm3 p0 n3
  have q1 := mcell hm3 p1 n3
  have hk3 := hk2.grow (k := 0) (c := 1) (f := 0) (m := 1) (s := 1) (by decide) (by decide) (by rw [hl2]; decide)
  have hb3 : Below w.heap.size w w3 := hb2.trans (hm3.below (by omega) (sps_ge (Nat.le_refl _) (fun G h => by have := hG2 G h; omega)))
  have hl3 : (ws2 ++ newObj 0 1 0 1 1).length = 9 := by rw [List.length_append, hl2]; decide
  generalize ws2 ++ newObj 0 1 0 1 1 = ws3 at *
  clear hm3 hg3 hs2 p0 p1 n3 hk2 hb2
  go_wp2_with fail
  refine (alloc_full hs3 hk3 0 1 0 1 1 (by decide) (by decide) (by rw [hl3]; decide)).mono ?_
  rintro e w4 ⟨rfl, hb4⟩
  have hs4 := hs3.below hb4
  have ht := top_any hs4 hk3
  rw [hl3] at ht
  clear hs3 hs4 q0 q1
  go_wp2_with fail
  refine ht.mono ?_
  rintro e w5 ⟨rfl, hb5⟩
  go_wp2
  go_ret
  exact ⟨rfl, by (repeat (first | exact Below.refl _ _ | assumption | refine Below.drew ?_ | refine below_drewN ?_ _ | refine balloc ?_ _ | refine Below.setCell ?_ (by first | (simp; done) | (simp; omega) | omega) _ | refine bchain (by assumption) ?_))⟩
end Go.Proofs.Ytafailcjdkmdhaa
