/-
  Bounds of what refmeshtop.memory makes.
-/
import Derived.Test.YtgjaafcagnkfdaaTsQ
namespace Go.Proofs.Ytgjaafcagnkfdaa
open Go.RowKit Go.Maps
set_option linter.unusedSimpArgs false
set_option linter.unusedVariables false

theorem al_bd {bs lm : Int} {ws : List Int} {k c f m s : Int} (h0 : 0 ≤ bs) (h : alE bs lm ws k c f m s = 0) : 0 ≤ alA bs lm ws k c f m s ∧ alA bs lm ws k c f m s ≤ lm := by
  have h' := h
  unfold alE at h'
  unfold alA
  rw [if_pos h]
  cases h1 : hvB k c f <;> rw [h1] at h' <;> simp at h'
  have := wordsI_bd h1
  omega
structure MBd (s : MmS) (n : Nat) : Prop where
  a : s.l.length ≤ n
  b : s.rt.length ≤ n
  c : s.ca.length ≤ n
  d : ∀ x ∈ s.l, 0 ≤ x ∧ x ≤ 16779216
theorem mPk_mem {l : List Int} (h : l.length ≠ 0) (A : Int) : mPk l A ∈ l := by
  have hlt : A.toNat % l.length < l.length := Nat.mod_lt _ (by omega)
  unfold mPk
  rw [List.getD_eq_getElem?_getD, List.getElem?_eq_getElem hlt]
  exact List.getElem_mem _
theorem MBd.step {s : MmS} {n : Nat} (h : MBd s n) (o : OpC) : MBd (mst s o) (n + 1) := by
  have hs : MBd s (n + 1) := ⟨by have := h.a; omega, by have := h.b; omega, by have := h.c; omega, h.d⟩
  have hk : ∀ a i u, (bsK s.wo s.wy s.ca a i u).length ≤ n + 1 := fun a i u => by
    unfold bsK
    split
    · simp; exact h.c
    · have := h.c; omega
  unfold mst
  split
  · unfold mAl
    split
    · refine ⟨?_, hs.b, hs.c, ?_⟩
      · dsimp only
        split
        · simp; exact h.a
        · have := h.a; omega
      · dsimp only
        split
        · rename_i he
          intro x hx
          rcases List.mem_append.1 hx with e | e
          · exact h.d x e
          · rw [List.mem_singleton.1 e]; have := al_bd (by omega) he; omega
        · exact h.d
    · refine ⟨?_, hs.b, hs.c, ?_⟩
      · dsimp only
        split
        · simp; exact h.a
        · have := h.a; omega
      · dsimp only
        split
        · rename_i he
          intro x hx
          rcases List.mem_append.1 hx with e | e
          · exact h.d x e
          · rw [List.mem_singleton.1 e]; have := al_bd (by omega) he; omega
        · exact h.d
  · split
    · exact hs
    · split
      · exact ⟨hs.a, hs.b, hk _ _ _, hs.d⟩
      · split
        · exact ⟨hs.a, hs.b, hk _ _ _, hs.d⟩
        · split
          · exact ⟨hs.a, by unfold mRt; simp; exact h.b, hs.c, hs.d⟩
          · exact hs
theorem mrun_bd (l : List OpC) : ∀ t : Nat, t ≤ l.length → MBd (mrun (l.take t)) t := by
  intro t
  induction t with
  | zero => intro _; exact ⟨Nat.le_refl _, Nat.le_refl _, Nat.le_refl _, fun x hx => by cases hx⟩
  | succ t ih =>
    intro h
    rw [take_snoc7 (List.getElem?_eq_getElem (show t < l.length by omega)), mrun_snoc]
    exact (ih (by omega)).step _
theorem row_cellI {w : World} {N : Nat} {v : Value} {l : List Int} (h : w.ownsRow N 3 1 v l.length (l.map (Value.int .i64))) {i : Nat} {x : Int} (hx : l[i]? = some x) : ∃ G c, v = .slice (some ⟨G, 0, none⟩) l.length c ∧ w.cell? ⟨G, i, none⟩ = some (.int .i64 x) := by
  have hi := (List.getElem?_eq_some_iff.1 hx).1
  obtain ⟨_, h2⟩ := h
  rcases h2 with ⟨_, h2⟩ | ⟨G, cap', cur, rfl, hge, hh, hcc, hmm, hs, ht⟩
  · omega
  · refine ⟨G, cap', rfl, ?_⟩
    rw [cell_of_block hh, ← Array.getElem?_toList]
    have e : (cur.toList.take (l.length * 1))[i]? = (l.map (Value.int .i64))[i]? := by rw [ht]
    rw [List.getElem?_take_of_lt (by omega)] at e
    rw [e, List.getElem?_map, hx]
    rfl
theorem mPk_get {l : List Int} (h : l.length ≠ 0) (A : Nat) : l[A % l.length]? = some (mPk l (A : Int)) := by
  have hlt : A % l.length < l.length := Nat.mod_lt _ (by omega)
  unfold mPk
  rw [show ((A : Int)).toNat = A by omega, List.getD_eq_getElem?_getD, List.getElem?_eq_getElem hlt]
  rfl
theorem below_drewN {n : Nat} {a w : World} (h : Below n a w) (k : Nat) : Below n a (w.drewN k) := ⟨h.os, h.tape, h.output, h.size, h.block⟩
end Go.Proofs.Ytgjaafcagnkfdaa
