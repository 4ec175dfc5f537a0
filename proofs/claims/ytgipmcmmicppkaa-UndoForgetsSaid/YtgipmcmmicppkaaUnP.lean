/-
  law 13 in plain Lean: what a turn keeps.
-/
import Derived.Test.YtgipmcmmicppkaaUnB
namespace Go.Proofs.Ytgipmcmmicppkaa
open Go.RowKit
set_option linter.unusedSimpArgs false
set_option linter.unusedVariables false

theorem st_back {wo wy : List Int} {a u : Int} (h : LE wo wy a = 0) : stO (stO wo a u) a (LD wo wy a) = wo ∧ stY (stY wy a u) a (LD wo wy a) = wy := by
  unfold LE ioE bsA wsA at h
  unfold stO stY LD bsA wsA
  by_cases h0 : 16777216 ≤ a
  · rw [if_pos h0, if_pos h0] at h
    rw [if_pos h0, if_pos h0, if_pos h0, if_pos h0, if_pos h0]
    refine ⟨by simp [h0], ?_⟩
    unfold stW ldW
    have hb : inB 16777216 wy.length a = true := by
      cases hb : inB 16777216 wy.length a
      · rw [hb] at h; simp at h
      · rfl
    have hb' : inB 16777216 (wy.set (a - 16777216).toNat u).length a = true := by rw [List.length_set]; exact hb
    simp only [if_pos h0, hb, hb', if_true, List.set_set]
    have hl : (a - 16777216).toNat < wy.length := by
      unfold inB at hb
      simp at hb
      omega
    rw [List.getD_eq_getElem?_getD, List.getElem?_eq_getElem hl]
    simp
  · rw [if_neg h0, if_neg h0] at h
    rw [if_neg h0, if_neg h0, if_neg h0, if_neg h0, if_neg h0]
    refine ⟨?_, by simp [h0]⟩
    unfold stW ldW
    have hb : inB 0 wo.length a = true := by
      cases hb : inB 0 wo.length a
      · rw [hb] at h; simp at h
      · rfl
    have hb' : inB 0 (wo.set (a - 0).toNat u).length a = true := by rw [List.length_set]; exact hb
    simp only [if_neg h0, hb, hb', if_true, List.set_set]
    have hl : (a - 0).toNat < wo.length := by
      unfold inB at hb
      simp at hb
      omega
    rw [List.getD_eq_getElem?_getD, List.getElem?_eq_getElem hl]
    simp
theorem st_none {wo wy : List Int} {a : Int} (u : Int) (h : LE wo wy a ≠ 0) : stO wo a u = wo ∧ stY wy a u = wy := by
  unfold LE ioE bsA wsA at h
  unfold stO stY stW
  by_cases h0 : 16777216 ≤ a
  · rw [if_pos h0, if_pos h0] at h
    rw [if_pos h0, if_pos h0]
    refine ⟨rfl, ?_⟩
    cases hb : inB 16777216 wy.length a
    · simp
    · rw [hb] at h; simp at h
  · rw [if_neg h0, if_neg h0] at h
    rw [if_neg h0, if_neg h0]
    refine ⟨?_, rfl⟩
    cases hb : inB 0 wo.length a
    · simp
    · rw [hb] at h; simp at h
theorem LE_len {wo wy wo' wy' : List Int} (h1 : wo.length ≤ wo'.length) (h2 : wy.length ≤ wy'.length) {a : Int} (h : LE wo wy a = 0) : LE wo' wy' a = 0 := by
  unfold LE ioE bsA wsA inB at *
  split <;> simp_all <;> omega
/-- Growth of the young space commutes with a store that hits. -/
theorem stY_app {wo wy : List Int} {a : Int} (u : Int) (ext : List Int) (h : LE wo wy a = 0) : stY (wy ++ ext) a u = stY wy a u ++ ext := by
  unfold LE ioE bsA wsA at h
  unfold stY stW
  by_cases h0 : 16777216 ≤ a
  · rw [if_pos h0, if_pos h0] at h
    rw [if_pos h0, if_pos h0]
    have hb : inB 16777216 wy.length a = true := by
      cases hb : inB 16777216 wy.length a
      · rw [hb] at h; simp at h
      · rfl
    have hl : (a - 16777216).toNat < wy.length := by
      unfold inB at hb
      simp at hb
      omega
    have hb' : inB 16777216 (wy ++ ext).length a = true := by
      unfold inB at *
      simp at *
      omega
    rw [hb, hb', if_pos rfl, if_pos rfl, List.set_append_left _ _ hl]
  · rw [if_neg h0, if_neg h0]
theorem rbW_lenO {wo wy : List Int} {nt : List (Int × Int)} : (rbW wo wy nt).1.length = wo.length := by
  induction nt with
  | nil => rfl
  | cons x nt ih => rw [rbW_cons]; simp only [stO_len, ih]
theorem rbW_lenY {wo wy : List Int} {nt : List (Int × Int)} : (rbW wo wy nt).2.length = wy.length := by
  induction nt with
  | nil => rfl
  | cons x nt ih => rw [rbW_cons]; simp only [stY_len, ih]
theorem rbW_app {wo wy : List Int} (ext : List Int) : ∀ {nt : List (Int × Int)}, (∀ x ∈ nt, LE wo wy x.1 = 0) → rbW wo (wy ++ ext) nt = ((rbW wo wy nt).1, (rbW wo wy nt).2 ++ ext) := by
  intro nt
  induction nt with
  | nil => intro _; rfl
  | cons x nt ih =>
    intro h
    rw [rbW_cons, rbW_cons, ih (fun y hy => h y (List.mem_cons_of_mem _ hy))]
    have h1 : LE (rbW wo wy nt).1 (rbW wo wy nt).2 x.1 = 0 := LE_len (by rw [rbW_lenO]; exact Nat.le_refl _) (by rw [rbW_lenY]; exact Nat.le_refl _) (h x (List.mem_cons_self))
    simp only [stY_app (wo := (rbW wo wy nt).1) x.2 ext h1]
theorem rbW_note {wo wy : List Int} {nt : List (Int × Int)} {a u : Int} (h : LE wo wy a = 0) : rbW (stO wo a u) (stY wy a u) (nt ++ [(a, LD wo wy a)]) = rbW wo wy nt := by
  unfold rbW
  rw [List.foldr_append]
  simp only [List.foldr_cons, List.foldr_nil, (st_back (u := u) h).1, (st_back (u := u) h).2]
/-- Words that grew by objects alone. -/
structure Grown (w0 ws : List Int) : Prop where
  pre : ∃ ext, ws = w0 ++ ext
  snd : Sound ws
  cut : cutAt ws (objs w0 0).length = w0.length
  cnt : (objs w0 0).length ≤ (objs ws 0).length
theorem Grown.refl {w0 : List Int} (h : Sound w0) : Grown w0 w0 := by
  refine ⟨⟨[], by simp⟩, h, ?_, Nat.le_refl _⟩
  unfold cutAt
  rw [List.getD_eq_getElem?_getD, List.getElem?_append_right (Nat.le_refl _)]
  simp
theorem Grown.alloc {w0 ws : List Int} {k c f m s : Int} (h : Grown w0 ws) (hv : hvB k c f = true) (hi : idB m s = true) : Grown w0 (ws ++ newObj k c f m s) := by
  obtain ⟨⟨ext, h1⟩, h2, h3, h4⟩ := h
  obtain ⟨g1, g2⟩ := sound_alloc hv hi h2
  refine ⟨⟨ext ++ newObj k c f m s, by rw [h1, List.append_assoc]⟩, g1, ?_, by rw [g2]; simp; omega⟩
  unfold cutAt at h3 ⊢
  rw [g2, List.getD_eq_getElem?_getD, List.getElem?_append_left (by simp; omega), ← List.getD_eq_getElem?_getD]
  exact h3
theorem Grown.back {w0 ws : List Int} {bs : Int} (h : Grown w0 ws) : trE bs ws (bs + w0.length) = 0 ∧ trW bs ws (bs + w0.length) = w0 := by
  obtain ⟨⟨ext, h1⟩, h2, h3, h4⟩ := h
  have h5 := (cut_law (bs := bs) h2 (k := (objs w0 0).length) (by omega)).2.2.2
  rw [h3] at h5
  unfold trE trW
  rw [if_pos h5, if_pos h5]
  refine ⟨rfl, ?_⟩
  rw [h1, show (bs + (w0.length : Int) - bs).toNat = w0.length by omega, List.take_left]
/-- A state within a turn that began with the words wo0, wy0. -/
structure Trn (wo0 wy0 : List Int) (s : M13) : Prop where
  op : s.op = true
  top : s.top = 16777216 + wy0.length
  rng : ∀ x ∈ s.nt, LE s.wo s.wy x.1 = 0
  rb : (rbW s.wo s.wy s.nt).1 = wo0 ∧ Grown wy0 (rbW s.wo s.wy s.nt).2
theorem Trn.begin {s : M13} (h : s.op = false) (hs : Sound s.wy) : Trn s.wo s.wy (bgS s) := by
  unfold bgS
  rw [h]
  exact ⟨rfl, rfl, fun x hx => (by cases hx), rfl, Grown.refl hs⟩
theorem Trn.back {wo0 wy0 : List Int} {s : M13} (h : Trn wo0 wy0 s) : rlE s = 0 ∧ rlS s = ⟨wo0, wy0, false, 0, []⟩ := by
  obtain ⟨h1, h2, h3, h4, h5⟩ := h
  unfold rlE rlS
  rw [h1, if_pos rfl, if_pos rfl, h2, (h5.back (bs := 16777216)).1, (h5.back (bs := 16777216)).2, h4]
  exact ⟨rfl, rfl⟩
theorem LE_st {wo wy : List Int} {a u b : Int} : LE (stO wo a u) (stY wy a u) b = LE wo wy b := by
  unfold LE ioE wsA
  split <;> simp only [stO_len, stY_len]
theorem Trn.note {wo0 wy0 : List Int} {s : M13} (h : Trn wo0 wy0 s) (a u : Int) : Trn wo0 wy0 ⟨stO (ntS s a).wo a u, stY (ntS s a).wy a u, (ntS s a).op, (ntS s a).top, (ntS s a).nt⟩ := by
  obtain ⟨h1, h2, h3, h4⟩ := h
  unfold ntS
  rw [h1, if_pos rfl]
  by_cases he : LE s.wo s.wy a = 0
  · rw [if_pos he]
    refine ⟨rfl, h2, fun x hx => ?_, ?_⟩
    · show LE (stO s.wo a u) (stY s.wy a u) x.1 = 0
      rw [LE_st]
      rcases List.mem_append.1 hx with hx | hx
      · exact h3 x hx
      · rw [List.mem_singleton.1 hx]; exact he
    · show (rbW (stO s.wo a u) (stY s.wy a u) (s.nt ++ [(a, LD s.wo s.wy a)])).1 = wo0 ∧ Grown wy0 (rbW (stO s.wo a u) (stY s.wy a u) (s.nt ++ [(a, LD s.wo s.wy a)])).2
      rw [rbW_note he]
      exact h4
  · rw [if_neg he]
    obtain ⟨e1, e2⟩ := st_none u he
    refine ⟨h1, h2, fun x hx => ?_, ?_⟩
    · show LE (stO s.wo a u) (stY s.wy a u) x.1 = 0
      rw [LE_st]
      exact h3 x hx
    · show (rbW (stO s.wo a u) (stY s.wy a u) s.nt).1 = wo0 ∧ Grown wy0 (rbW (stO s.wo a u) (stY s.wy a u) s.nt).2
      rw [e1, e2]
      exact h4
theorem Trn.alloc {wo0 wy0 : List Int} {s : M13} (h : Trn wo0 wy0 s) (ly k c f m i : Int) : Trn wo0 wy0 ⟨s.wo, alW 16777216 ly s.wy k c f m i, s.op, s.top, s.nt⟩ := by
  obtain ⟨h1, h2, h3, h4⟩ := h
  by_cases he : alE 16777216 ly s.wy k c f m i = 0
  · have hv : hvB k c f = true ∧ idB m i = true := by
      unfold alE at he
      cases h1 : hvB k c f <;> cases h2 : idB m i <;> rw [h1, h2] at he <;> simp at he ⊢
    unfold alW
    rw [if_pos he]
    refine ⟨h1, h2, fun x hx => LE_len (Nat.le_refl _) (by simp) (h3 x hx), ?_⟩
    show (rbW s.wo (s.wy ++ newObj k c f m i) s.nt).1 = wo0 ∧ Grown wy0 (rbW s.wo (s.wy ++ newObj k c f m i) s.nt).2
    rw [rbW_app _ h3]
    exact ⟨h4.1, h4.2.alloc hv.1 hv.2⟩
  · unfold alW
    rw [if_neg he]
    exact ⟨h1, h2, h3, h4⟩
end Go.Proofs.Ytgipmcmmicppkaa
