/-
  Following Forwards: with steps counted, and with a set of what was seen. Plain laws, no program in sight.
-/
import Derived.Test.YtcmhgjkijegpnaaSeen
namespace Go.Proofs.Ytcmhgjkijegpnaa
open Go.RowKit
set_option linter.unusedSimpArgs false
set_option linter.unusedVariables false

/-- The resolution of an address, in at most n steps: the address, the error. -/
def rsv (wo wy : List Int) : Nat → Int → Int × Int
  | 0, _ => (0, 11)
  | n + 1, a => if HE wo wy a ≠ 0 then (0, 11) else if HK wo wy a ≠ 4 then (a, 0) else if adB (LD wo wy (a + 2)) then rsv wo wy n (adA (LD wo wy (a + 2))) else (0, 11)
theorem rsv_err {wo wy : List Int} {a : Int} (h : HE wo wy a ≠ 0) (n : Nat) : rsv wo wy n a = (0, 11) := by
  cases n with
  | zero => rfl
  | succ n => unfold rsv; rw [if_pos h]
theorem rsv_end {wo wy : List Int} {a : Int} (h : HE wo wy a = 0) (g : HK wo wy a ≠ 4) (n : Nat) : rsv wo wy (n + 1) a = (a, 0) := by unfold rsv; rw [if_neg (by simpa using h), if_pos g]
theorem rsv_bad {wo wy : List Int} {a : Int} (h : HE wo wy a = 0) (g : HK wo wy a = 4) (k : adB (LD wo wy (a + 2)) = false) (n : Nat) : rsv wo wy n a = (0, 11) := by
  cases n with
  | zero => rfl
  | succ n => unfold rsv; rw [if_neg (by simpa using h), if_neg (by simpa using g), k]; rfl
theorem rsv_go {wo wy : List Int} {a : Int} (h : HE wo wy a = 0) (g : HK wo wy a = 4) (k : adB (LD wo wy (a + 2)) = true) (n : Nat) : rsv wo wy (n + 1) a = rsv wo wy n (adA (LD wo wy (a + 2))) := by
  show (if HE wo wy a ≠ 0 then (0, 11) else if HK wo wy a ≠ 4 then (a, 0) else if adB (LD wo wy (a + 2)) then rsv wo wy n (adA (LD wo wy (a + 2))) else (0, 11)) = _
  rw [if_neg (by simpa using h), if_neg (by simpa using g), k]
  rfl
/-- A Forward, and where it leads. -/
def fwd (wo wy : List Int) (a : Int) : Prop := HE wo wy a = 0 ∧ HK wo wy a = 4 ∧ adB (LD wo wy (a + 2)) = true
def nxt (wo wy : List Int) (a : Int) : Int := adA (LD wo wy (a + 2))
/-- Where Forwards lead to Forwards of one set alone, nothing is resolved. -/
theorem rsv_ring {wo wy : List Int} {S : List Int} (h : ∀ s ∈ S, fwd wo wy s ∧ nxt wo wy s ∈ S) : ∀ (n : Nat) (a : Int), a ∈ S → rsv wo wy n a = (0, 11) := by
  intro n
  induction n with
  | zero => intro a _; rfl
  | succ n ih =>
    intro a ha
    obtain ⟨⟨h0, h1, h2⟩, h3⟩ := h a ha
    rw [rsv_go h0 h1 h2]
    exact ih _ h3
/-- How far the set has come: n steps are left of N + 1. -/
structure Trail (wo wy : List Int) (N : Nat) (a0 : Int) (S : List Int) (a : Int) : Prop where
  nd : S.Nodup
  mem : ∀ s ∈ S, fwd wo wy s ∧ (nxt wo wy s ∈ S ∨ nxt wo wy s = a)
  fuel : rsv wo wy (N + 1) a0 = rsv wo wy (N + 1 - S.length) a
theorem trail_start (wo wy : List Int) (N : Nat) (a0 : Int) : Trail wo wy N a0 [] a0 := ⟨List.nodup_nil, fun s h => (by cases h), rfl⟩
theorem trail_ring {wo wy : List Int} {N : Nat} {a0 a : Int} {S : List Int} (h : Trail wo wy N a0 S a) (ha : a ∈ S) : rsv wo wy (N + 1) a0 = (0, 11) := by
  rw [h.fuel]
  refine rsv_ring (S := S) (fun s hs => ⟨(h.mem s hs).1, ?_⟩) _ a ha
  rcases (h.mem s hs).2 with h' | h'
  · exact h'
  · rw [h']; exact ha
/-- The word on which an object begins, counted through both spaces. -/
def slotA (wo : List Int) (a : Int) : Nat := if 16777216 ≤ a then wo.length + (a - 16777216).toNat else a.toNat
theorem slot_lt {wo wy : List Int} {a : Int} (h : HE wo wy a = 0) : slotA wo a < wo.length + wy.length := by
  obtain ⟨_, _, _, h1, h2⟩ := HE_bd h
  have h3 : 0 ≤ wordsI (HF wo wy a) := by unfold wordsI; split <;> omega
  have h4 := (hd_bd h).1
  obtain ⟨h5, h6⟩ := inB_iff.1 h4
  unfold slotA bsA wsA at *
  split at h6 <;> rename_i hh
  · rw [if_pos hh] at *
    simp only [if_pos hh] at *
    omega
  · simp only [if_neg hh] at *
    omega
theorem slot_inj {wo wy : List Int} {a b : Int} (ha : HE wo wy a = 0) (hb : HE wo wy b = 0) (h : slotA wo a = slotA wo b) : a = b := by
  obtain ⟨h5, h6⟩ := inB_iff.1 (hd_bd ha).1
  obtain ⟨h7, h8⟩ := inB_iff.1 (hd_bd hb).1
  unfold slotA at h
  unfold bsA at h5 h6 h7 h8
  unfold wsA at h6 h8
  by_cases h1 : 16777216 ≤ a
  · rw [if_pos h1] at h h5
    rw [if_pos h1, if_pos h1] at h6
    by_cases h2 : 16777216 ≤ b
    · rw [if_pos h2] at h h7
      omega
    · rw [if_neg h2] at h h7
      rw [if_neg h2, if_neg h2] at h8
      omega
  · rw [if_neg h1] at h h5
    rw [if_neg h1, if_neg h1] at h6
    by_cases h2 : 16777216 ≤ b
    · rw [if_pos h2] at h h7
      omega
    · rw [if_neg h2] at h h7
      omega
theorem nodup_bound : ∀ (n : Nat) (l : List Nat), l.Nodup → (∀ x ∈ l, x < n) → l.length ≤ n := by
  intro n l hd hb
  have := List.Nodup.length_le_of_subset hd (l₂ := List.range n) (fun x hx => List.mem_range.2 (hb x hx))
  simpa using this
theorem trail_len {wo wy : List Int} {S : List Int} (hd : S.Nodup) (h : ∀ s ∈ S, HE wo wy s = 0) : S.length ≤ wo.length + wy.length := by
  have h1 : (S.map (slotA wo)).Nodup := by
    rw [List.Nodup, List.pairwise_map]
    exact hd.imp_of_mem (fun ha hb hne e => hne (slot_inj (h _ ha) (h _ hb) e))
  have h2 := nodup_bound (wo.length + wy.length) (S.map (slotA wo)) h1 (fun x hx => by
    obtain ⟨s, hs, rfl⟩ := List.mem_map.1 hx
    exact slot_lt (h s hs))
  simpa using h2
/-- One Forward further. -/
theorem trail_step {wo wy : List Int} {a0 a : Int} {S : List Int} (h : Trail wo wy (wo.length + wy.length) a0 S a) (ha : a ∉ S) (hf : fwd wo wy a) : Trail wo wy (wo.length + wy.length) a0 (S ++ [a]) (nxt wo wy a) ∧ (S ++ [a]).length ≤ wo.length + wy.length := by
  have hnd : (S ++ [a]).Nodup := by
    rw [List.nodup_append]
    exact ⟨h.nd, by simp, fun x hx y hy => by
      simp only [List.mem_singleton] at hy
      rintro rfl
      exact ha (hy ▸ hx)⟩
  have hmem : ∀ s ∈ S ++ [a], fwd wo wy s := fun s hs => by
    rcases List.mem_append.1 hs with hs | hs
    · exact (h.mem s hs).1
    · rw [List.mem_singleton.1 hs]; exact hf
  have hl := trail_len hnd (fun s hs => (hmem s hs).1)
  refine ⟨⟨hnd, fun s hs => ⟨hmem s hs, ?_⟩, ?_⟩, hl⟩
  · rcases List.mem_append.1 hs with hs | hs
    · rcases (h.mem s hs).2 with h' | h'
      · exact .inl (List.mem_append.2 (.inl h'))
      · exact .inl (List.mem_append.2 (.inr (List.mem_singleton.2 h')))
    · rw [List.mem_singleton.1 hs]; exact .inr rfl
  · rw [h.fuel]
    rw [List.length_append, List.length_singleton] at hl ⊢
    obtain ⟨m, hm⟩ : ∃ m, wo.length + wy.length + 1 - S.length = m + 1 := ⟨wo.length + wy.length - S.length, by omega⟩
    rw [hm, rsv_go hf.1 hf.2.1 hf.2.2, show wo.length + wy.length + 1 - (S.length + 1) = m by omega]
    rfl
theorem trail_pos {wo wy : List Int} {a0 a : Int} {S : List Int} (h : Trail wo wy (wo.length + wy.length) a0 S a) : ∃ m, wo.length + wy.length + 1 - S.length = m + 1 := by
  have := trail_len h.nd (fun s hs => (h.mem s hs).1.1)
  exact ⟨wo.length + wy.length - S.length, by omega⟩
/-- Resolve. -/
def RA (wo wy : List Int) (a : Int) : Int := if LE wo wy a = 0 then (rsv wo wy (wo.length + wy.length + 1) a).1 else 0
def RE (wo wy : List Int) (a : Int) : Int := if LE wo wy a = 0 then (rsv wo wy (wo.length + wy.length + 1) a).2 else LE wo wy a
end Go.Proofs.Ytcmhgjkijegpnaa
