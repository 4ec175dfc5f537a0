/-
  Plain laws on the places of objects: what is appended, what is cut off. No program in sight.
-/
import Derived.Test.YtafailcjdkmdhaaTr
import Derived.Test.YtafailcjdkmdhaaObj
namespace Go.Proofs.Ytafailcjdkmdhaa
open Go.RowKit
set_option linter.unusedSimpArgs false
set_option linter.unusedVariables false

theorem getD_app {ws ext : List Int} {i : Nat} (h : i < ws.length) : (ws ++ ext).getD i 0 = ws.getD i 0 := by
  simp only [List.getD_eq_getElem?_getD, List.getElem?_append_left h]
theorem getD_take {ws : List Int} {i o : Nat} (h : i < o) : (ws.take o).getD i 0 = ws.getD i 0 := by
  simp only [List.getD_eq_getElem?_getD, List.getElem?_take_of_lt h]
theorem szB_app {ws : List Int} (ext : List Int) {i : Nat} (h : szB ws i = true) : szB (ws ++ ext) i = true ∧ szN (ws ++ ext) i = szN ws i := by
  obtain ⟨h0, h1, h2, h3⟩ := szB_iff.1 h
  have e0 : (ws ++ ext).getD i 0 = ws.getD i 0 := getD_app (by omega)
  have e1 : (ws ++ ext).getD (i + 1) 0 = ws.getD (i + 1) 0 := getD_app (by omega)
  have h' : szB (ws ++ ext) i = true := szB_iff.2 ⟨by rw [List.length_append]; omega, by rw [e0]; exact h1, by rw [e1]; exact h2, by rw [e0, List.length_append]; omega⟩
  exact ⟨h', by rw [szN_yes h', szN_yes h, e0]⟩
theorem szB_take {ws : List Int} {i o : Nat} (h : szB ws i = true) (ho : i + szN ws i ≤ o) : szB (ws.take o) i = true ∧ szN (ws.take o) i = szN ws i := by
  obtain ⟨h0, h1, h2, h3⟩ := szB_iff.1 h
  have hb := szN_bd h
  have hy := szN_yes h
  have e0 : (ws.take o).getD i 0 = ws.getD i 0 := getD_take (by omega)
  have e1 : (ws.take o).getD (i + 1) 0 = ws.getD (i + 1) 0 := getD_take (by omega)
  have h' : szB (ws.take o) i = true := szB_iff.2 ⟨by rw [List.length_take]; omega, by rw [e0]; exact h1, by rw [e1]; exact h2, by rw [e0, List.length_take]; omega⟩
  exact ⟨h', by rw [szN_yes h', szN_yes h, e0]⟩
theorem szB_end {ws : List Int} {i : Nat} (h : ws.length < i + 2) : szB ws i = false := by
  rw [Bool.eq_false_iff]
  intro hh
  have := (szB_iff.1 hh).1
  omega
/-- Walking reaches the top. -/
def Sound (ws : List Int) : Prop := stopAt ws 0 = ws.length
theorem sound_nil : Sound [] := by unfold Sound; rw [stopAt_no (szB_end (by simp))]; rfl
theorem walk_app {ws : List Int} (ext : List Int) : ∀ (n i : Nat), ws.length - i ≤ n → i ≤ ws.length → stopAt ws i = ws.length →
    objs (ws ++ ext) i = objs ws i ++ objs (ws ++ ext) ws.length ∧ stopAt (ws ++ ext) i = stopAt (ws ++ ext) ws.length := by
  intro n
  induction n with
  | zero =>
    intro i hn hi hs
    have : i = ws.length := by omega
    subst this
    rw [objs_no (ws := ws) (szB_end (by omega))]
    simp
  | succ n ih =>
    intro i hn hi hs
    cases hz : szB ws i
    · rw [stopAt_no hz] at hs
      subst hs
      rw [objs_no hz]
      simp
    · have hb := szN_bd hz
      obtain ⟨h1, h2⟩ := szB_app ext hz
      rw [stopAt_yes hz] at hs
      obtain ⟨h3, h4⟩ := ih (i + szN ws i) (by omega) hb.2.2 hs
      rw [objs_yes h1, stopAt_yes h1, h2, h3, h4, objs_yes hz]
      simp
theorem newObj_sz {ws : List Int} {k c f m s : Int} (h : hvB k c f = true) (hi : idB m s = true) : szB (ws ++ newObj k c f m s) ws.length = true ∧ ws.length + szN (ws ++ newObj k c f m s) ws.length = (ws ++ newObj k c f m s).length := by
  have hw := wordsI_bd h
  have hl := newObj_len (m := m) (s := s) h
  have e0 : (ws ++ newObj k c f m s).getD ws.length 0 = encI k c f := by simp [newObj, List.getD_eq_getElem?_getD]
  have e1 : (ws ++ newObj k c f m s).getD (ws.length + 1) 0 = idI m s := by simp [newObj, List.getD_eq_getElem?_getD]
  have hd := (dec_enc h).2.2
  have hii : didB (idI m s) = true := by unfold didB; rw [(did_id hi).1, (did_id hi).2]; exact hi
  have hz : szB (ws ++ newObj k c f m s) ws.length = true := szB_iff.2 ⟨by simp; omega, by rw [e0]; exact decB_enc h, by rw [e1]; exact hii, by rw [e0, hd]; simp; omega⟩
  refine ⟨hz, ?_⟩
  rw [szN_yes hz, e0, hd]
  simp
  omega
/-- An object behind the last word of a sound space: the space is sound, and has one object more. -/
theorem sound_alloc {ws : List Int} {k c f m s : Int} (h : hvB k c f = true) (hi : idB m s = true) (hs : Sound ws) : Sound (ws ++ newObj k c f m s) ∧ objs (ws ++ newObj k c f m s) 0 = objs ws 0 ++ [ws.length] := by
  obtain ⟨h1, h2⟩ := walk_app (newObj k c f m s) ws.length 0 (by omega) (by omega) hs
  obtain ⟨h3, h4⟩ := newObj_sz (ws := ws) h hi
  have he : szB (ws ++ newObj k c f m s) (ws.length + szN (ws ++ newObj k c f m s) ws.length) = false := szB_end (by omega)
  unfold Sound
  rw [h1, h2, objs_yes h3, stopAt_yes h3, objs_no he, stopAt_no he]
  exact ⟨h4, rfl⟩
/-- Cutting off at an object. -/
theorem walk_take {ws : List Int} : ∀ (pre : List Nat) (i o : Nat) (rest : List Nat), objs ws i = pre ++ o :: rest → o ≤ ws.length → objs (ws.take o) i = pre ∧ stopAt (ws.take o) i = o := by
  intro pre
  induction pre with
  | nil =>
    intro i o rest h ho
    cases hz : szB ws i
    · rw [objs_no hz] at h; cases h
    · rw [objs_yes hz] at h
      simp at h
      obtain ⟨rfl, _⟩ := h
      have he : szB (ws.take i) i = false := szB_end (by simp; omega)
      exact ⟨objs_no he, stopAt_no he⟩
  | cons p pre ih =>
    intro i o rest h ho
    cases hz : szB ws i
    · rw [objs_no hz] at h; cases h
    · rw [objs_yes hz] at h
      simp at h
      obtain ⟨rfl, h⟩ := h
      have hb := szN_bd hz
      have hmem : o ∈ objs ws (i + szN ws i) := by rw [h]; simp
      have hge := (objs_bd (ws := ws) ws.length (i + szN ws i) (by omega) hb.2.2).1 o hmem
      obtain ⟨h1, h2⟩ := szB_take hz hge.1
      obtain ⟨h3, h4⟩ := ih (i + szN ws i) o rest h ho
      rw [objs_yes h1, stopAt_yes h1, h2, h3, h4]
      exact ⟨rfl, rfl⟩
/-- The k-th place where a sound space may be cut: an object, or the top. -/
def cutAt (ws : List Int) (k : Nat) : Nat := (objs ws 0 ++ [ws.length]).getD k 0
theorem cut_law {bs : Int} {ws : List Int} (hs : Sound ws) {k : Nat} (hk : k < (objs ws 0).length + 1) : cutAt ws k ≤ ws.length ∧ objs (ws.take (cutAt ws k)) 0 = (objs ws 0).take k ∧ Sound (ws.take (cutAt ws k)) ∧ okT bs ws (bs + (cutAt ws k : Nat)) := by
  have hbd := objs_bd (ws := ws) ws.length 0 (by omega) (by omega)
  by_cases hl : k < (objs ws 0).length
  · have e : cutAt ws k = (objs ws 0)[k] := by
      unfold cutAt
      rw [List.getD_eq_getElem?_getD, List.getElem?_append_left hl, List.getElem?_eq_getElem hl]
      rfl
    have hm : (objs ws 0)[k] ∈ objs ws 0 := List.getElem_mem hl
    have hle := (hbd.1 _ hm).2
    have hsp : objs ws 0 = (objs ws 0).take k ++ (objs ws 0)[k] :: (objs ws 0).drop (k + 1) := by
      rw [← List.drop_eq_getElem_cons hl, List.take_append_drop]
    obtain ⟨h1, h2⟩ := walk_take _ 0 _ _ hsp hle
    rw [e]
    refine ⟨hle, h1, ?_, ⟨_, List.mem_append_left _ (List.mem_map.2 ⟨_, hm, rfl⟩), rfl, .inl rfl⟩⟩
    unfold Sound
    rw [h2]
    simp
    omega
  · have hkk : k = (objs ws 0).length := by omega
    have e : cutAt ws k = ws.length := by
      unfold cutAt
      rw [List.getD_eq_getElem?_getD, hkk, List.getElem?_append_right (by omega)]
      simp
    rw [e, hkk]
    refine ⟨Nat.le_refl _, by simp, by simpa using hs, ⟨_, seqL_last 0, ?_, .inr rfl⟩⟩
    show bs + ((stopAt ws 0 : Nat) : Int) = _
    rw [show stopAt ws 0 = ws.length from hs]
end Go.Proofs.Ytafailcjdkmdhaa
