/-
  Objects one behind the other: their places, their headers, their identities. Plain laws, no program in sight.
-/
import Derived.Test.YtafailcjdkmdhaaAddr
namespace Go.Proofs.Ytafailcjdkmdhaa
open Go.RowKit
set_option linter.unusedSimpArgs false
set_option linter.unusedVariables false

def szO (o : Op6) : Nat := (wordsI o.f).toNat
def okO (o : Op6) : Prop := hvB o.k o.c o.f = true ∧ idB o.m o.s = true
/-- How many words they take. -/
def tot : List Op6 → Nat
  | [] => 0
  | o :: l => szO o + tot l
/-- The objects lie from place p to the end. -/
def MadeFrom (ws : List Int) : List Op6 → Nat → Prop
  | [], p => p = ws.length
  | o :: l, p => okO o ∧ ws.getD p 0 = encI o.k o.c o.f ∧ ws.getD (p + 1) 0 = idI o.m o.s ∧ MadeFrom ws l (p + szO o)
/-- Their places. -/
def plc : List Op6 → Nat → List Nat
  | [], _ => []
  | o :: l, p => p :: plc l (p + szO o)
theorem szO_bd {o : Op6} (h : okO o) : 4 ≤ szO o ∧ szO o ≤ 32 ∧ (szO o : Int) = wordsI o.f := by
  have := wordsI_bd h.1
  unfold szO
  omega
theorem made_len {ws : List Int} : ∀ (l : List Op6) (p : Nat), MadeFrom ws l p → p + tot l = ws.length := by
  intro l
  induction l with
  | nil => intro p h; exact h
  | cons o l ih =>
    intro p h
    have := ih _ h.2.2.2
    simp only [tot]
    omega
theorem made_app {ws : List Int} {o : Op6} (ho : okO o) : ∀ (l : List Op6) (p : Nat), MadeFrom ws l p → MadeFrom (ws ++ newObj o.k o.c o.f o.m o.s) (l ++ [o]) p := by
  intro l
  induction l with
  | nil =>
    intro p h
    have h : p = ws.length := h
    subst h
    have hz := newObj_len (m := o.m) (s := o.s) ho.1
    have hs := szO_bd ho
    refine ⟨ho, ?_, ?_, ?_⟩
    · rw [List.getD_eq_getElem?_getD, List.getElem?_append_right (by omega), Nat.sub_self]
      rfl
    · rw [List.getD_eq_getElem?_getD, List.getElem?_append_right (by omega), Nat.add_sub_cancel_left]
      rfl
    · show ws.length + szO o = (ws ++ newObj o.k o.c o.f o.m o.s).length
      rw [List.length_append]
      omega
  | cons x l ih =>
    intro p h
    have hl := made_len _ _ h
    have hs := szO_bd h.1
    simp only [tot] at hl
    refine ⟨h.1, ?_, ?_, ih _ h.2.2.2⟩
    · rw [getD_app (by omega)]; exact h.2.1
    · rw [getD_app (by omega)]; exact h.2.2.1
theorem made_set {ws : List Int} {q : Nat} {u : Int} : ∀ (l : List Op6) (p : Nat), MadeFrom ws l p → (∀ p' ∈ plc l p, q ≠ p' ∧ q ≠ p' + 1) → MadeFrom (ws.set q u) l p := by
  intro l
  induction l with
  | nil => intro p h _; show p = (ws.set q u).length; rw [List.length_set]; exact h
  | cons o l ih =>
    intro p h hq
    have h0 := hq p (by simp [plc])
    refine ⟨h.1, ?_, ?_, ih _ h.2.2.2 (fun p' hp => hq p' (by simp [plc, hp]))⟩
    · rw [List.getD_eq_getElem?_getD, List.getElem?_set_ne h0.1, ← List.getD_eq_getElem?_getD]; exact h.2.1
    · rw [List.getD_eq_getElem?_getD, List.getElem?_set_ne h0.2, ← List.getD_eq_getElem?_getD]; exact h.2.2.1
theorem made_objs {ws : List Int} : ∀ (l : List Op6) (p : Nat), MadeFrom ws l p → objs ws p = plc l p ∧ stopAt ws p = ws.length := by
  intro l
  induction l with
  | nil =>
    intro p h
    have h : p = ws.length := h
    have hz : szB ws p = false := szB_end (by omega)
    rw [objs_no hz, stopAt_no hz]
    exact ⟨rfl, h⟩
  | cons o l ih =>
    intro p h
    have hl := made_len _ _ h
    have hs := szO_bd h.1
    simp only [tot] at hl
    obtain ⟨d0, d1, d2⟩ := dec_enc h.1.1
    obtain ⟨i0, i1⟩ := did_id h.1.2
    have hz : szB ws p = true := by
      refine szB_iff.2 ⟨by omega, ?_, ?_, ?_⟩
      · rw [h.2.1]; exact decB_enc h.1.1
      · rw [h.2.2.1]; unfold didB; rw [i0, i1]; exact h.1.2
      · rw [h.2.1, d2]; have : (wordsI o.f).toNat = szO o := rfl; omega
    have hn : szN ws p = szO o := by rw [szN_yes hz, h.2.1, d2]; rfl
    obtain ⟨e1, e2⟩ := ih _ h.2.2.2
    rw [objs_yes hz, stopAt_yes hz, hn, e1, e2]
    exact ⟨rfl, rfl⟩
theorem plc_app (o : Op6) : ∀ (l : List Op6) (p : Nat), plc (l ++ [o]) p = plc l p ++ [p + tot l] := by
  intro l
  induction l with
  | nil => intro p; rfl
  | cons x l ih =>
    intro p
    simp only [List.cons_append, plc, ih, tot]
    rw [Nat.add_assoc]
theorem tot_app (o : Op6) : ∀ l : List Op6, tot (l ++ [o]) = tot l + szO o := by
  intro l
  induction l with
  | nil => simp [tot]
  | cons x l ih => simp only [List.cons_append, tot, ih]; omega
theorem plc_len : ∀ (l : List Op6) (p : Nat), (plc l p).length = l.length := by
  intro l
  induction l with
  | nil => intro p; rfl
  | cons o l ih => intro p; simp [plc, ih]
theorem plc_get : ∀ (l : List Op6) (p i : Nat) (o : Op6), l[i]? = some o → (plc l p)[i]? = some (p + tot (l.take i)) := by
  intro l
  induction l with
  | nil => intro p i o h; simp at h
  | cons x l ih =>
    intro p i o h
    cases i with
    | zero => simp [plc, tot]
    | succ i =>
      simp only [List.getElem?_cons_succ] at h
      simp only [plc, List.getElem?_cons_succ, List.take_succ_cons, tot]
      rw [ih _ _ _ h, Nat.add_assoc]
theorem tot_succ : ∀ (l : List Op6) (i : Nat) (o : Op6), l[i]? = some o → tot (l.take (i + 1)) = tot (l.take i) + szO o := by
  intro l
  induction l with
  | nil => intro i o h; simp at h
  | cons x l ih =>
    intro i o h
    cases i with
    | zero => simp at h; subst h; simp [tot]
    | succ i =>
      simp only [List.getElem?_cons_succ] at h
      simp only [List.take_succ_cons, tot]
      rw [ih _ _ h, Nat.add_assoc]
theorem made_get {ws : List Int} : ∀ (l : List Op6) (p i : Nat) (o : Op6), MadeFrom ws l p → l[i]? = some o →
    okO o ∧ ws.getD (p + tot (l.take i)) 0 = encI o.k o.c o.f ∧ ws.getD (p + tot (l.take i) + 1) 0 = idI o.m o.s ∧ p + tot (l.take i) + szO o ≤ ws.length := by
  intro l
  induction l with
  | nil => intro p i o _ h; simp at h
  | cons x l ih =>
    intro p i o hm h
    cases i with
    | zero =>
      simp at h
      subst h
      have hl := made_len _ _ hm
      simp only [tot] at hl
      simp only [List.take_zero, tot, Nat.add_zero]
      exact ⟨hm.1, hm.2.1, hm.2.2.1, by omega⟩
    | succ i =>
      simp only [List.getElem?_cons_succ] at h
      simp only [List.take_succ_cons, tot]
      have := ih _ i o hm.2.2.2 h
      rw [← Nat.add_assoc]
      exact this
theorem tot_mono (l : List Op6) : ∀ {i j : Nat}, i ≤ j → tot (l.take i) ≤ tot (l.take j) := by
  intro i j h
  induction l generalizing i j with
  | nil => simp [tot]
  | cons x l ih =>
    cases i with
    | zero => simp [tot]
    | succ i =>
      cases j with
      | zero => omega
      | succ j =>
        simp only [List.take_succ_cons, tot]
        have := ih (show i ≤ j by omega)
        omega
/-- A field of the i-th object is no header and no identity. -/
theorem field_free {l : List Op6} {i q : Nat} {o : Op6} (ho : l[i]? = some o) (h1 : tot (l.take i) + 2 ≤ q) (h2 : q < tot (l.take (i + 1))) : ∀ p' ∈ plc l 0, q ≠ p' ∧ q ≠ p' + 1 := by
  intro p' hp
  obtain ⟨j, hj, e⟩ := List.getElem_of_mem hp
  rw [plc_len] at hj
  have hg := plc_get l 0 j l[j] (List.getElem?_eq_getElem hj)
  rw [List.getElem?_eq_getElem (by rw [plc_len]; exact hj), e, Nat.zero_add] at hg
  have hg := Option.some.inj hg
  by_cases hji : j ≤ i
  · have := tot_mono l hji
    omega
  · have := tot_mono l (show i + 1 ≤ j by omega)
    omega
/-- Their addresses. -/
def adr (bs : Int) (l : List Op6) : List Int := (plc l 0).map (fun (j : Nat) => bs + (j : Int))
theorem made_adr {bs : Int} {ws : List Int} {l : List Op6} (h : MadeFrom ws l 0) : objA bs ws = adr bs l ∧ Sound ws := by
  obtain ⟨h1, h2⟩ := made_objs l 0 h
  unfold objA adr
  rw [h1]
  exact ⟨rfl, h2⟩
theorem adr_app (bs : Int) (l : List Op6) (o : Op6) : adr bs (l ++ [o]) = adr bs l ++ [bs + (tot l : Nat)] := by
  unfold adr
  rw [plc_app]
  simp
theorem adr_len (bs : Int) (l : List Op6) : (adr bs l).length = l.length := by unfold adr; rw [List.length_map, plc_len]
theorem adr_get (bs : Int) {l : List Op6} {i : Nat} {o : Op6} (h : l[i]? = some o) : (adr bs l)[i]? = some (bs + (tot (l.take i) : Nat)) := by
  unfold adr
  rw [List.getElem?_map, plc_get l 0 i o h, Nat.zero_add]
  rfl
/-- The cells of operations. -/
def cellsO (o : Op6) : List Value := [.int .u8 o.kd, .int .i64 o.k, .int .i64 o.c, .int .i64 o.f, .int .i64 o.m, .int .i64 o.s, .int .i64 o.a, .int .u64 o.u]
def flatO : List Op6 → List Value
  | [] => []
  | o :: l => cellsO o ++ flatO l
theorem flatO_app (o : Op6) : ∀ l : List Op6, flatO (l ++ [o]) = flatO l ++ cellsO o := by
  intro l
  induction l with
  | nil => simp [flatO]
  | cons x l ih => simp [flatO, ih]
theorem flatO_len : ∀ l : List Op6, (flatO l).length = l.length * 8 := by
  intro l
  induction l with
  | nil => rfl
  | cons x l ih => simp [flatO, ih, cellsO]; omega
theorem flatO_get : ∀ (l : List Op6) (i j : Nat) (o : Op6), l[i]? = some o → j < 8 → (flatO l)[i * 8 + j]? = (cellsO o)[j]? := by
  intro l
  induction l with
  | nil => intro i j o h; simp at h
  | cons x l ih =>
    intro i j o h hj
    cases i with
    | zero =>
      simp at h
      subst h
      simp only [flatO, Nat.zero_mul, Nat.zero_add]
      rw [List.getElem?_append_left (by simp [cellsO]; omega)]
    | succ i =>
      simp only [List.getElem?_cons_succ] at h
      simp only [flatO]
      rw [List.getElem?_append_right (by simp [cellsO]; omega)]
      have : (i + 1) * 8 + j - (cellsO x).length = i * 8 + j := by simp [cellsO]; omega
      rw [this]
      exact ih i j o h hj
end Go.Proofs.Ytafailcjdkmdhaa
