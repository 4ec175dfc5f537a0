/-
  A region that draws its order, whose last operation alone changes the world and waits for all others: one walk of the lexical order serves every order, inside a fence and within a round of a range over a function.
-/
import Derived.Sort.QuietThIn
import Derived.Sort.BigQuietIn
import Derived.TacticsIn
import Derived.NoCompiler
namespace Go.Proofs.Ytafailcjdkmdhaa
open Go
set_option linter.unusedSimpArgs false
set_option linter.unusedVariables false

variable {F : Fence} {n : Nat} {P : Program} {md : Region.Mode} {C : World → Prop}
def noop (o : Oper) : Oper := { o with dst := none, op := Op.move (.const (.bool true)), guard := none }
def setLast : List Oper → List Oper
  | [] => []
  | [o] => [noop o]
  | a :: b :: l => a :: setLast (b :: l)
def lastOf : List Oper → List Oper
  | [] => []
  | [o] => [o]
  | _ :: b :: l => lastOf (b :: l)
theorem setLast_app (l : List Oper) (o : Oper) : setLast (l ++ [o]) = l ++ [noop o] := by
  induction l with
  | nil => rfl
  | cons a l ih =>
    cases l with
    | nil => rfl
    | cons b l => exact congrArg (a :: ·) ih
theorem lastOf_app (l : List Oper) (o : Oper) : lastOf (l ++ [o]) = [o] := by
  induction l with
  | nil => rfl
  | cons a l ih =>
    cases l with
    | nil => rfl
    | cons b l => exact ih
def noDefer (o : Oper) : Bool := match o.op with
  | .defer _ => false
  | _ => true
theorem noDefer_spec {o : Oper} (h : noDefer o = true) : ∀ c, o.op ≠ .defer c := by
  intro c e
  unfold noDefer at h
  rw [e] at h
  cases h
/-- No defer; each operation waits for earlier ones alone; the last has no place for a result and waits for all, at most by way of one other. -/
def lastB (md : Region.Mode) (L : List Oper) : Bool :=
  L.all noDefer && (List.range L.length).all (fun j => ((L[j]?).map (fun o => o.after.all (fun e => e.on < j))).getD false) &&
  (match L.getLast? with
   | some o => o.dst.isNone && (List.range (L.length - 1)).all (fun j => o.after.any (fun e => Region.binds md e && (e.on == j || ((L[e.on]?).map (fun x => x.after.any (fun e2 => Region.binds md e2 && e2.on == j))).getD false)))
   | none => false)

theorem wpIn_of_quietR {o : Oper} {a : Act} {K : Act → Prop} {K' : Act → World → Prop} {Q' : Exit → Act → World → Prop} {w : World} (hro : ∀ c, o.op ≠ .defer c) (hw : C w) (h : ∀ a w', C w' → K a → K' a w')
    (ha : o.askedIn F P a C) (hh : o.quietIn F n P a C K) : o.wpIn F n P a w K' Q' := by
  obtain ⟨v, h1, h2⟩ := hh
  have h3 := h1 w hw
  unfold Oper.quietAtIn at h3
  unfold Oper.wpIn
  refine ⟨ha w hw, ?_⟩
  rw [Oper.semAt_eq _ _ _ hro]
  generalize (execOp a.eval o).run P w = r at *
  cases r with
  | ok x w' =>
    cases x <;> simp only [Oper.quietUponIn] at h3 <;> simp only [Oper.uponIn]
    case value u =>
      obtain ⟨e1, e2⟩ := h3
      rw [e1, e2]
      exact h _ _ hw h2
    case skip =>
      obtain ⟨e1, e2⟩ := h3
      rw [e1, ← e2]
      exact h _ _ hw h2
    case enter f args =>
      obtain ⟨e1, hd, hc⟩ := h3
      rw [e1]
      exact ⟨hd, hc.mono fun e w'' ⟨he, hw''⟩ => by subst he; exact h _ _ hw'' h2⟩
  | halt x w' => simp only [Oper.quietUponIn] at h3

section
variable {l : List Oper} {o : Oper}
theorem ops_at (x : Oper) (i : Nat) (hi : i ≠ l.length) : (l ++ [o]).toArray[i]? = (l ++ [x]).toArray[i]? := by
  simp only [List.getElem?_toArray]
  rcases Nat.lt_or_ge i l.length with h | h
  · rw [List.getElem?_append_left h, List.getElem?_append_left h]
  · rw [List.getElem?_append_right h, List.getElem?_append_right h, List.getElem?_eq_none (by simp; omega), List.getElem?_eq_none (by simp; omega)]
theorem ops_last (o : Oper) : (l ++ [o]).toArray[l.length]? = some o := by simp
theorem yielded_noop (hd : o.dst = none) (tmps : Array Value) : yielded (l ++ [noop o]).toArray tmps = yielded (l ++ [o]).toArray tmps := by
  funext j
  unfold yielded
  by_cases hj : j = l.length
  · subst hj
    rw [ops_last, ops_last]
    simp [noop, hd]
  · rw [ops_at o j hj]
theorem ready_noop (listed : Array Bool) : Region.ready md (l ++ [noop o]).toArray listed = Region.ready md (l ++ [o]).toArray listed := by
  unfold Region.ready
  have hs : (l ++ [noop o]).toArray.size = (l ++ [o]).toArray.size := by simp
  rw [hs]
  refine List.filter_congr ?_
  intro j _
  by_cases hj : j = l.length
  · subst hj
    rw [ops_last, ops_last]
    rfl
  · rw [ops_at o j hj]
theorem ready_ne (hlow : ∀ (j : Nat) (x : Oper), (l ++ [o]).toArray[j]? = some x → ∀ e ∈ x.after, e.on < j) (listed : Array Bool) (hs : listed.size = l.length + 1) :
    ∀ j, listed.getD j true = false → Region.ready md (l ++ [o]).toArray listed ≠ [] := by
  intro j
  induction j using Nat.strongRecOn with
  | _ j ih =>
    intro hj
    have hjs : j < l.length + 1 := by
      rcases Nat.lt_or_ge j listed.size with h | h
      · omega
      · simp [Array.getD, Nat.not_lt.2 h] at hj
    obtain ⟨x, hx⟩ : ∃ x, (l ++ [o]).toArray[j]? = some x := ⟨_, Array.getElem?_eq_getElem (by simpa using hjs)⟩
    by_cases hall : ∀ e ∈ x.after, Region.binds md e = true → listed.getD e.on false = true
    · have : j ∈ Region.ready md (l ++ [o]).toArray listed := mem_ready.2 ⟨hj, x, hx, hall⟩
      intro h0
      rw [h0] at this
      cases this
    · obtain ⟨e, he, hb, hl⟩ : ∃ e ∈ x.after, Region.binds md e = true ∧ ¬ listed.getD e.on false = true := by
        refine Classical.byContradiction fun hc => hall fun e he hb => Classical.byContradiction fun hl => hc ⟨e, he, hb, hl⟩
      have h1 := hlow j x hx e he
      refine ih e.on h1 ?_
      have hlt : e.on < listed.size := by omega
      simp [Array.getD, hlt] at hl ⊢
      exact hl
theorem any_last {Q : Act → Prop} {Q' : Exit → Act → World → Prop} (hd : o.dst = none) (hnd : ∀ x ∈ l, ∀ c, x.op ≠ .defer c) (hw : ∀ j, j < l.length → ∃ e ∈ o.after, Region.binds md e = true ∧ (e.on = j ∨ ∃ x, (l ++ [o]).toArray[e.on]? = some x ∧ ∃ e2 ∈ x.after, Region.binds md e2 = true ∧ e2.on = j))
    (hlow : ∀ (j : Nat) (x : Oper), (l ++ [o]).toArray[j]? = some x → ∀ e ∈ x.after, e.on < j)
    (hQ : ∀ a w, C w → Q a → wpOpIn F n P (l ++ [o]).toArray Q' l.length (fun a w => Q' .normal a w) a w) :
    ∀ (fuel : Nat) (listed : Array Bool) (a : Act) (w : World), C w → listed.size = l.length + 1 → (∀ (j : Nat) (x : Oper), (l ++ [o]).toArray[j]? = some x → listed.getD j false = true → ∀ e ∈ x.after, Region.binds md e = true → listed.getD e.on false = true) → listed.getD l.length true = false →
      wpAnyQIn F n P md (l ++ [noop o]).toArray C Q fuel listed a → wpAnyIn F n P md (l ++ [o]).toArray Q' fuel listed a w := by
  intro fuel
  induction fuel with
  | zero =>
    intro listed a w hC hs hcl hl h
    have := h.1
    rw [ready_noop] at this
    exact absurd this (ready_ne hlow listed hs _ hl)
  | succ fuel ih =>
    intro listed a w hC hs hcl hl h
    refine ⟨fun h0 => absurd h0 (ready_ne hlow listed hs _ hl), fun i hi => ?_⟩
    have hq := h.2 i (by rw [ready_noop]; exact hi)
    have hcl2 : ∀ i, i ∈ Region.ready md (l ++ [o]).toArray listed → ∀ (j : Nat) (x : Oper), (l ++ [o]).toArray[j]? = some x → (listed.setIfInBounds i true).getD j false = true → ∀ e ∈ x.after, Region.binds md e = true → (listed.setIfInBounds i true).getD e.on false = true := by
      intro i hi j x hx hj e he hb
      refine getD_set_true ?_
      by_cases hji : j = i
      · subst hji
        obtain ⟨_, x', hx', hall⟩ := mem_ready.1 hi
        rw [hx] at hx'
        cases hx'
        exact hall e he hb
      · rw [getD_set_ne false (Ne.symm hji)] at hj
        exact hcl j x hx hj e he hb
    by_cases hil : i = l.length
    · subst hil
      have hr0 : Region.ready md (l ++ [o]).toArray (listed.setIfInBounds l.length true) = [] := by
        obtain ⟨_, o', ho', hall⟩ := mem_ready.1 hi
        rw [ops_last] at ho'
        cases ho'
        refine List.eq_nil_iff_forall_not_mem.2 fun j hj => ?_
        obtain ⟨h0, x, hx, _⟩ := mem_ready.1 hj
        have hjs : j < l.length + 1 := by
          have := (Array.getElem?_eq_some_iff.1 hx).1
          simpa using this
        by_cases hjl : j = l.length
        · subst hjl
          simp [Array.getD, hs] at h0
        · rw [getD_set_ne true (Ne.symm hjl)] at h0
          obtain ⟨e, he, hb, hh⟩ := hw j (by omega)
          have h1 := hall e he hb
          have h2 : listed.getD j false = true := by
            rcases hh with rfl | ⟨x2, hx2, e2, he2, hb2, rfl⟩
            · exact h1
            · exact hcl e.on x2 hx2 h1 e2 he2 hb2
          have hlt : j < listed.size := by omega
          simp [Array.getD, hlt] at h0 h2
          rw [h0] at h2
          cases h2
      unfold qOpIn at hq
      rw [ops_last] at hq
      simp only at hq
      obtain ⟨_, hq⟩ := hq
      have hwn : Region.wanted (noop o) (yielded (l ++ [noop o]).toArray a.tmps) = true := rfl
      rw [if_pos hwn] at hq
      obtain ⟨v, _, hq⟩ := hq
      have hQa : Q a := by
        have hq' : wpAnyQIn F n P md (l ++ [noop o]).toArray C Q fuel (listed.setIfInBounds l.length true) a := hq
        cases fuel with
        | zero => exact hq'.2
        | succ k => exact hq'.1 (by rw [ready_noop]; exact hr0)
      refine wpOpIn_mono (fun a' w' hk => ?_) (hQ a w hC hQa)
      cases fuel with
      | zero => exact ⟨hr0, hk⟩
      | succ k => exact ⟨fun _ => hk, fun j hj => by rw [hr0] at hj; cases hj⟩
    · have hnext : ∀ (a' : Act) (w' : World), C w' → wpAnyQIn F n P md (l ++ [noop o]).toArray C Q fuel (listed.setIfInBounds i true) a' → wpAnyIn F n P md (l ++ [o]).toArray Q' fuel (listed.setIfInBounds i true) a' w' := fun a' w' hC' h' =>
        ih _ a' w' hC' (by simpa using hs) (hcl2 i hi) (by rw [getD_set_ne true hil]; exact hl) h'
      unfold qOpIn at hq
      unfold wpOpIn
      rw [← ops_at (noop o) i hil] at hq
      obtain ⟨_, x, hx, _⟩ := mem_ready.1 hi
      rw [hx] at hq ⊢
      simp only at hq ⊢
      rw [yielded_noop hd] at hq
      obtain ⟨ha, hq⟩ := hq
      split
      · rename_i hwt
        rw [if_pos hwt] at hq
        refine wpIn_of_quietR (hnd x ?_) hC hnext ha hq
        have hx' : (l ++ [o])[i]? = some x := by simpa using hx
        have : i < l.length := by
          have := (List.getElem?_eq_some_iff.1 hx').1
          simp at this
          omega
        rw [List.getElem?_append_left this] at hx'
        exact List.mem_of_getElem? hx'
      · rename_i hwt
        rw [if_neg hwt] at hq
        exact ⟨ha w hC, hnext _ _ hC hq⟩
end

theorem wpIn_region_last {id : Nat} {Q' : Exit → Act → World → Prop} {a : Act} {w : World} {L : List Oper} (hB1 : lastB .any L = true) (hm : P.follows .mixedOrders = true) (hB : Region.lexB .any (setLast L).toArray = true)
    (h : wpQuietIn F n P (setLast L).toArray (fun w' => ∃ n, w' = w.drewN n) (fun a' => ∀ w', (∃ n, w' = w.drewN n) → wpListIn F n P L.toArray Q' (lastOf L) a' w') (setLast L) a) : (Code.region id L.toArray true).wpIn F n P Q' a w := by
  rcases List.eq_nil_or_concat L with rfl | ⟨l, o, rfl⟩
  · simp [lastB] at hB1
  · rw [List.concat_eq_append] at *
    rw [setLast_app] at *
    rw [lastOf_app] at h
    unfold lastB at hB1
    simp only [Bool.and_eq_true] at hB1
    obtain ⟨⟨b1, b2⟩, b3⟩ := hB1
    rw [List.getLast?_append] at b3
    simp only [List.getLast?_singleton, Option.some_or, Bool.and_eq_true, Option.isNone_iff_eq_none, List.all_eq_true, List.mem_range, Array.any_eq_true'] at b3
    simp only [List.all_eq_true, List.mem_range] at b2
    have hlow : ∀ (j : Nat) (x : Oper), (l ++ [o]).toArray[j]? = some x → ∀ e ∈ x.after, e.on < j := by
      intro j x hx e he
      have hj : j < (l ++ [o]).length := by
        have := (Array.getElem?_eq_some_iff.1 hx).1
        simpa using this
      have := b2 j hj
      rw [show (l ++ [o])[j]? = some x by simpa using hx] at this
      simp only [Option.map_some, Option.getD_some, Array.all_eq_true_iff_forall_mem, decide_eq_true_eq] at this
      exact this e he
    have hw : ∀ j, j < l.length → ∃ e ∈ o.after, Region.binds .any e = true ∧ (e.on = j ∨ ∃ x, (l ++ [o]).toArray[e.on]? = some x ∧ ∃ e2 ∈ x.after, Region.binds .any e2 = true ∧ e2.on = j) := by
      intro j hj
      obtain ⟨e, he, hh⟩ := b3.2 j (by simpa using hj)
      simp only [Bool.and_eq_true, Bool.or_eq_true, beq_iff_eq] at hh
      refine ⟨e, he, hh.1, ?_⟩
      rcases hh.2 with h1 | h1
      · exact .inl h1
      · cases hx : (l ++ [o])[e.on]? with
        | none => rw [hx] at h1; cases h1
        | some x =>
          rw [hx] at h1
          simp only [Option.map_some, Option.getD_some, Array.any_eq_true', Bool.and_eq_true, beq_iff_eq] at h1
          obtain ⟨e2, he2, hb2, rfl⟩ := h1
          exact .inr ⟨x, by simpa using hx, e2, he2, hb2, rfl⟩
    simp only [Region.lexB, Bool.and_eq_true] at hB
    have hq := wpAnyQIn_lex (F := F) (n := n) (P := P) (C := fun w' => ∃ n, w' = w.drewN n) (md := .any) hB.1 (l ++ [noop o]) 0 (Array.replicate (l ++ [noop o]).toArray.size false) a (by simp) (by simpa using hB.2) h
    refine wpIn_region_any hm ?_
    have hsz : (l ++ [o]).toArray.size = (l ++ [noop o]).length := by simp
    rw [hsz]
    refine any_last (C := fun w' => ∃ n, w' = w.drewN n) b3.1 (fun x hx => noDefer_spec (by rw [List.all_eq_true] at b1; exact b1 x (by simp [hx]))) hw hlow ?_ _ _ _ _ ⟨1, rfl⟩ (by simp) (fun j x _ hj => by simp [Array.getD] at hj) (by simp [Array.getD]) hq
    intro a' w' hC hQ
    have := hQ w' hC
    unfold wpOpIn
    rw [ops_last]
    simpa [wpListIn] using this
end Go.Proofs.Ytafailcjdkmdhaa
