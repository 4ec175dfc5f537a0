/-
  law 31 in plain Lean: the search from the roots. No program in sight.
-/
import Derived.Test.YtbkfjhbebhnijaaDsA
namespace Go.Proofs.Ytbkfjhbebhnijaa

/-- A successor is visited. -/
def visW (v : Int) (s : List Int × List Int) (w : Int) : List Int × List Int := if s.1.getD w.toNat 0 < 0 then (s.1.set w.toNat (s.1.getD v.toNat 0 + 1), s.2 ++ [w]) else s
/-- The search: at most n vertices are taken off the queue. -/
def bfsS (E : List (Int × Int)) : Nat → List Int × List Int → List Int
  | 0, s => s.1
  | n + 1, s => match s.2 with
    | [] => s.1
    | v :: q => bfsS E n ((suc E v).foldl (visW v) (s.1, q))
def bfsO (R : List Int) (N : Nat) : List Int := (List.range N).map (fun v : Nat => if rtB R (v : Int) then 0 else -1)
def bfsQ (R : List Int) (N : Nat) : List Int := ((List.range N).filter (fun v : Nat => rtB R (v : Int))).map (fun v : Nat => (v : Int))
def bndA (E : List (Int × Int)) (R : List Int) : List Int := bfsS E (vtN E R 0).toNat (bfsO R (vtN E R 0).toNat, bfsQ R (vtN E R 0).toNat)
/-- How many are not found yet. -/
def negs (o : List Int) : Nat := o.countP (fun x => decide (x < 0))
def vl (o : List Int) (a : Int) : Int := o.getD a.toNat 0
theorem vl_nat {o : List Int} {v : Nat} {x : Int} (h : o[v]? = some x) : vl o (v : Int) = x := by
  unfold vl
  rw [Int.toNat_natCast, List.getD_eq_getElem?_getD, h, Option.getD_some]
structure Bf (E : List (Int × Int)) (R o q : List Int) : Prop where
  len : (o.length : Int) = vtN E R 0
  lo : ∀ (v : Nat) (x : Int), o[v]? = some x → -1 ≤ x
  zero : ∀ (v : Nat) (x : Int), o[v]? = some x → (x = 0 ↔ rtB R v = true)
  pre : ∀ (v : Nat) (x : Int), o[v]? = some x → 0 < x → ∃ p : Nat, (p : Int) ∈ prd E v ∧ o[p]? = some (x - 1)
  qm : ∀ w ∈ q, 0 ≤ w ∧ w < o.length ∧ 0 ≤ vl o w
  srt : q.Pairwise (fun a b => vl o a ≤ vl o b)
  top : ∀ a q', q = a :: q' → ∀ (v : Nat) (x : Int), o[v]? = some x → x ≤ vl o a + 1
  done : ∀ (u : Nat) (x : Int), o[u]? = some x → 0 ≤ x → (u : Int) ∉ q → ∀ v : Nat, (u : Int) ∈ prd E v → ∃ y, o[v]? = some y ∧ 0 ≤ y ∧ y ≤ x + 1
structure Md (E : List (Int × Int)) (R : List Int) (v : Int) (L : Int) (dn o q : List Int) : Prop where
  len : (o.length : Int) = vtN E R 0
  lo : ∀ (v : Nat) (x : Int), o[v]? = some x → -1 ≤ x
  zero : ∀ (v : Nat) (x : Int), o[v]? = some x → (x = 0 ↔ rtB R v = true)
  pre : ∀ (v : Nat) (x : Int), o[v]? = some x → 0 < x → ∃ p : Nat, (p : Int) ∈ prd E v ∧ o[p]? = some (x - 1)
  vb : 0 ≤ v ∧ v < o.length ∧ vl o v = L ∧ 0 ≤ L
  qm : ∀ w ∈ q, 0 ≤ w ∧ w < o.length ∧ L ≤ vl o w
  srt : q.Pairwise (fun a b => vl o a ≤ vl o b)
  top : ∀ (v : Nat) (x : Int), o[v]? = some x → x ≤ L + 1
  done : ∀ (u : Nat) (x : Int), o[u]? = some x → 0 ≤ x → (u : Int) ∉ q → (u : Int) ≠ v → ∀ v : Nat, (u : Int) ∈ prd E v → ∃ y, o[v]? = some y ∧ 0 ≤ y ∧ y ≤ x + 1
  vis : ∀ w ∈ dn, 0 ≤ vl o w
theorem md_step {E : List (Int × Int)} {R : List Int} {v L : Int} {dn o q : List Int} (h : Md E R v L dn o q) {w : Int} (hw : w ∈ suc E v) : Md E R v L (w :: dn) (visW v (o, q) w).1 (visW v (o, q) w).2 ∧ negs (visW v (o, q) w).1 + (visW v (o, q) w).2.length = negs o + q.length := by
  obtain ⟨m1, m2⟩ := mem_suc.1 hw
  obtain ⟨m3, m4⟩ := vtN_edge (R := R) (n := 0) m1 m2
  simp only at m3 m4
  have m5 : 0 ≤ w := by
    unfold edB at m2
    simp only [Bool.and_eq_true, vB_iff] at m2
    omega
  have hwl : w < o.length := by have := h.len; omega
  unfold visW
  simp only
  by_cases hn : o.getD w.toNat 0 < 0
  · rw [if_pos hn]
    obtain ⟨w, rfl⟩ := Int.eq_ofNat_of_zero_le m5
    have hvL : o.getD v.toNat 0 = L := h.vb.2.2.1
    rw [hvL, Int.toNat_natCast]
    rw [Int.toNat_natCast] at hn
    have hwl' : w < o.length := by omega
    obtain ⟨z, hz⟩ : ∃ z, o[w]? = some z := ⟨_, List.getElem?_eq_getElem hwl'⟩
    have hz0 : z < 0 := by
      rw [List.getD_eq_getElem?_getD, hz, Option.getD_some] at hn
      exact hn
    have hL0 := h.vb.2.2.2
    have get_ne : ∀ (u : Nat), u ≠ w → (o.set w (L + 1))[u]? = o[u]? := fun u hu => List.getElem?_set_ne (Ne.symm hu)
    have get_eq : (o.set w (L + 1))[w]? = some (L + 1) := List.getElem?_set_self hwl'
    have get : ∀ (u : Nat) (x : Int), (o.set w (L + 1))[u]? = some x → (u = w ∧ x = L + 1) ∨ (u ≠ w ∧ o[u]? = some x) := fun u x hx => by
      by_cases e : u = w
      · subst e
        rw [get_eq] at hx
        cases hx
        exact .inl ⟨rfl, rfl⟩
      · rw [get_ne u e] at hx
        exact .inr ⟨e, hx⟩
    have keep : ∀ (u : Nat) (x : Int), o[u]? = some x → 0 ≤ x → (o.set w (L + 1))[u]? = some x := fun u x hx h0 => by
      rw [get_ne u (fun e => by rw [e, hz] at hx; cases hx; omega)]
      exact hx
    have vkeep : ∀ a : Int, 0 ≤ a → a < o.length → 0 ≤ vl o a → vl (o.set w (L + 1)) a = vl o a := fun a a0 a1 a2 => by
      obtain ⟨a, rfl⟩ := Int.eq_ofNat_of_zero_le a0
      have ha : a < o.length := by omega
      have hx := List.getElem?_eq_getElem ha
      rw [vl_nat hx] at a2 ⊢
      exact vl_nat (keep a _ hx a2)
    have vw : vl (o.set w (L + 1)) (w : Int) = L + 1 := vl_nat get_eq
    have vtop : ∀ a : Int, 0 ≤ a → a < o.length → vl o a ≤ L + 1 := fun a a0 a1 => by
      obtain ⟨a, rfl⟩ := Int.eq_ofNat_of_zero_le a0
      have ha : a < o.length := by omega
      have hx := List.getElem?_eq_getElem ha
      rw [vl_nat hx]
      exact h.top a _ hx
    refine ⟨⟨by rw [List.length_set]; exact h.len, fun u x hx => ?_, fun u x hx => ?_, fun u x hx hp => ?_, ?_, fun a ha => ?_, ?_, fun u x hx => ?_, fun u x hx h0 hu hv v' hp => ?_, fun a ha => ?_⟩, ?_⟩
    · rcases get u x hx with ⟨_, e⟩ | ⟨_, e⟩
      · omega
      · exact h.lo u x e
    · rcases get u x hx with ⟨e1, e⟩ | ⟨_, e⟩
      · constructor
        · intro e'; omega
        · intro e'
          rw [e1] at e'
          have := (h.zero w z hz).2 e'
          omega
      · exact h.zero u x e
    · rcases get u x hx with ⟨e1, e⟩ | ⟨_, e⟩
      · obtain ⟨v, rfl⟩ := Int.eq_ofNat_of_zero_le h.vb.1
        have hvl : v < o.length := by have := h.vb.2.1; omega
        have hxv := List.getElem?_eq_getElem hvl
        have hvx : vl o (v : Int) = o[v] := vl_nat hxv
        refine ⟨v, by rw [e1]; exact mem_prd.2 ⟨m1, m2⟩, ?_⟩
        have := h.vb.2.2.1
        rw [hvx] at this
        rw [keep v _ hxv (by omega), this, e]
        congr 1
        omega
      · obtain ⟨p, hp1, hp2⟩ := h.pre u x e hp
        exact ⟨p, hp1, keep p _ hp2 (by omega)⟩
    · rw [List.length_set]
      exact ⟨h.vb.1, h.vb.2.1, (vkeep v h.vb.1 h.vb.2.1 (by rw [h.vb.2.2.1]; exact hL0)).trans h.vb.2.2.1, hL0⟩
    · rw [List.length_set]
      rcases List.mem_append.1 ha with ha | ha
      · obtain ⟨a0, a1, a2⟩ := h.qm a ha
        exact ⟨a0, a1, by rw [vkeep a a0 a1 (by omega)]; exact a2⟩
      · rw [List.mem_singleton.1 ha, vw]
        omega
    · rw [List.pairwise_append]
      refine ⟨h.srt.imp_of_mem (fun {a b} ha hb hab => ?_), List.pairwise_singleton _ _, fun a ha b hb => ?_⟩
      · obtain ⟨a0, a1, a2⟩ := h.qm a ha
        obtain ⟨b0, b1, b2⟩ := h.qm b hb
        rw [vkeep a a0 a1 (by omega), vkeep b b0 b1 (by omega)]
        exact hab
      · rw [List.mem_singleton.1 hb, vw]
        obtain ⟨a0, a1, a2⟩ := h.qm a ha
        rw [vkeep a a0 a1 (by omega)]
        exact vtop a a0 a1
    · rcases get u x hx with ⟨_, e⟩ | ⟨_, e⟩
      · omega
      · exact h.top u x e
    · rcases get u x hx with ⟨e1, _⟩ | ⟨e1, e⟩
      · exact absurd (List.mem_append.2 (.inr (by rw [e1]; simp))) hu
      · obtain ⟨y, y1, y2, y3⟩ := h.done u x e h0 (fun hq => hu (List.mem_append.2 (.inl hq))) hv v' hp
        exact ⟨y, keep v' y y1 y2, y2, y3⟩
    · rcases List.mem_cons.1 ha with rfl | ha
      · rw [vw]; omega
      · have h1 := h.vis a ha
        by_cases a0 : 0 ≤ a
        · by_cases a1 : a < o.length
          · rw [vkeep a a0 a1 h1]; exact h1
          · unfold vl
            rw [List.getD_eq_getElem?_getD, List.getElem?_eq_none (by rw [List.length_set]; omega)]
            exact Int.le_refl _
        · unfold vl
          rw [List.getD_eq_getElem?_getD, show a.toNat = 0 by omega]
          by_cases e : w = 0
          · subst e
            rw [get_eq, Option.getD_some]; omega
          · rw [get_ne 0 (Ne.symm e), ← List.getD_eq_getElem?_getD]
            unfold vl at h1
            rw [show a.toNat = 0 by omega] at h1
            exact h1
    · unfold negs
      rw [List.length_append, List.countP_set hwl']
      have e1 : o[w] = z := by
        have := List.getElem?_eq_getElem hwl'
        rw [hz] at this
        cases this
        rfl
      have hpos : 0 < List.countP (fun x => decide (x < 0)) o := List.countP_pos_iff.2 ⟨z, List.mem_of_getElem? hz, by simpa using hz0⟩
      rw [e1]
      simp only [decide_eq_true_eq]
      rw [if_pos hz0, if_neg (by omega)]
      simp only [List.length_singleton]
      omega
  · rw [if_neg hn]
    refine ⟨⟨h.len, h.lo, h.zero, h.pre, h.vb, h.qm, h.srt, h.top, h.done, fun a ha => ?_⟩, rfl⟩
    rcases List.mem_cons.1 ha with rfl | ha
    · have hn' : ¬ o.getD a.toNat 0 < 0 := hn
      show 0 ≤ o.getD a.toNat 0
      omega
    · exact h.vis a ha
theorem md_fold {E : List (Int × Int)} {R : List Int} {v L : Int} : ∀ (ws dn o q : List Int), (∀ w ∈ ws, w ∈ suc E v) → Md E R v L dn o q → Md E R v L (ws.reverse ++ dn) (ws.foldl (visW v) (o, q)).1 (ws.foldl (visW v) (o, q)).2 ∧ negs (ws.foldl (visW v) (o, q)).1 + (ws.foldl (visW v) (o, q)).2.length = negs o + q.length := by
  intro ws
  induction ws with
  | nil => intro dn o q _ h; exact ⟨h, rfl⟩
  | cons w ws ih =>
    intro dn o q hs h
    obtain ⟨h1, h2⟩ := md_step h (hs w (by simp))
    obtain ⟨h3, h4⟩ := ih (w :: dn) (visW v (o, q) w).1 (visW v (o, q) w).2 (fun x hx => hs x (List.mem_cons_of_mem _ hx)) h1
    refine ⟨?_, h4.trans h2⟩
    rw [List.reverse_cons, List.append_assoc]
    exact h3
/-- One vertex is taken off the queue. -/
theorem bf_step {E : List (Int × Int)} {R o q : List Int} {v : Int} (h : Bf E R o (v :: q)) : Bf E R ((suc E v).foldl (visW v) (o, q)).1 ((suc E v).foldl (visW v) (o, q)).2 ∧ negs ((suc E v).foldl (visW v) (o, q)).1 + ((suc E v).foldl (visW v) (o, q)).2.length = negs o + q.length := by
  obtain ⟨v0, v1, v2⟩ := h.qm v (by simp)
  have hp := List.pairwise_cons.1 h.srt
  have h0 : Md E R v (vl o v) [] o q := ⟨h.len, h.lo, h.zero, h.pre, ⟨v0, v1, rfl, v2⟩, fun w hw => by
    obtain ⟨a, b, _⟩ := h.qm w (List.mem_cons_of_mem _ hw)
    exact ⟨a, b, hp.1 w hw⟩, hp.2, h.top v q rfl, fun u x hx hx0 hu hv => h.done u x hx hx0 (fun hm => (List.mem_cons.1 hm).elim hv hu), fun w hw => by cases hw⟩
  obtain ⟨hm, hn⟩ := md_fold (suc E v) [] o q (fun w hw => hw) h0
  generalize ((suc E v).foldl (visW v) (o, q)).1 = o' at *
  generalize ((suc E v).foldl (visW v) (o, q)).2 = q' at *
  refine ⟨⟨hm.len, hm.lo, hm.zero, hm.pre, fun w hw => ?_, hm.srt, fun a q2 e u x hx => ?_, fun u x hx hx0 hu v' hp' => ?_⟩, hn⟩
  · obtain ⟨a, b, c⟩ := hm.qm w hw
    exact ⟨a, b, Int.le_trans hm.vb.2.2.2 c⟩
  · have h1 := hm.top u x hx
    have h2 := (hm.qm a (by rw [e]; simp)).2.2
    omega
  · by_cases huv : (u : Int) = v
    · have hm2 := mem_prd.1 hp'
      have hs : (v' : Int) ∈ suc E v := mem_suc.2 (by rw [← huv]; exact hm2)
      have hv2 := hm.vis (v' : Int) (by simp [hs])
      have hvl : v' < o'.length := by
        have := (vtN_edge (R := R) (n := 0) hm2.1 hm2.2).2
        have := hm.len
        simp only at *
        omega
      have hy := List.getElem?_eq_getElem hvl
      rw [vl_nat hy] at hv2
      have hxL : x = vl o v := by
        have := hm.vb.2.2.1
        rw [← huv, vl_nat hx] at this
        rw [← huv]
        exact this
      exact ⟨_, hy, hv2, by rw [hxL]; exact hm.top v' _ hy⟩
    · exact hm.done u x hx hx0 hu huv v' hp'
theorem bf_end {E : List (Int × Int)} {R o : List Int} (h : Bf E R o []) : Bnd E R o := ⟨h.len, h.lo, h.zero, h.pre, fun u v x y hp hx hy h0 => by
  obtain ⟨y', h1, h2, h3⟩ := h.done u x hx h0 (by simp) v hp
  rw [hy] at h1
  cases h1
  exact ⟨h2, h3⟩⟩
theorem bfs_bnd {E : List (Int × Int)} {R : List Int} : ∀ (n : Nat) (o q : List Int), Bf E R o q → negs o + q.length ≤ n → Bnd E R (bfsS E n (o, q)) := by
  intro n
  induction n with
  | zero =>
    intro o q h hn
    have : q = [] := List.length_eq_zero_iff.1 (by omega)
    subst this
    exact bf_end h
  | succ n ih =>
    intro o q h hn
    cases q with
    | nil => exact bf_end h
    | cons v q =>
      obtain ⟨h1, h2⟩ := bf_step h
      exact ih _ _ h1 (by rw [h2]; simp at hn; omega)
theorem bf_start (E : List (Int × Int)) (R : List Int) : Bf E R (bfsO R (vtN E R 0).toNat) (bfsQ R (vtN E R 0).toNat) ∧ negs (bfsO R (vtN E R 0).toNat) + (bfsQ R (vtN E R 0).toNat).length ≤ (vtN E R 0).toNat := by
  have hb := vtN_bd E R (n := 0) (by omega)
  obtain ⟨N, hN⟩ : ∃ N : Nat, (vtN E R 0).toNat = N := ⟨_, rfl⟩
  rw [hN]
  have hl : (bfsO R N).length = N := by unfold bfsO; simp
  have get : ∀ (v : Nat) (x : Int), (bfsO R N)[v]? = some x → x = if rtB R (v : Int) then 0 else -1 := fun v x hx => by
    have hv : v < N := by have := (List.getElem?_eq_some_iff.1 hx).1; omega
    unfold bfsO at hx
    rw [List.getElem?_map, List.getElem?_range hv] at hx
    exact (Option.some.inj hx).symm
  have qv : ∀ w ∈ bfsQ R N, 0 ≤ w ∧ w < N ∧ vl (bfsO R N) w = 0 := fun w hw => by
    unfold bfsQ at hw
    obtain ⟨v, hv, rfl⟩ := List.mem_map.1 hw
    obtain ⟨h1, h2⟩ := List.mem_filter.1 hv
    have h3 := List.mem_range.1 h1
    have h4 : v < (bfsO R N).length := by omega
    have h5 := List.getElem?_eq_getElem h4
    refine ⟨by omega, by omega, ?_⟩
    rw [vl_nat h5, get v _ h5]
    rw [h2]
    rfl
  refine ⟨⟨by rw [hl]; omega, fun v x hx => ?_, fun v x hx => ?_, fun v x hx h0 => ?_, fun w hw => ?_, ?_, fun a q' e v x hx => ?_, fun u x hx h0 hu v hp => ?_⟩, ?_⟩
  · rw [get v x hx]; split <;> omega
  · rw [get v x hx]
    split
    · rename_i h; simp [h]
    · rename_i h; simp [h]
  · rw [get v x hx] at h0
    split at h0 <;> omega
  · obtain ⟨h1, h2, h3⟩ := qv w hw
    rw [hl, h3]
    exact ⟨h1, h2, Int.le_refl _⟩
  · refine List.Pairwise.imp_of_mem (R := fun _ _ => True) (fun {a b} ha hb _ => ?_) (List.pairwise_of_forall (fun _ _ => trivial))
    rw [(qv a ha).2.2, (qv b hb).2.2]
    exact Int.le_refl _
  · rw [(qv a (by rw [e]; simp)).2.2, get v x hx]
    split <;> omega
  · exfalso
    have hv := get u x hx
    split at hv
    · rename_i hr
      apply hu
      unfold bfsQ
      refine List.mem_map.2 ⟨u, List.mem_filter.2 ⟨List.mem_range.2 ?_, hr⟩, rfl⟩
      have := (List.getElem?_eq_some_iff.1 hx).1
      omega
    · omega
  · unfold negs bfsO bfsQ
    rw [List.countP_map, List.length_map, ← List.countP_eq_length_filter]
    have h1 := List.length_eq_countP_add_countP (fun v : Nat => rtB R (v : Int)) (l := List.range N)
    rw [List.length_range] at h1
    have h2 : List.countP ((fun x => decide (x < 0)) ∘ fun v : Nat => if rtB R (v : Int) = true then (0 : Int) else -1) (List.range N) = List.countP (fun a : Nat => decide (¬ rtB R (a : Int) = true)) (List.range N) := by
      congr 1
      funext v
      simp only [Function.comp]
      by_cases hr : rtB R (v : Int) = true
      · simp [hr]
      · simp [hr]
    omega
/-- What the search finds. -/
theorem bnd_law (E : List (Int × Int)) (R : List Int) : Bnd E R (bndA E R) := by
  obtain ⟨h1, h2⟩ := bf_start E R
  exact bfs_bnd _ _ _ h1 h2
end Go.Proofs.Ytbkfjhbebhnijaa
