/-
  law 31 in plain Lean: what the statements ask. No program in sight.
-/
import Derived.Test.YtbkfjhbebhnijaaDsC
namespace Go.Proofs.Ytbkfjhbebhnijaa

theorem leastI_mono {α : Type} (f g : α → Int) : ∀ (l : List α) (m m' : Int), m ≤ m' → (∀ p ∈ l, f p ≤ g p) → (l.map f).foldl (fun m d => min m (max d 0)) m ≤ (l.map g).foldl (fun m d => min m (max d 0)) m' := by
  intro l
  induction l with
  | nil => intro m m' h _; exact h
  | cons p l ih =>
    intro m m' h hp
    simp only [List.map_cons, List.foldl_cons]
    have := hp p (by simp)
    exact ih _ _ (by omega) (fun q hq => hp q (List.mem_cons_of_mem _ hq))
/-- Greater distances yield none that is smaller. -/
theorem mono_law {E : List (Int × Int)} {R D D' : List Int} (hl : D'.length = D.length) (h : ∀ (i : Nat) (x y : Int), D[i]? = some x → D'[i]? = some y → x ≤ y) : (rndA E R D).length = (rndA E R D').length ∧ ∀ (v : Nat) (x y : Int), (rndA E R D)[v]? = some x → (rndA E R D')[v]? = some y → x ≤ y := by
  have h1 := rndA_len E R D
  have h2 := rndA_len E R D'
  rw [hl] at h2
  refine ⟨by omega, fun v x y hx hy => ?_⟩
  have hv : (v : Int) < vtN E R D.length := by have := (List.getElem?_eq_some_iff.1 hx).1; omega
  rw [rndA_get hv] at hx
  rw [rndA_get (by rw [hl]; exact hv)] at hy
  cases hx
  cases hy
  unfold rndV
  split
  · exact Int.le_refl _
  · unfold nxtI leastI
    have := leastI_mono (oldA D) (oldA D') (prd E v) 1048576 1048576 (Int.le_refl _) (fun p hp => by
      unfold oldA
      rw [hl]
      split
      · exact Int.le_refl _
      · obtain ⟨m1, m2⟩ := mem_prd.1 hp
        have hp0 : 0 ≤ p := by
          unfold edB at m2
          simp only [Bool.and_eq_true, vB_iff] at m2
          omega
        obtain ⟨p, rfl⟩ := Int.eq_ofNat_of_zero_le hp0
        have hpl : p < D.length := by omega
        have hpl' : p < D'.length := by omega
        rw [Int.toNat_natCast, List.getD_eq_getElem?_getD, List.getD_eq_getElem?_getD, List.getElem?_eq_getElem hpl, List.getElem?_eq_getElem hpl', Option.getD_some, Option.getD_some]
        exact h p _ _ (List.getElem?_eq_getElem hpl) (List.getElem?_eq_getElem hpl'))
    omega
theorem bnd_chain {E : List (Int × Int)} {R B : List Int} (hB : Bnd E R B) : ∀ (n : Nat) (v : Nat), B[v]? = some (n : Int) → ∃ S : List Nat, S.Nodup ∧ S.length = n + 1 ∧ ∀ p ∈ S, ∃ y : Int, B[p]? = some y ∧ y ≤ n := by
  intro n
  induction n with
  | zero => intro v hv; exact ⟨[v], by simp, rfl, fun p hp => ⟨0, by rw [List.mem_singleton.1 hp]; exact hv, by omega⟩⟩
  | succ n ih =>
    intro v hv
    obtain ⟨p, _, hp⟩ := hB.pre v _ hv (by omega)
    obtain ⟨S, h1, h2, h3⟩ := ih p (by rw [hp]; congr 1; omega)
    refine ⟨v :: S, List.nodup_cons.2 ⟨fun hm => ?_, h1⟩, by simp [h2], fun q hq => ?_⟩
    · obtain ⟨y, y1, y2⟩ := h3 v hm
      rw [hv] at y1
      cases y1
      omega
    · rcases List.mem_cons.1 hq with rfl | hq
      · exact ⟨_, hv, by omega⟩
      · obtain ⟨y, y1, y2⟩ := h3 q hq
        exact ⟨y, y1, by omega⟩
theorem bnd_lt {E : List (Int × Int)} {R B : List Int} (hB : Bnd E R B) {v : Nat} {x : Int} (hx : B[v]? = some x) : x < B.length := by
  have hv := (List.getElem?_eq_some_iff.1 hx).1
  by_cases h0 : 0 ≤ x
  · obtain ⟨n, rfl⟩ := Int.eq_ofNat_of_zero_le h0
    obtain ⟨S, h1, h2, h3⟩ := bnd_chain hB n v hx
    have := List.Nodup.length_le_of_subset h1 (l₂ := List.range B.length) (fun p hp => by
      obtain ⟨y, hy, _⟩ := h3 p hp
      exact List.mem_range.2 (List.getElem?_eq_some_iff.1 hy).1)
    rw [List.length_range] at this
    omega
  · omega
/-- After as many rounds as there are vertices. -/
theorem conv_law {E : List (Int × Int)} {R B : List Int} (hB : Bnd E R B) (D : List Int) {n : Nat} (hn : vtN E R D.length ≤ n) (hn2 : n ≤ 20000) {v : Nat} {x : Int} (hx : B[v]? = some x) : ∃ d, (rndN E R n D)[v]? = some d ∧ (0 ≤ x → d = x) := by
  have hv := (List.getElem?_eq_some_iff.1 hx).1
  have h1 := vtN_max E R (n := D.length) (by omega)
  have h2 := hB.len
  cases n with
  | zero => omega
  | succ n =>
    have h3 := rndN_len E R D n
    have hl : v < (rndN E R (n + 1) D).length := by omega
    refine ⟨_, List.getElem?_eq_getElem hl, fun h0 => ?_⟩
    have h4 := bnd_lt hB hx
    have h5 := upper_law hB D n v x _ hx h0 (by omega) (List.getElem?_eq_getElem hl)
    have h6 := lower_law hB D n (by omega) v x _ hx h0 (List.getElem?_eq_getElem hl)
    omega
/-- The reference's round. -/
def refV (E : List (Int × Int)) (R D : List Int) (v : Int) : Int := if R.contains v then 0 else min 1048576 ((E.foldl (fun m e => if e.2 != v || !vB e.1 then m else min m (if e.1 < (D.length : Int) then max (D.getD e.1.toNat 0) 0 else 0)) 1048576) + 1)
theorem ref_least (E : List (Int × Int)) (D : List Int) {v : Int} (hv : vB v = true) : ∀ m : Int, E.foldl (fun m e => if e.2 != v || !vB e.1 then m else min m (if e.1 < (D.length : Int) then max (D.getD e.1.toNat 0) 0 else 0)) m = ((prd E v).map (oldA D)).foldl (fun m d => min m (max d 0)) m := by
  induction E with
  | nil => intro m; rfl
  | cons e E ih =>
    intro m
    simp only [List.foldl_cons]
    by_cases h : e.2 = v ∧ vB e.1 = true
    · have hb : edB e = true := by unfold edB; rw [h.2, h.1, hv]; rfl
      have e1 : prd (e :: E) v = e.1 :: prd E v := by
        unfold prd
        rw [List.filter_cons_of_pos (by simp [hb, h.1])]
        rfl
      rw [e1]
      simp only [List.map_cons, List.foldl_cons]
      rw [if_neg (by simp [h.1, h.2]), ih]
      congr 1
      unfold oldA
      have h0 := (vB_iff.1 h.2).1
      by_cases hl : e.1 < (D.length : Int)
      · rw [if_pos hl, if_neg (by omega)]
      · rw [if_neg hl, if_pos (by omega)]
        omega
    · have e1 : prd (e :: E) v = prd E v := by
        unfold prd
        rw [List.filter_cons_of_neg]
        intro hh
        simp only [Bool.and_eq_true, beq_iff_eq] at hh
        unfold edB at hh
        simp only [Bool.and_eq_true] at hh
        exact h ⟨hh.2, hh.1.1⟩
      rw [e1, if_pos, ih]
      by_cases h1 : e.2 = v
      · have : vB e.1 = false := by
          cases h2 : vB e.1
          · rfl
          · exact absurd ⟨h1, h2⟩ h
        simp [this]
      · simp [h1]
theorem ref_round (E : List (Int × Int)) (R D : List Int) {v : Int} (hv : vB v = true) : refV E R D v = rndV E R D v := by
  unfold refV rndV rtB
  rw [hv, Bool.true_and, ref_least E D hv]
  split
  · rfl
  · unfold nxtI leastI
    omega
theorem nxt_stub (l : List Int) : nxtI l = min 1048576 (l.foldl (fun m d => min m (max d 0)) 1048576 + 1) := by
  unfold nxtI leastI
  omega
end Go.Proofs.Ytbkfjhbebhnijaa
