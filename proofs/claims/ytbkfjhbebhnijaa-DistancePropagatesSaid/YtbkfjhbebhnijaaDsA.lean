/-
  law 31 in plain Lean: rounds of distances, least numbers of edges. No program in sight.
-/
import Derived.Test.YtbkfjhbebhnijaaDsB
namespace Go.Proofs.Ytbkfjhbebhnijaa

/-- Does a vertex count? -/
def vB (v : Int) : Bool := decide (0 ≤ v ∧ v ≤ 10000)
theorem vB_iff {v : Int} : vB v = true ↔ 0 ≤ v ∧ v ≤ 10000 := by unfold vB; exact decide_eq_true_iff
/-- One more than the least of some distances. -/
def leastI (l : List Int) : Int := l.foldl (fun m d => min m (max d 0)) 1048576
def nxtI (l : List Int) : Int := min (leastI l + 1) 1048576
/-- The number of vertices. -/
def vtE (n : Int) (e : Int × Int) : Int := if vB e.1 && vB e.2 then max (max n (e.1 + 1)) (e.2 + 1) else n
def vtR (n : Int) (v : Int) : Int := if vB v then max n (v + 1) else n
def vtN (E : List (Int × Int)) (R : List Int) (n : Int) : Int := R.foldl vtR (E.foldl vtE (min n 10001))
def edB (e : Int × Int) : Bool := vB e.1 && vB e.2
/-- Predecessors, successors, roots. -/
def prd (E : List (Int × Int)) (v : Int) : List Int := (E.filter (fun e => edB e && e.2 == v)).map (·.1)
def suc (E : List (Int × Int)) (v : Int) : List Int := (E.filter (fun e => edB e && e.1 == v)).map (·.2)
def rtB (R : List Int) (v : Int) : Bool := vB v && R.contains v
def oldA (D : List Int) (p : Int) : Int := if (D.length : Int) ≤ p then 0 else D.getD p.toNat 0
def rndV (E : List (Int × Int)) (R D : List Int) (v : Int) : Int := if rtB R v then 0 else nxtI ((prd E v).map (oldA D))
def rndA (E : List (Int × Int)) (R D : List Int) : List Int := (List.range (vtN E R D.length).toNat).map (fun v : Nat => rndV E R D (v : Int))
/-! ### The number of vertices -/
theorem vtE_ge (E : List (Int × Int)) : ∀ n : Int, n ≤ E.foldl vtE n := by
  induction E with
  | nil => intro n; exact Int.le_refl _
  | cons e E ih =>
    intro n
    refine Int.le_trans ?_ (ih _)
    unfold vtE
    split <;> omega
theorem vtR_ge (R : List Int) : ∀ n : Int, n ≤ R.foldl vtR n := by
  induction R with
  | nil => intro n; exact Int.le_refl _
  | cons e R ih =>
    intro n
    refine Int.le_trans ?_ (ih _)
    unfold vtR
    split <;> omega
theorem vtE_le (E : List (Int × Int)) : ∀ n : Int, n ≤ 10001 → E.foldl vtE n ≤ 10001 := by
  induction E with
  | nil => intro n h; exact h
  | cons e E ih =>
    intro n h
    refine ih _ ?_
    unfold vtE
    split
    · rename_i hb
      simp only [Bool.and_eq_true, vB_iff] at hb
      omega
    · exact h
theorem vtR_le (R : List Int) : ∀ n : Int, n ≤ 10001 → R.foldl vtR n ≤ 10001 := by
  induction R with
  | nil => intro n h; exact h
  | cons e R ih =>
    intro n h
    refine ih _ ?_
    unfold vtR
    split
    · rename_i hb
      rw [vB_iff] at hb
      omega
    · exact h
theorem vtE_mem (E : List (Int × Int)) : ∀ (n : Int) (e : Int × Int), e ∈ E → edB e = true → e.1 < E.foldl vtE n ∧ e.2 < E.foldl vtE n := by
  induction E with
  | nil => intro n e h; cases h
  | cons x E ih =>
    intro n e he hb
    rcases List.mem_cons.1 he with rfl | he
    · have h1 := vtE_ge E (vtE n e)
      have h2 : e.1 < vtE n e ∧ e.2 < vtE n e := by
        unfold vtE
        unfold edB at hb
        rw [if_pos hb]
        omega
      exact ⟨Int.lt_of_lt_of_le h2.1 h1, Int.lt_of_lt_of_le h2.2 h1⟩
    · exact ih _ e he hb
theorem vtR_mem (R : List Int) : ∀ (n : Int) (v : Int), v ∈ R → vB v = true → v < R.foldl vtR n := by
  induction R with
  | nil => intro n e h; cases h
  | cons x R ih =>
    intro n v hv hb
    rcases List.mem_cons.1 hv with rfl | hv
    · have h1 := vtR_ge R (vtR n v)
      have h2 : v < vtR n v := by
        unfold vtR
        rw [if_pos hb]
        omega
      exact Int.lt_of_lt_of_le h2 h1
    · exact ih _ v hv hb
theorem vtN_bd (E : List (Int × Int)) (R : List Int) {n : Int} (h : 0 ≤ n) : 0 ≤ vtN E R n ∧ vtN E R n ≤ 10001 ∧ min n 10001 ≤ vtN E R n := by
  have h1 := vtE_ge E (min n 10001)
  have h2 := vtR_ge R (E.foldl vtE (min n 10001))
  have h3 := vtR_le R _ (vtE_le E (min n 10001) (by omega))
  unfold vtN
  omega
theorem vtN_edge {E : List (Int × Int)} {R : List Int} {n : Int} {e : Int × Int} (he : e ∈ E) (hb : edB e = true) : e.1 < vtN E R n ∧ e.2 < vtN E R n := by
  obtain ⟨h1, h2⟩ := vtE_mem E (min n 10001) e he hb
  have h3 := vtR_ge R (E.foldl vtE (min n 10001))
  unfold vtN
  omega
theorem vtN_root {E : List (Int × Int)} {R : List Int} {n : Int} {v : Int} (h : rtB R v = true) : 0 ≤ v ∧ v < vtN E R n := by
  unfold rtB at h
  simp only [Bool.and_eq_true, List.contains_iff_mem] at h
  exact ⟨(vB_iff.1 h.1).1, vtR_mem R _ v h.2 h.1⟩
theorem vtE_min (E : List (Int × Int)) : ∀ a b : Int, E.foldl vtE (max a b) = max a (E.foldl vtE b) := by
  induction E with
  | nil => intro a b; rfl
  | cons e E ih =>
    intro a b
    simp only [List.foldl_cons]
    rw [← ih]
    congr 1
    unfold vtE
    split <;> omega
theorem vtR_min (R : List Int) : ∀ a b : Int, R.foldl vtR (max a b) = max a (R.foldl vtR b) := by
  induction R with
  | nil => intro a b; rfl
  | cons e R ih =>
    intro a b
    simp only [List.foldl_cons]
    rw [← ih]
    congr 1
    unfold vtR
    split <;> omega
theorem vtN_max (E : List (Int × Int)) (R : List Int) {n : Int} (h : 0 ≤ n) : vtN E R n = max (min n 10001) (vtN E R 0) := by
  unfold vtN
  have e : min n 10001 = max (min n 10001) (min 0 10001) := by omega
  rw [← vtR_min, ← vtE_min, ← e]
theorem rndA_len (E : List (Int × Int)) (R D : List Int) : ((rndA E R D).length : Int) = vtN E R D.length := by
  have := vtN_bd E R (n := D.length) (by omega)
  unfold rndA
  simp
  omega
/-- Rounds keep the number of vertices. -/
theorem vtN_rnd (E : List (Int × Int)) (R D : List Int) : vtN E R (rndA E R D).length = vtN E R D.length := by
  rw [rndA_len]
  have h1 := vtN_bd E R (n := D.length) (by omega)
  have h2 := vtN_max E R (n := D.length) (by omega)
  rw [vtN_max E R h1.1]
  have h3 := vtN_bd E R (n := 0) (by omega)
  omega
theorem rndA_get {E : List (Int × Int)} {R D : List Int} {v : Nat} (h : (v : Int) < vtN E R D.length) : (rndA E R D)[v]? = some (rndV E R D v) := by
  unfold rndA
  have : v < (vtN E R D.length).toNat := by omega
  rw [List.getElem?_map, List.getElem?_range this]
  rfl
/-! ### The least -/
theorem least_le (l : List Int) : ∀ m : Int, l.foldl (fun m d => min m (max d 0)) m ≤ m := by
  induction l with
  | nil => intro m; exact Int.le_refl _
  | cons d l ih => intro m; simp only [List.foldl_cons]; exact Int.le_trans (ih _) (by omega)
theorem least_mem (l : List Int) : ∀ m d : Int, d ∈ l → l.foldl (fun m d => min m (max d 0)) m ≤ max d 0 := by
  induction l with
  | nil => intro m d h; cases h
  | cons x l ih =>
    intro m d h
    simp only [List.foldl_cons]
    rcases List.mem_cons.1 h with rfl | h
    · exact Int.le_trans (least_le l _) (by omega)
    · exact ih _ d h
theorem least_ge (l : List Int) (k : Int) : ∀ m : Int, k ≤ m → (∀ d ∈ l, k ≤ max d 0) → k ≤ l.foldl (fun m d => min m (max d 0)) m := by
  induction l with
  | nil => intro m h _; exact h
  | cons x l ih =>
    intro m h hd
    simp only [List.foldl_cons]
    refine ih _ ?_ (fun d hd' => hd d (List.mem_cons_of_mem _ hd'))
    have := hd x (by simp)
    omega
theorem nxt_ge {l : List Int} {k : Int} (hk : k ≤ 1048576) (h : ∀ d ∈ l, k ≤ max d 0 + 1) : k ≤ nxtI l := by
  unfold nxtI leastI
  have := least_ge l (k - 1) 1048576 (by omega) (fun d hd => by have := h d hd; omega)
  omega
theorem nxt_le {l : List Int} {d : Int} (h : d ∈ l) : nxtI l ≤ max d 0 + 1 := by
  unfold nxtI leastI
  have := least_mem l 1048576 d h
  omega
theorem nxt_bd (l : List Int) : 1 ≤ nxtI l ∧ nxtI l ≤ 1048576 := by
  unfold nxtI leastI
  have h1 := least_ge l 0 1048576 (by omega) (fun d _ => by omega)
  have h2 := least_le l 1048576
  omega
theorem rnd_bd (E : List (Int × Int)) (R D : List Int) (v : Int) : 0 ≤ rndV E R D v ∧ rndV E R D v ≤ 1048576 := by
  unfold rndV
  split
  · omega
  · have := nxt_bd ((prd E v).map (oldA D)); omega
theorem mem_prd {E : List (Int × Int)} {p v : Int} : p ∈ prd E v ↔ (p, v) ∈ E ∧ edB (p, v) = true := by
  unfold prd
  simp only [List.mem_map, List.mem_filter, Bool.and_eq_true, beq_iff_eq]
  constructor
  · rintro ⟨⟨a, b⟩, ⟨h1, h2, h3⟩, h4⟩
    simp only at h3 h4
    subst h3 h4
    exact ⟨h1, h2⟩
  · rintro ⟨h1, h2⟩
    exact ⟨(p, v), ⟨h1, h2, rfl⟩, rfl⟩
theorem mem_suc {E : List (Int × Int)} {u w : Int} : w ∈ suc E u ↔ (u, w) ∈ E ∧ edB (u, w) = true := by
  unfold suc
  simp only [List.mem_map, List.mem_filter, Bool.and_eq_true, beq_iff_eq]
  constructor
  · rintro ⟨⟨a, b⟩, ⟨h1, h2, h3⟩, h4⟩
    simp only at h3 h4
    subst h3 h4
    exact ⟨h1, h2⟩
  · rintro ⟨h1, h2⟩
    exact ⟨(u, w), ⟨h1, h2, rfl⟩, rfl⟩
/-! ### What a list of least numbers of edges is -/
structure Bnd (E : List (Int × Int)) (R B : List Int) : Prop where
  len : (B.length : Int) = vtN E R 0
  lo : ∀ (v : Nat) (x : Int), B[v]? = some x → -1 ≤ x
  zero : ∀ (v : Nat) (x : Int), B[v]? = some x → (x = 0 ↔ rtB R v = true)
  pre : ∀ (v : Nat) (x : Int), B[v]? = some x → 0 < x → ∃ p : Nat, (p : Int) ∈ prd E v ∧ B[p]? = some (x - 1)
  nxt : ∀ (u v : Nat) (x y : Int), (u : Int) ∈ prd E v → B[u]? = some x → B[v]? = some y → 0 ≤ x → 0 ≤ y ∧ y ≤ x + 1
/-- Distances of vertices without a way from a root grow with every round. -/
theorem grow_step {E : List (Int × Int)} {R B : List Int} (hB : Bnd E R B) {D : List Int} {k : Int} (hk : k + 1 ≤ 1048576)
    (hD : ∀ (v : Nat) (d : Int), D[v]? = some d → (B[v]? = none ∨ ∃ x, B[v]? = some x ∧ x < 0) → k ≤ d) (hl : k ≤ 0 ∨ vtN E R 0 ≤ D.length) :
    ∀ (v : Nat) (d : Int), (rndA E R D)[v]? = some d → (B[v]? = none ∨ ∃ x, B[v]? = some x ∧ x < 0) → k + 1 ≤ d := by
  intro v d hd hv
  have hvt : (v : Int) < vtN E R D.length := by
    have := (List.getElem?_eq_some_iff.1 hd).1
    have := rndA_len E R D
    omega
  rw [rndA_get hvt] at hd
  cases hd
  unfold rndV
  have hr : rtB R v = false := by
    cases h : rtB R v
    · rfl
    · have h1 := (vtN_root (E := E) (n := 0) h).2
      have h2 : v < B.length := by have := hB.len; omega
      rcases hv with h3 | ⟨x, h3, h4⟩
      · rw [List.getElem?_eq_none_iff] at h3; omega
      · have := (hB.zero v x h3).2 h; omega
  rw [hr]
  simp only [Bool.false_eq_true, if_false]
  refine nxt_ge hk (fun z hz => ?_)
  obtain ⟨p, hp, rfl⟩ := List.mem_map.1 hz
  obtain ⟨h1, h2⟩ := mem_prd.1 hp
  obtain ⟨h3, h4⟩ := vtN_edge (R := R) (n := 0) h1 h2
  simp only at h3 h4
  have h0 : 0 ≤ p := by
    unfold edB at h2
    simp only [Bool.and_eq_true, vB_iff] at h2
    omega
  obtain ⟨p, rfl⟩ := Int.eq_ofNat_of_zero_le h0
  have hpB : p < B.length := by have := hB.len; omega
  have hvB : v < B.length := by have := hB.len; omega
  obtain ⟨y, hy⟩ : ∃ y, B[p]? = some y := ⟨_, List.getElem?_eq_getElem hpB⟩
  obtain ⟨x, hx⟩ : ∃ x, B[v]? = some x := ⟨_, List.getElem?_eq_getElem hvB⟩
  have hx0 : x < 0 := by
    rcases hv with h | ⟨x', h, h'⟩
    · rw [hx] at h; cases h
    · rw [hx] at h; cases h; exact h'
  have hy0 : y < 0 := by
    by_cases hy' : 0 ≤ y
    · have := (hB.nxt p v y x hp hy hx hy').1; omega
    · omega
  unfold oldA
  by_cases hpd : (D.length : Int) ≤ (p : Int)
  · rw [if_pos hpd]
    rcases hl with hl | hl
    · omega
    · omega
  · rw [if_neg hpd]
    have hpd' : p < D.length := by omega
    have := hD p _ (List.getElem?_eq_getElem hpd') (.inr ⟨y, hy, hy0⟩)
    rw [Int.toNat_natCast, List.getD_eq_getElem?_getD, List.getElem?_eq_getElem hpd', Option.getD_some]
    omega
/-- Rounds. -/
def rndN (E : List (Int × Int)) (R : List Int) : Nat → List Int → List Int
  | 0, D => D
  | n + 1, D => rndA E R (rndN E R n D)
theorem rndN_vt (E : List (Int × Int)) (R D : List Int) : ∀ n, vtN E R (rndN E R n D).length = vtN E R D.length := by
  intro n
  induction n with
  | zero => rfl
  | succ n ih => show vtN E R (rndA E R (rndN E R n D)).length = _; rw [vtN_rnd, ih]
theorem rndN_len (E : List (Int × Int)) (R D : List Int) (n : Nat) : ((rndN E R (n + 1) D).length : Int) = vtN E R D.length := by
  show ((rndA E R (rndN E R n D)).length : Int) = _
  rw [rndA_len, rndN_vt]
theorem grows_law {E : List (Int × Int)} {R B : List Int} (hB : Bnd E R B) (D : List Int) : ∀ n : Nat, (n : Int) + 1 ≤ 1048576 → ∀ (v : Nat) (d : Int), (rndN E R (n + 1) D)[v]? = some d → (B[v]? = none ∨ ∃ x, B[v]? = some x ∧ x < 0) → (n : Int) + 1 ≤ d := by
  intro n
  induction n with
  | zero =>
    intro h v d hd hv
    have hvt : (v : Int) < vtN E R D.length := by
      have := (List.getElem?_eq_some_iff.1 hd).1
      have := rndN_len E R D 0
      omega
    have h0 : (rndN E R 1 D) = rndA E R D := rfl
    rw [h0, rndA_get hvt] at hd
    cases hd
    unfold rndV
    split
    · rename_i hr
      have h1 := (vtN_root (E := E) (n := 0) hr).2
      have h2 : v < B.length := by have := hB.len; omega
      rcases hv with h3 | ⟨x, h3, h4⟩
      · rw [List.getElem?_eq_none_iff] at h3; omega
      · have := (hB.zero v x h3).2 hr; omega
    · have := (nxt_bd ((prd E v).map (oldA D))).1; omega
  | succ n ih =>
    intro h v d hd hv
    have h1 := vtN_max E R (n := D.length) (by omega)
    have h2 := vtN_bd E R (n := 0) (by omega)
    have := grow_step hB (D := rndN E R (n + 1) D) (k := (n : Int) + 1) (by omega) (fun v d hd hv => ih (by omega) v d hd hv) (.inr (by rw [rndN_len]; omega)) v d hd hv
    omega
/-- Where a root leads, the distance settles. -/
theorem upper_law {E : List (Int × Int)} {R B : List Int} (hB : Bnd E R B) (D : List Int) : ∀ (n : Nat) (v : Nat) (x d : Int), B[v]? = some x → 0 ≤ x → x ≤ n → (rndN E R (n + 1) D)[v]? = some d → d ≤ x := by
  intro n
  induction n with
  | zero =>
    intro v x d hx h0 h1 hd
    have hvt : (v : Int) < vtN E R D.length := by
      have := (List.getElem?_eq_some_iff.1 hd).1
      have := rndN_len E R D 0
      omega
    have hr := (hB.zero v x hx).1 (by omega)
    have e0 : (rndN E R 1 D) = rndA E R D := rfl
    rw [show (0 : Nat) + 1 = 1 from rfl, e0, rndA_get hvt] at hd
    cases hd
    unfold rndV
    rw [hr]
    simp
    omega
  | succ n ih =>
    intro v x d hx h0 h1 hd
    have hvt : (v : Int) < vtN E R (rndN E R (n + 1) D).length := by
      have := (List.getElem?_eq_some_iff.1 hd).1
      have := rndN_len E R D (n + 1)
      rw [rndN_vt]
      omega
    have e0 : (rndN E R (n + 1 + 1) D) = rndA E R (rndN E R (n + 1) D) := rfl
    rw [e0, rndA_get hvt] at hd
    cases hd
    unfold rndV
    by_cases hx0 : x = 0
    · have hr := (hB.zero v x hx).1 hx0
      rw [hr]
      simp
      omega
    · split
      · omega
      · obtain ⟨p, hp, hpx⟩ := hB.pre v x hx (by omega)
        have hpl : p < (rndN E R (n + 1) D).length := by
          have h2 := (List.getElem?_eq_some_iff.1 hpx).1
          have h3 := rndN_len E R D n
          have h4 := hB.len
          have h5 := vtN_max E R (n := D.length) (by omega)
          omega
        have hle := ih p (x - 1) _ hpx (by omega) (by omega) (List.getElem?_eq_getElem hpl)
        refine Int.le_trans (nxt_le (List.mem_map.2 ⟨(p : Int), hp, rfl⟩)) ?_
        unfold oldA
        rw [if_neg (by omega), Int.toNat_natCast, List.getD_eq_getElem?_getD, List.getElem?_eq_getElem hpl, Option.getD_some]
        omega
theorem lower_law {E : List (Int × Int)} {R B : List Int} (hB : Bnd E R B) (D : List Int) : ∀ (n : Nat), (n : Int) + 1 ≤ 1048576 → ∀ (v : Nat) (x d : Int), B[v]? = some x → 0 ≤ x → (rndN E R (n + 1) D)[v]? = some d → min x ((n : Int) + 1) ≤ d := by
  intro n
  induction n with
  | zero =>
    intro hn v x d hx h0 hd
    have hvt : (v : Int) < vtN E R D.length := by
      have := (List.getElem?_eq_some_iff.1 hd).1
      have := rndN_len E R D 0
      omega
    have e0 : (rndN E R 1 D) = rndA E R D := rfl
    rw [show (0 : Nat) + 1 = 1 from rfl, e0, rndA_get hvt] at hd
    cases hd
    unfold rndV
    split
    · rename_i hr
      have := (hB.zero v x hx).2 hr
      omega
    · have := (nxt_bd ((prd E v).map (oldA D))).1
      omega
  | succ n ih =>
    intro hn v x d hx h0 hd
    have hvt : (v : Int) < vtN E R (rndN E R (n + 1) D).length := by
      have := (List.getElem?_eq_some_iff.1 hd).1
      have := rndN_len E R D (n + 1)
      rw [rndN_vt]
      omega
    have e0 : (rndN E R (n + 1 + 1) D) = rndA E R (rndN E R (n + 1) D) := rfl
    rw [e0, rndA_get hvt] at hd
    cases hd
    unfold rndV
    split
    · rename_i hr
      have := (hB.zero v x hx).2 hr
      omega
    · refine nxt_ge (by omega) (fun z hz => ?_)
      obtain ⟨p, hp, rfl⟩ := List.mem_map.1 hz
      obtain ⟨h1, h2⟩ := mem_prd.1 hp
      obtain ⟨h3, h4⟩ := vtN_edge (R := R) (n := 0) h1 h2
      simp only at h3 h4
      have hp0 : 0 ≤ p := by
        unfold edB at h2
        simp only [Bool.and_eq_true, vB_iff] at h2
        omega
      obtain ⟨p, rfl⟩ := Int.eq_ofNat_of_zero_le hp0
      have hpB : p < B.length := by have := hB.len; omega
      obtain ⟨y, hy⟩ : ∃ y, B[p]? = some y := ⟨_, List.getElem?_eq_getElem hpB⟩
      have hpl : p < (rndN E R (n + 1) D).length := by
        have h3 := rndN_len E R D n
        have h4 := hB.len
        have h5 := vtN_max E R (n := D.length) (by omega)
        omega
      unfold oldA
      rw [if_neg (by omega), Int.toNat_natCast, List.getD_eq_getElem?_getD, List.getElem?_eq_getElem hpl, Option.getD_some]
      by_cases hy0 : 0 ≤ y
      · have h6 := (hB.nxt p v y x hp hy hx hy0).2
        have := ih (by omega) p y _ hy hy0 (List.getElem?_eq_getElem hpl)
        omega
      · have := grows_law hB D n (by omega) p _ (List.getElem?_eq_getElem hpl) (.inr ⟨y, hy, by omega⟩)
        omega
end Go.Proofs.Ytbkfjhbebhnijaa
