/-
  law 31: slices.Clone of summaries; a row of summaries whose cells are set.
-/
import Derived.Test.YtbkfjhbebhnijaaDpB
namespace Go.Proofs.Ytbkfjhbebhnijaa
open Go.RowKit Go.Maps Go.WideElems Go.ChangeShapes Go.MapKept
set_option linter.unusedSimpArgs false
set_option linter.unusedVariables false

/-- Block g holds the summaries of P, from its first cell on. -/
def RowS (w : World) (N g : Nat) (P : List (Stb × Value)) : Prop :=
  N ≤ g ∧ (∃ cur, w.heap[g]? = some (.cells cur 52 (0, 0)) ∧ ∀ (i : Nat) (p : Stb × Value), P[i]? = some p → ∀ r, r < 5 → cur[i * 5 + r]? = (stbCells p)[r]?) ∧ ∀ p ∈ P, InsK w N p.2 p.1.ins
theorem RowK.out {w : World} {N : Nat} {v : Value} {P : List (Stb × Value)} (h : RowK w N v P) : ∃ a cap, v = .slice a P.length cap ∧ P.length ≤ cap ∧ cap ≤ 9223372036854775807 ∧ (a = none → cap = 0) ∧ (P = [] ∨ ∃ g, a = some ⟨g, 0, none⟩ ∧ RowS w N g P) := by
  obtain ⟨⟨h1, h2⟩, hi⟩ := h
  rcases h2 with ⟨rfl, h0⟩ | ⟨g, cap, cur, rfl, hN, hh, hn, hm, hs, ht⟩
  · have : P = [] := List.length_eq_zero_iff.1 h0
    subst this
    exact ⟨none, 0, rfl, Nat.le_refl _, by omega, fun _ => rfl, .inl rfl⟩
  · refine ⟨_, cap, rfl, hn, hm, fun e => (by cases e), .inr ⟨g, rfl, hN, ⟨cur, hh, fun i p hp r hr => ?_⟩, hi⟩⟩
    have hi' : i < P.length := (List.getElem?_eq_some_iff.1 hp).1
    have e : (cur.toList.take (P.length * 5))[i * 5 + r]? = (P.flatMap stbCells)[i * 5 + r]? := by rw [ht]
    rw [List.getElem?_take_of_lt (by omega), flat_get (f := stbCells) (k := 5) (fun _ => rfl) P i r hr, hp] at e
    rw [← Array.getElem?_toList, e]
    rfl
theorem RowS.below {w w' : World} {N g : Nat} {P : List (Stb × Value)} (h : RowS w N g P) (hb : Below w.heap.size w w') : RowS w' N g P := by
  obtain ⟨h0, ⟨cur, h1, h2⟩, h3⟩ := h
  exact ⟨h0, ⟨cur, bblock hb h1, h2⟩, fun p hp => (h3 p hp).below hb⟩
theorem RowS.lt {w : World} {N g : Nat} {P : List (Stb × Value)} (h : RowS w N g P) : g < w.heap.size := by
  obtain ⟨_, ⟨cur, h1, _⟩, _⟩ := h
  exact (Array.getElem?_eq_some_iff.1 h1).1
theorem RowS.cell {w : World} {N g : Nat} {P : List (Stb × Value)} (h : RowS w N g P) {t : Nat} {p : Stb × Value} (hp : P[t]? = some p) (r : Nat) (hr : r < 5) : w.cell? ⟨g, t * 5 + r, none⟩ = (stbCells p)[r]? := by
  obtain ⟨_, ⟨cur, h1, h2⟩, _⟩ := h
  rw [cell_of_block h1]
  exact h2 t p hp r hr
theorem RowS.frozen {w : World} {N g : Nat} {P : List (Stb × Value)} (h : RowS w N g P) (i : Nat) : w.frozen? ⟨g, i, none⟩ = false := by
  obtain ⟨_, ⟨cur, h1, _⟩, _⟩ := h
  exact frozen_of_block h1 i
theorem RowS.set {w : World} {N g : Nat} {P : List (Stb × Value)} (h : RowS w N g P) {t k : Nat} {p q : Stb × Value} {v : Value} (hp : P[t]? = some p) (hk : k < 5) (hv : (stbCells q)[k]? = some v) (ho : ∀ r, r < 5 → r ≠ k → (stbCells q)[r]? = (stbCells p)[r]?) (hq : InsK w N q.2 q.1.ins) : RowS (w.setCell ⟨g, t * 5 + k, none⟩ v) N g (P.set t q) := by
  obtain ⟨h0, ⟨cur, h1, h2⟩, h3⟩ := h
  have hg : w.grownBy (w.setCell ⟨g, t * 5 + k, none⟩ v) (some g) := grown_set
  have hrow : ∀ g', some g = some g' → N ≤ g' ∧ ∃ cs, w.heap[g']? = some (.cells cs 52 (0, 0)) := fun g' e => by cases e; exact ⟨h0, _, h1⟩
  refine ⟨h0, ⟨_, block_set h1, fun i x hx r hr => ?_⟩, fun x hx => ?_⟩
  · have hlt : t * 5 + k < cur.size := by
      have := h2 t p hp k hk
      have hl : (stbCells p).length = 5 := rfl
      rw [List.getElem?_eq_getElem (by omega)] at this
      exact (Array.getElem?_eq_some_iff.1 this).1
    rw [List.getElem?_set] at hx
    by_cases e : i * 5 + r = t * 5 + k
    · have e1 : i = t := by omega
      have e2 : r = k := by omega
      subst e1 e2
      rw [if_pos rfl] at hx
      split at hx
      · cases hx
        rw [hv]
        simp [Array.set!, Array.getElem?_setIfInBounds, hlt]
      · cases hx
    · have ec : (cur.set! (t * 5 + k) v)[i * 5 + r]? = cur[i * 5 + r]? := by
        simp only [Array.set!, Array.getElem?_setIfInBounds]
        rw [if_neg (fun e' => e e'.symm)]
      rw [ec]
      by_cases hit : i = t
      · subst hit
        rw [if_pos rfl] at hx
        split at hx
        · cases hx
          rw [ho r hr (by omega)]
          exact h2 i p hp r hr
        · cases hx
      · rw [if_neg (fun e => hit e.symm)] at hx
        exact h2 i x hx r hr
  · rcases List.mem_or_eq_of_mem_set hx with hx | rfl
    · exact (h3 x hx).kept hg hrow
    · exact hq.kept hg hrow
theorem RowS.stb {w : World} {N g cap : Nat} {P : List (Stb × Value)} (h : RowS w N g P) (hn : P.length ≤ cap) (hm : cap ≤ 9223372036854775807) : StbV w (.slice (some ⟨g, 0, none⟩) P.length cap) (P.map (·.1)) := by
  refine ⟨_, cap, by rw [List.length_map], by rw [List.length_map]; exact hn, hm, fun e => (by cases e), .inr ⟨g, 0, rfl, fun i x hx => ?_⟩⟩
  rw [List.getElem?_map] at hx
  obtain ⟨p, hp, rfl⟩ := Option.map_eq_some_iff.1 hx
  have hc : ∀ r u, r < 5 → (stbCells p)[r]? = some u → w.cell? ⟨g, 0 + i * 5 + r, none⟩ = some u := fun r u hr hu => by
    rw [Nat.zero_add, h.cell hp r hr]; exact hu
  exact ⟨hc 0 _ (by omega) rfl, hc 1 _ (by omega) rfl, hc 2 _ (by omega) rfl, hc 3 _ (by omega) rfl, _, hc 4 _ (by omega) rfl, (h.2.2 p (List.mem_of_getElem? hp)).ins⟩
theorem stb_nil (a : Option Addr) (l c : Nat) (w : World) : (binOp .eql 40 (.slice a l c) (.slice none 0 0)).run Try.prog w = .ok (.bool a.isNone) w := by
  simp only [binOp]
  simp [run_equal_slice_nil w _ _ a l c Try.underlying40]
theorem pairs_of {w : World} {b o : Nat} : ∀ (l : List Stb), (∀ (i : Nat) x, l[i]? = some x → StbAt w b (o + i * 5) x) → ∃ P : List (Stb × Value), P.map (·.1) = l ∧ (∀ p ∈ P, InsV w p.2 p.1.ins) ∧ ∀ (i : Nat) p, P[i]? = some p → ∀ r, r < 5 → w.cell? ⟨b, o + i * 5 + r, none⟩ = (stbCells p)[r]? := by
  intro l
  induction l generalizing o with
  | nil => exact fun _ => ⟨[], rfl, fun p hp => (by cases hp), fun i p hp => by simp at hp⟩
  | cons x l ih =>
    intro h
    obtain ⟨h0, h1, h2, h3, iv, h4, h5⟩ := h 0 x rfl
    obtain ⟨P, hP, hI, hC⟩ := ih (o := o + 5) (fun i y hy => by
      have := h (i + 1) y hy
      have e : o + (i + 1) * 5 = o + 5 + i * 5 := by omega
      rwa [e] at this)
    refine ⟨(x, iv) :: P, by simp [hP], fun p hp => ?_, fun i p hp r hr => ?_⟩
    · rcases List.mem_cons.1 hp with rfl | hp
      · exact h5
      · exact hI p hp
    · cases i with
      | zero =>
        simp at hp
        subst hp
        simp only [Nat.zero_mul, Nat.add_zero] at h0 h1 h2 h3 h4 ⊢
        match r, hr with
        | 0, _ => exact h0
        | 1, _ => exact h1
        | 2, _ => exact h2
        | 3, _ => exact h3
        | 4, _ => exact h4
      | succ i =>
        have := hC i p hp r hr
        have e : o + (i + 1) * 5 + r = o + 5 + i * 5 + r := by omega
        rw [e]; exact this
theorem StbV.pairs {w : World} {a : Option Addr} {cap : Nat} {l : List Stb} (h0 : a = none → cap = 0) (hl : l.length ≤ cap) (h : l = [] ∨ ∃ b off : Nat, a = some ⟨b, off, none⟩ ∧ ∀ i x, l[i]? = some x → StbAt w b (off + i * 5) x) :
    ∃ P : List (Stb × Value), P.map (·.1) = l ∧ (∀ p ∈ P, InsV w p.2 p.1.ins) ∧ NewsAt w a l.length cap (P.flatMap stbCells) := by
  rcases h with rfl | ⟨b, off, rfl, h⟩
  · refine ⟨[], rfl, fun p hp => (by cases hp), ?_⟩
    cases a with
    | none => have := h0 rfl; exact .inl ⟨rfl, rfl, this⟩
    | some ad => exact .inr ⟨ad, rfl, fun j u hj => by simp at hj⟩
  · obtain ⟨P, hP, hI, hC⟩ := pairs_of l h
    refine ⟨P, hP, hI, .inr ⟨_, rfl, fun j u hj => ?_⟩⟩
    obtain ⟨p, hp, hu⟩ := flat_cell (f := stbCells) (k := 5) (fun _ => rfl) (by omega) hj
    have := hC _ p hp (j % 5) (Nat.mod_lt _ (by omega))
    rw [Addr.add_lit]
    have e : off + j = off + j / 5 * 5 + j % 5 := by omega
    rw [e, this]
    exact hu
set_option maxRecDepth 100000 in
set_option maxHeartbeats 4000000 in
theorem cloneS_any {w : World} {v : Value} {l : List Stb} (h : StbV w v l) (hl : l.length ≤ 100000) :
    Calls Try.prog 34 #[v] w fun e w' => ∃ v', e = .returned v' ∧ ∃ P, RowK w' w.heap.size v' P ∧ P.map (·.1) = l ∧ Below w.heap.size w w' := by
  obtain ⟨a, cap, rfl, n1, m1, h0, r⟩ := h
  obtain ⟨P, hP, hI, hN⟩ := StbV.pairs h0 n1 r
  have hPl : P.length = l.length := by rw [← hP, List.length_map]
  have hfl := flat_len (f := stbCells) (k := 5) (fun _ => rfl) P
  rw [hPl] at hfl
  obtain ⟨i0, hi, hz0, hz1, hz2⟩ := info_parts stb_info
  have hml : maxLen = 9223372036854775807 := rfl
  have h1c : ∀ u ∈ P.flatMap stbCells, u.oneCell' = true := fun u hu => by
    obtain ⟨x, hxm, hx⟩ := List.mem_flatMap.1 hu
    have hiv : x.2.oneCell' = true := by obtain ⟨a', c', e, _⟩ := hI x hxm; rw [e]; rfl
    unfold stbCells at hx
    simp only [List.mem_cons, List.not_mem_nil, or_false] at hx
    rcases hx with rfl | rfl | rfl | rfl | rfl <;> first | rfl | exact hiv
  cases a with
  | none =>
    have hc := h0 rfl
    subst hc
    have hnil := fun W => stb_nil none 0 0 W
    have hl0 : l = [] := List.length_eq_zero_iff.1 (by omega)
    subst hl0
    have hP0 : P = [] := List.length_eq_zero_iff.1 hPl
    subst hP0
    clear hN hI hP hfl h1c r
    go_enter Try.func34, Try.ntmps34
    go_wp2
    go_ret
    exact ⟨_, rfl, [], RowK.nil _ _, rfl, Below.refl _ _⟩
  | some ad =>
    have HK := Lib.hid (fun (W : World) (v' : Value) (hb : Below w.heap.size w W) (h : W.ownsRow w.heap.size 52 5 v' l.length (P.flatMap stbCells)) => (⟨by rw [hPl]; exact h, fun p hp => (hI p hp).old.below hb⟩ : RowK W w.heap.size v' P))
    have HN := Lib.hid hN
    have HF := Lib.hid hfl
    have HP := Lib.hid hP
    clear r hN hfl h0 hI hP hPl
    obtain ⟨n, hn⟩ : ∃ n, l.length = n := ⟨_, rfl⟩
    rw [hn] at HK HN HF n1 hl ⊢
    have hnil := fun W => stb_nil (some ad) n cap W
    generalize P.flatMap stbCells = news at *
    go_enter Try.func34, Try.ntmps34
    have hown0 : (w.alloc (.cells #[] 52)).ownsRow w.heap.size 52 5 (.slice (some ⟨w.heap.size, 0, none⟩) 0 0) 0 [] := ⟨rfl, .inr ⟨w.heap.size, 0, #[], rfl, Nat.le_refl _, alloc_get _ _, Nat.le_refl _, by omega, rfl, rfl⟩⟩
    clear hn
    go_wp2_with (at_builtin; refine wpList_append_news rfl _ _ 40 rfl w.heap.size 52 i0 _ 5 56 Try.underlying40 hi hz0 hz1 hz2 rfl (by decide) _ 0 [] rfl hown0 _ n cap news rfl HF.out (HN.out.below (balloc (Below.refl _ _) _)) h1c (by omega) (by omega) (by simp) ?_; intro v' w4 hown4 hg4 _)
    rw [Nat.zero_add, List.nil_append] at hown4
    have hb4 : Below w.heap.size w w4 := (balloc (Below.refl _ _) _ : Below w.heap.size w (w.alloc (.cells #[] 52))).grown hg4 (by simp) (fun k e => by cases e; exact Nat.le_refl _)
    have hk := HK.out _ _ hb4 hown4
    go_wp2
    go_ret
    exact ⟨_, rfl, P, hk, HP.out, hb4⟩
end Go.Proofs.Ytbkfjhbebhnijaa
