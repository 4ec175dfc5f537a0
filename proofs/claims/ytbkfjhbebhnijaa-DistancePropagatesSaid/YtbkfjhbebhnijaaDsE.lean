/-
  law 31: vertices, the least distance, roots.
-/
import Derived.Test.YtbkfjhbebhnijaaDsD
import Derived.Test.YtbkfjhbebhnijaaDsB
namespace Go.Proofs.Ytbkfjhbebhnijaa
open Go.RowKit
set_option linter.unusedSimpArgs false
set_option linter.unusedVariables false

set_option maxRecDepth 100000 in
theorem vertex_any (v : Int) (w : World) : Calls Try.prog 36 #[.int .i64 v] w fun e w' => e = .returned (.bool (vB v)) ∧ Below w.heap.size w w' := by
  by_cases h0 : 0 ≤ v
  · have d0 : decide (0 ≤ v) = true := by simpa using h0
    by_cases h1 : v ≤ 10000
    · have d1 : decide (v ≤ 10000) = true := by simpa using h1
      rw [vB_iff.2 ⟨h0, h1⟩]
      go_enter Try.func36, Try.ntmps36
      go_wp2
      go_ret
      exact ⟨rfl, by (repeat (first | exact Below.refl _ _ | assumption | refine Below.drew ?_ | refine below_drewN ?_ _ | refine balloc ?_ _ | refine Below.setCell ?_ (by first | (simp; done) | (simp; omega) | omega) _ | refine bchain (by assumption) ?_))⟩
    · have d1 : decide (v ≤ 10000) = false := by simpa using h1
      have e : vB v = false := by unfold vB; simp; omega
      rw [e]
      go_enter Try.func36, Try.ntmps36
      go_wp2
      go_ret
      exact ⟨rfl, by (repeat (first | exact Below.refl _ _ | assumption | refine Below.drew ?_ | refine below_drewN ?_ _ | refine balloc ?_ _ | refine Below.setCell ?_ (by first | (simp; done) | (simp; omega) | omega) _ | refine bchain (by assumption) ?_))⟩
  · have d0 : decide (0 ≤ v) = false := by simpa using h0
    have e : vB v = false := by unfold vB; simp; omega
    rw [e]
    go_enter Try.func36, Try.ntmps36
    go_wp2
    go_ret
    exact ⟨rfl, by (repeat (first | exact Below.refl _ _ | assumption | refine Below.drew ?_ | refine below_drewN ?_ _ | refine balloc ?_ _ | refine Below.setCell ?_ (by first | (simp; done) | (simp; omega) | omega) _ | refine bchain (by assumption) ?_))⟩
set_option maxRecDepth 100000 in
theorem rvertex_any (v : Int) (w : World) : Calls Try.prog 21 #[.int .i64 v] w fun e w' => e = .returned (.bool (vB v)) ∧ Below w.heap.size w w' := by
  by_cases h0 : 0 ≤ v
  · have d0 : decide (0 ≤ v) = true := by simpa using h0
    by_cases h1 : v ≤ 10000
    · have d1 : decide (v ≤ 10000) = true := by simpa using h1
      rw [vB_iff.2 ⟨h0, h1⟩]
      go_enter Try.func21, Try.ntmps21
      go_wp2
      go_ret
      exact ⟨rfl, by (repeat (first | exact Below.refl _ _ | assumption | refine Below.drew ?_ | refine below_drewN ?_ _ | refine balloc ?_ _ | refine Below.setCell ?_ (by first | (simp; done) | (simp; omega) | omega) _ | refine bchain (by assumption) ?_))⟩
    · have d1 : decide (v ≤ 10000) = false := by simpa using h1
      have e : vB v = false := by unfold vB; simp; omega
      rw [e]
      go_enter Try.func21, Try.ntmps21
      go_wp2
      go_ret
      exact ⟨rfl, by (repeat (first | exact Below.refl _ _ | assumption | refine Below.drew ?_ | refine below_drewN ?_ _ | refine balloc ?_ _ | refine Below.setCell ?_ (by first | (simp; done) | (simp; omega) | omega) _ | refine bchain (by assumption) ?_))⟩
  · have d0 : decide (0 ≤ v) = false := by simpa using h0
    have e : vB v = false := by unfold vB; simp; omega
    rw [e]
    go_enter Try.func21, Try.ntmps21
    go_wp2
    go_ret
    exact ⟨rfl, by (repeat (first | exact Below.refl _ _ | assumption | refine Below.drew ?_ | refine below_drewN ?_ _ | refine balloc ?_ _ | refine Below.setCell ?_ (by first | (simp; done) | (simp; omega) | omega) _ | refine bchain (by assumption) ?_))⟩
theorem least_snoc {l : List Int} {t : Nat} {x : Int} (h : l[t]? = some x) : leastI (l.take (t + 1)) = min (leastI (l.take t)) (max x 0) := by
  obtain ⟨h1, h2⟩ := List.getElem?_eq_some_iff.1 h
  unfold leastI
  rw [List.take_succ_eq_append_getElem h1, h2, List.foldl_append]
  rfl
theorem least_rng (l : List Int) : 0 ≤ leastI l ∧ leastI l ≤ 1048576 := by
  have h1 := least_ge l 0 1048576 (by omega) (fun d _ => by omega)
  have h2 := least_le l 1048576
  exact ⟨h1, h2⟩
set_option maxRecDepth 100000 in
set_option maxHeartbeats 1000000 in
theorem next_any {w : World} {v : Value} {l : List Int} (h : IntsV w v l) : Calls Try.prog 30 #[v] w fun e w' => e = .returned (.int .i64 (nxtI l)) ∧ Below w.heap.size w w' := by
  obtain ⟨a, cap, rfl, n1, m1, r⟩ := h
  obtain ⟨n, hn⟩ : ∃ n, n = l.length := ⟨_, rfl⟩
  rw [← hn] at n1 ⊢
  go_enter Try.func30, Try.ntmps30
  go_wp2
  go_loopw [3, 8] (fun m i wr => ∃ t : Nat, t ≤ n ∧ i = .int .i64 t ∧ m = .int .i64 (leastI (l.take t)) ∧ Below w.heap.size w wr) (fun m i _ => n - (intOf i).toNat)
  case atStart => exact ⟨0, Nat.zero_le _, rfl, rfl, Below.refl _ _⟩
  case round =>
    obtain ⟨t, ht, rfl, rfl, hbr⟩ := hrel
    by_cases hlt : t < n
    · rcases r with r | ⟨b1, o1, rfl, r⟩
      · rw [r] at hn
        simp at hn
        omega
      obtain ⟨x, hx⟩ : ∃ x, l[t]? = some x := ⟨_, List.getElem?_eq_getElem (by omega)⟩
      have q1 : wr.cell? ⟨b1, o1 + t, none⟩ = some (.int .i64 x) := bcellv hbr (r t x hx)
      have hs := least_snoc hx
      have s1 : ((t : Int)).toNat = t := by omega
      clear r hx
      generalize leastI (l.take t) = m0 at *
      go_wp2
      go_roundw
      case rel => exact ⟨t + 1, by omega, by go_num, by rw [hs]; congr 1; (repeat' split) <;> omega, by (repeat (first | exact Below.refl _ _ | assumption | refine Below.drew ?_ | refine below_drewN ?_ _ | refine balloc ?_ _ | refine Below.setCell ?_ (by first | (simp; done) | (simp; omega) | omega) _ | refine bchain (by assumption) ?_))⟩
      case measure => simp [intOf]; omega
    · have htn : t = l.length := by omega
      have hb := least_rng l
      have he : l.take t = l := by rw [htn, List.take_length]
      rw [he]
      have hx : nxtI l = min (leastI l + 1) 1048576 := rfl
      generalize leastI l = m0 at *
      have s1 : wrap64 (m0 + 1) = m0 + 1 := IntWalk.wrap64_in _ (by omega)
      have s2 : IntKind.i64.wrap (m0 + 1) = m0 + 1 := IntWalk.i64_in _ (by omega)
      go_wp2
      all_goals go_ret
      all_goals exact ⟨ret_int (by omega), by (repeat (first | exact Below.refl _ _ | assumption | refine Below.drew ?_ | refine below_drewN ?_ _ | refine balloc ?_ _ | refine Below.setCell ?_ (by first | (simp; done) | (simp; omega) | omega) _ | refine bchain (by assumption) ?_))⟩
def stubA (r : Bool) (l : List Int) : Int := if r then 1 else nxtI l
set_option maxRecDepth 100000 in
theorem stub_any {w : World} {v : Value} {l : List Int} (r : Bool) (h : IntsV w v l) : Calls Try.prog 12 #[.bool r, v] w fun e w' => e = .returned (.int .i64 (stubA r l)) ∧ Below w.heap.size w w' := by
  have hN := fun W (H : Below w.heap.size w W) => next_any (h.below H)
  unfold stubA
  cases r
  · simp only [Bool.false_eq_true, if_false]
    go_enter Try.func12, Try.ntmps12
    go_wp2_with fail
    refine (hN _ (by (repeat (first | exact Below.refl _ _ | assumption | refine Below.drew ?_ | refine below_drewN ?_ _ | refine balloc ?_ _ | refine Below.setCell ?_ (by first | (simp; done) | (simp; omega) | omega) _ | refine bchain (by assumption) ?_)))).mono ?_
    rintro e w1 ⟨rfl, hb1⟩
    go_wp2
    go_ret
    exact ⟨rfl, by (repeat (first | exact Below.refl _ _ | assumption | refine Below.drew ?_ | refine below_drewN ?_ _ | refine balloc ?_ _ | refine Below.setCell ?_ (by first | (simp; done) | (simp; omega) | omega) _ | refine bchain (by assumption) ?_))⟩
  · simp only [if_true]
    go_enter Try.func12, Try.ntmps12
    go_wp2
    go_ret
    exact ⟨rfl, by (repeat (first | exact Below.refl _ _ | assumption | refine Below.drew ?_ | refine below_drewN ?_ _ | refine balloc ?_ _ | refine Below.setCell ?_ (by first | (simp; done) | (simp; omega) | omega) _ | refine bchain (by assumption) ?_))⟩
theorem stub_ref (l : List Int) : nxtI l = min 1048576 (leastI l + 1) := by unfold nxtI; omega
set_option maxRecDepth 100000 in
set_option maxHeartbeats 1000000 in
theorem rstub_any {w : World} {v : Value} {l : List Int} (rb : Bool) (h : IntsV w v l) : Calls Try.prog 13 #[.bool rb, v] w fun e w' => e = .returned (.int .i64 (stubA rb l)) ∧ Below w.heap.size w w' := by
  obtain ⟨a, cap, rfl, n1, m1, r⟩ := h
  obtain ⟨n, hn⟩ : ∃ n, n = l.length := ⟨_, rfl⟩
  rw [← hn] at n1 ⊢
  unfold stubA
  cases rb
  · simp only [Bool.false_eq_true, if_false]
    go_enter Try.func13, Try.ntmps13
    go_wp2
    go_loopw [5, 6] (fun m i wr => ∃ t : Nat, t ≤ n ∧ i = .int .i64 t ∧ m = .int .i64 (leastI (l.take t)) ∧ Below w.heap.size w wr) (fun m i _ => n - (intOf i).toNat)
    case atStart => exact ⟨0, Nat.zero_le _, rfl, rfl, Below.refl _ _⟩
    case round =>
      obtain ⟨t, ht, rfl, rfl, hbr⟩ := hrel
      by_cases hlt : t < n
      · rcases r with r | ⟨b1, o1, rfl, r⟩
        · rw [r] at hn
          simp at hn
          omega
        obtain ⟨x, hx⟩ : ∃ x, l[t]? = some x := ⟨_, List.getElem?_eq_getElem (by omega)⟩
        have q1 : wr.cell? ⟨b1, o1 + t, none⟩ = some (.int .i64 x) := bcellv hbr (r t x hx)
        have hs := least_snoc hx
        have s1 : ((t : Int)).toNat = t := by omega
        clear r hx
        generalize leastI (l.take t) = m0 at *
        go_wp2
        go_roundw
        case rel => exact ⟨t + 1, by omega, by go_num, by rw [hs]; congr 1; (repeat' split) <;> omega, by (repeat (first | exact Below.refl _ _ | assumption | refine Below.drew ?_ | refine below_drewN ?_ _ | refine balloc ?_ _ | refine Below.setCell ?_ (by first | (simp; done) | (simp; omega) | omega) _ | refine bchain (by assumption) ?_))⟩
        case measure => simp [intOf]; omega
      · have htn : t = l.length := by omega
        have hb := least_rng l
        have he : l.take t = l := by rw [htn, List.take_length]
        rw [he]
        have hx := stub_ref l
        generalize leastI l = m0 at *
        have s1 : wrap64 (m0 + 1) = m0 + 1 := IntWalk.wrap64_in _ (by omega)
        have s2 : IntKind.i64.wrap (m0 + 1) = m0 + 1 := IntWalk.i64_in _ (by omega)
        go_wp2
        all_goals go_ret
        all_goals exact ⟨ret_int (by omega), by (repeat (first | exact Below.refl _ _ | assumption | refine Below.drew ?_ | refine below_drewN ?_ _ | refine balloc ?_ _ | refine Below.setCell ?_ (by first | (simp; done) | (simp; omega) | omega) _ | refine bchain (by assumption) ?_))⟩
  · simp only [if_true]
    go_enter Try.func13, Try.ntmps13
    go_wp2
    go_ret
    exact ⟨rfl, by (repeat (first | exact Below.refl _ _ | assumption | refine Below.drew ?_ | refine below_drewN ?_ _ | refine balloc ?_ _ | refine Below.setCell ?_ (by first | (simp; done) | (simp; omega) | omega) _ | refine bchain (by assumption) ?_))⟩
theorem contains_snoc {R : List Int} {t : Nat} {x v : Int} (h : R[t]? = some x) : (R.take (t + 1)).contains v = ((R.take t).contains v || (x == v)) := by
  obtain ⟨h1, h2⟩ := List.getElem?_eq_some_iff.1 h
  rw [List.take_succ_eq_append_getElem h1, h2]
  rw [Bool.eq_iff_iff]
  simp only [List.contains_iff_mem, List.mem_append, List.mem_singleton, Bool.or_eq_true, beq_iff_eq]
  constructor
  · rintro (h | h)
    · exact .inl h
    · exact .inr h.symm
  · rintro (h | h)
    · exact .inl h
    · exact .inr h.symm
set_option maxRecDepth 100000 in
set_option maxHeartbeats 1000000 in
theorem root_any {w : World} {v : Value} {R : List Int} (x : Int) (h : IntsV w v R) : Calls Try.prog 20 #[.int .i64 x, v] w fun e w' => e = .returned (.bool (R.contains x)) ∧ Below w.heap.size w w' := by
  obtain ⟨a, cap, rfl, n1, m1, r⟩ := h
  obtain ⟨n, hn⟩ : ∃ n, n = R.length := ⟨_, rfl⟩
  rw [← hn] at n1 ⊢
  go_enter Try.func20, Try.ntmps20
  go_wp2
  go_loopw [5] (fun i wr => ∃ t : Nat, t ≤ n ∧ i = .int .i64 t ∧ (R.take t).contains x = false ∧ Below w.heap.size w wr) (fun i _ => n - (intOf i).toNat)
  case atStart => exact ⟨0, Nat.zero_le _, rfl, rfl, Below.refl _ _⟩
  case round =>
    obtain ⟨t, ht, rfl, hc, hbr⟩ := hrel
    by_cases hlt : t < n
    · rcases r with r | ⟨b1, o1, rfl, r⟩
      · rw [r] at hn
        simp at hn
        omega
      obtain ⟨y, hy⟩ : ∃ y, R[t]? = some y := ⟨_, List.getElem?_eq_getElem (by omega)⟩
      have q1 : wr.cell? ⟨b1, o1 + t, none⟩ = some (.int .i64 y) := bcellv hbr (r t y hy)
      have hs := contains_snoc (v := x) hy
      rw [hc, Bool.false_or] at hs
      have s1 : ((t : Int)).toNat = t := by omega
      have hm : y = x → R.contains x = true := fun e => by
        rw [List.contains_iff_mem]
        rw [← e]
        exact List.mem_of_getElem? hy
      clear r hy hc
      by_cases hxy : y = x
      · have b : (y == x) = true := by simpa using hxy
        have hm := hm hxy
        clear hs
        go_wp2
        go_ret
        exact ⟨ret_bool hm.symm, by (repeat (first | exact Below.refl _ _ | assumption | refine Below.drew ?_ | refine below_drewN ?_ _ | refine balloc ?_ _ | refine Below.setCell ?_ (by first | (simp; done) | (simp; omega) | omega) _ | refine bchain (by assumption) ?_))⟩
      · have b : (y == x) = false := by simpa using hxy
        rw [b] at hs
        clear hm
        have HS := Lib.hid hs
        clear hs
        go_wp2
        go_roundw
        case rel => exact ⟨t + 1, by omega, by go_num, HS.out, by (repeat (first | exact Below.refl _ _ | assumption | refine Below.drew ?_ | refine below_drewN ?_ _ | refine balloc ?_ _ | refine Below.setCell ?_ (by first | (simp; done) | (simp; omega) | omega) _ | refine bchain (by assumption) ?_))⟩
        case measure => simp [intOf]; omega
    · have htn : t = R.length := by omega
      rw [htn, List.take_length] at hc
      have HC := Lib.hid hc
      clear hc
      go_wp2
      go_ret
      exact ⟨ret_bool HC.out.symm, by (repeat (first | exact Below.refl _ _ | assumption | refine Below.drew ?_ | refine below_drewN ?_ _ | refine balloc ?_ _ | refine Below.setCell ?_ (by first | (simp; done) | (simp; omega) | omega) _ | refine bchain (by assumption) ?_))⟩
end Go.Proofs.Ytbkfjhbebhnijaa
