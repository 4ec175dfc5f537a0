/-
  (*Space).size: the size of the sound object at a place, or 0.
-/
import Derived.Test.YtafailcjdkmdhaaSp6
namespace Go.Proofs.Ytafailcjdkmdhaa
open Go.RowKit
set_option linter.unusedSimpArgs false
set_option linter.unusedVariables false

/-- Is there a sound object at place i of the words? -/
def szB (ws : List Int) (i : Nat) : Bool := decide (i + 2 ≤ ws.length) && decB (ws.getD i 0) && didB (ws.getD (i + 1) 0) && decide (i + (wordsI (decF (ws.getD i 0))).toNat ≤ ws.length)
/-- Its size, or 0. -/
def szN (ws : List Int) (i : Nat) : Nat := if szB ws i then (wordsI (decF (ws.getD i 0))).toNat else 0
theorem szB_iff {ws : List Int} {i : Nat} : szB ws i = true ↔ i + 2 ≤ ws.length ∧ decB (ws.getD i 0) = true ∧ didB (ws.getD (i + 1) 0) = true ∧ i + (wordsI (decF (ws.getD i 0))).toNat ≤ ws.length := by unfold szB; simp [and_assoc]
theorem szN_yes {ws : List Int} {i : Nat} (h : szB ws i = true) : szN ws i = (wordsI (decF (ws.getD i 0))).toNat := by unfold szN; rw [if_pos h]
theorem szN_no {ws : List Int} {i : Nat} (h : szB ws i = false) : szN ws i = 0 := by unfold szN; rw [h]; rfl
theorem szN_bd {ws : List Int} {i : Nat} (h : szB ws i = true) : 4 ≤ szN ws i ∧ szN ws i ≤ 32 ∧ i + szN ws i ≤ ws.length := by
  rw [szN_yes h]
  obtain ⟨h0, h1, h2, h3⟩ := szB_iff.1 h
  have := wordsI_bd (decB_iff.1 h1).1
  omega
theorem szN_le {ws : List Int} {i : Nat} (h : i ≤ ws.length) : i + szN ws i ≤ ws.length := by
  cases hs : szB ws i
  · rw [szN_no hs]; omega
  · exact (szN_bd hs).2.2
theorem szN_pos {ws : List Int} {i : Nat} : 0 < szN ws i ↔ szB ws i = true := by
  cases hs : szB ws i
  · rw [szN_no hs]; simp
  · have := szN_bd hs; simp; omega
theorem getD_u64 {ws : List Int} (h : ∀ x ∈ ws, U64 x) (i : Nat) : U64 (ws.getD i 0) := by
  by_cases hi : i < ws.length
  · rw [List.getD_eq_getElem?_getD, List.getElem?_eq_getElem hi]
    exact h _ (List.getElem_mem hi)
  · rw [List.getD_eq_getElem?_getD, List.getElem?_eq_none (by omega)]
    exact ⟨by simp, by simp⟩

set_option maxRecDepth 100000 in
set_option maxHeartbeats 1000000 in
theorem size_short {w : World} {b : Nat} {bs lm : Int} {ws : List Int} {g : Option Nat} (h : SpAt w b bs lm ws g) (hk : SpOk bs lm ws) (i : Nat) (hi : i ≤ ws.length) (hs : ws.length < i + 2) :
    Calls Try.prog 48 #[.pointer (some ⟨b, 0, none⟩), .int .i64 i] w fun e w' => e = .returned (.int .i64 0) ∧ Below w.heap.size w w' := by
  obtain ⟨a, cap, c0, c1, c2, hr⟩ := h.cells
  obtain ⟨b0, b1, b2, _⟩ := hk
  clear h hr
  generalize (ws.length) = n at *
  go_enter Try.func48, Try.ntmps48
  go_wp2
  all_goals (try (go_quiet (fail); go_wp2))
  go_ret
  exact ⟨rfl, by (repeat (first | exact Below.refl _ _ | assumption | refine Below.drew ?_ | refine below_drewN ?_ _ | refine balloc ?_ _ | refine Below.setCell ?_ (by first | (simp; done) | (simp; omega) | omega) _ | refine bchain (by assumption) ?_))⟩
set_option maxRecDepth 100000 in
set_option maxHeartbeats 1000000 in
theorem size_bad {w : World} {b : Nat} {bs lm : Int} {ws : List Int} {g : Option Nat} (h : SpAt w b bs lm ws g) (hk : SpOk bs lm ws) (i : Nat) (hi : i + 2 ≤ ws.length) (hd : decB (ws.getD i 0) = false) :
    Calls Try.prog 48 #[.pointer (some ⟨b, 0, none⟩), .int .i64 i] w fun e w' => e = .returned (.int .i64 0) ∧ Below w.heap.size w w' := by
  obtain ⟨a, cap, c0, c1, c2, hr⟩ := h.cells
  obtain ⟨G, rfl, rfl, q, _⟩ := hr.word (i := i) (by omega)
  obtain ⟨G', e', e'', r, _⟩ := hr.word (i := i + 1) (by omega)
  cases e'
  clear e''
  have hx := getD_u64 hk.u64 i
  have hy := getD_u64 hk.u64 (i + 1)
  obtain ⟨b0, b1, b2, _⟩ := hk
  clear h hr
  generalize ws.getD i 0 = x at *
  generalize ws.getD (i + 1) 0 = y at *
  generalize (ws.length) = n at *
  have d1 := fun W => decode_no x hx hd W
  have d2 := fun W => words_no 0 0 0 (by decide) W
  clear hd hx hy
  have k0 : (0 : Int) = 0 := rfl
  go_enter Try.func48, Try.ntmps48
  have s1 : ((i : Int)).toNat = i := by omega
  have s2 : IntKind.i64.wrap ((i : Int) + 1) = ((i + 1 : Nat) : Int) := by rw [show ((i + 1 : Nat) : Int) = (i : Int) + 1 by omega]; exact IntWalk.i64_in _ (by omega)
  have s2a : (((i + 1 : Nat) : Int)).toNat = i + 1 := by omega
  have s2b : (((i + 1 : Nat) : Int)) < (n : Int) := by omega
  have s2c : (0 : Int) ≤ (((i + 1 : Nat) : Int)) := by omega
  have s4 : IntKind.i64.wrap ((n : Int) - (i : Int)) = (n : Int) - (i : Int) := IntWalk.i64_in _ (by omega)
  go_wp2_with fail
  refine (d1 _).mono ?_
  rintro e w1 ⟨rfl, hb1⟩
  clear d1
  have c0 : w1.cell? ⟨b, 0, none⟩ = some (.int .i64 bs) := bcellv hb1 (by first | assumption | exact bcellv (balloc (Below.refl _ _) _) c0)
  have c2 : w1.cell? ⟨b, 2, none⟩ = some (.slice (some ⟨G, 0, none⟩) n cap) := bcellv hb1 (by first | assumption | exact bcellv (balloc (Below.refl _ _) _) c2)
  have q : w1.cell? ⟨G, i, none⟩ = some (.int .u64 x) := bcellv hb1 (by first | assumption | exact bcellv (balloc (Below.refl _ _) _) q)
  have r : w1.cell? ⟨G, i + 1, none⟩ = some (.int .u64 y) := bcellv hb1 (by first | assumption | exact bcellv (balloc (Below.refl _ _) _) r)
  have p0 : (w1.alloc (.cells #[.int .i64 0, .int .i64 0, .int .i64 0] 29)).cell? ⟨w1.heap.size, 0, none⟩ = some (.int .i64 0) := by simp
  have p1 : (w1.alloc (.cells #[.int .i64 0, .int .i64 0, .int .i64 0] 29)).cell? ⟨w1.heap.size, 1, none⟩ = some (.int .i64 0) := by simp
  have p2 : (w1.alloc (.cells #[.int .i64 0, .int .i64 0, .int .i64 0] 29)).cell? ⟨w1.heap.size, 2, none⟩ = some (.int .i64 0) := by simp
  go_wp2_with fail
  refine (d2 _).mono ?_
  rintro e w2 ⟨rfl, hb2⟩
  clear d2
  have c0 : w2.cell? ⟨b, 0, none⟩ = some (.int .i64 bs) := bcellv hb2 (by first | assumption | exact bcellv (balloc (Below.refl _ _) _) c0)
  have c2 : w2.cell? ⟨b, 2, none⟩ = some (.slice (some ⟨G, 0, none⟩) n cap) := bcellv hb2 (by first | assumption | exact bcellv (balloc (Below.refl _ _) _) c2)
  have q : w2.cell? ⟨G, i, none⟩ = some (.int .u64 x) := bcellv hb2 (by first | assumption | exact bcellv (balloc (Below.refl _ _) _) q)
  have r : w2.cell? ⟨G, i + 1, none⟩ = some (.int .u64 y) := bcellv hb2 (by first | assumption | exact bcellv (balloc (Below.refl _ _) _) r)
  clear s1 s2 s2a s2b s2c s4
  go_wp2
  go_ret
  exact ⟨rfl, by (repeat (first | exact Below.refl _ _ | assumption | refine Below.drew ?_ | refine below_drewN ?_ _ | refine balloc ?_ _ | refine Below.setCell ?_ (by first | (simp; done) | (simp; omega) | omega) _ | refine bchain (by assumption) ?_))⟩
set_option maxRecDepth 100000 in
set_option maxHeartbeats 1000000 in
theorem size_noid {w : World} {b : Nat} {bs lm : Int} {ws : List Int} {g : Option Nat} (h : SpAt w b bs lm ws g) (hk : SpOk bs lm ws) (i : Nat) (hi : i + 2 ≤ ws.length) (hd : decB (ws.getD i 0) = true) (hdd : didB (ws.getD (i + 1) 0) = false) :
    Calls Try.prog 48 #[.pointer (some ⟨b, 0, none⟩), .int .i64 i] w fun e w' => e = .returned (.int .i64 0) ∧ Below w.heap.size w w' := by
  obtain ⟨a, cap, c0, c1, c2, hr⟩ := h.cells
  obtain ⟨G, rfl, rfl, q, _⟩ := hr.word (i := i) (by omega)
  obtain ⟨G', e', e'', r, _⟩ := hr.word (i := i + 1) (by omega)
  cases e'
  clear e''
  have hx := getD_u64 hk.u64 i
  have hy := getD_u64 hk.u64 (i + 1)
  obtain ⟨b0, b1, b2, _⟩ := hk
  clear h hr
  generalize ws.getD i 0 = x at *
  generalize ws.getD (i + 1) 0 = y at *
  generalize (ws.length) = n at *
  have d1 := fun W => decode_yes x hx hd W
  have d2 := fun W => words_yes _ _ _ (decB_iff.1 hd).1 W
  obtain ⟨y0, y1, y2⟩ := wordsI_bd (decB_iff.1 hd).1
  have d3 := fun W => decodeID_no y hy hdd W
  generalize hkk : decK x = kk at *
  generalize hcc : decC x = cc at *
  generalize hff : decF x = ff at *
  generalize hyy : wordsI ff = m at *
  clear hd hdd hx hy
  go_enter Try.func48, Try.ntmps48
  have s1 : ((i : Int)).toNat = i := by omega
  have s2 : IntKind.i64.wrap ((i : Int) + 1) = ((i + 1 : Nat) : Int) := by rw [show ((i + 1 : Nat) : Int) = (i : Int) + 1 by omega]; exact IntWalk.i64_in _ (by omega)
  have s2a : (((i + 1 : Nat) : Int)).toNat = i + 1 := by omega
  have s2b : (((i + 1 : Nat) : Int)) < (n : Int) := by omega
  have s2c : (0 : Int) ≤ (((i + 1 : Nat) : Int)) := by omega
  have s4 : IntKind.i64.wrap ((n : Int) - (i : Int)) = (n : Int) - (i : Int) := IntWalk.i64_in _ (by omega)
  go_wp2_with fail
  refine (d1 _).mono ?_
  rintro e w1 ⟨rfl, hb1⟩
  clear d1
  have c0 : w1.cell? ⟨b, 0, none⟩ = some (.int .i64 bs) := bcellv hb1 (by first | assumption | exact bcellv (balloc (Below.refl _ _) _) c0)
  have c2 : w1.cell? ⟨b, 2, none⟩ = some (.slice (some ⟨G, 0, none⟩) n cap) := bcellv hb1 (by first | assumption | exact bcellv (balloc (Below.refl _ _) _) c2)
  have q : w1.cell? ⟨G, i, none⟩ = some (.int .u64 x) := bcellv hb1 (by first | assumption | exact bcellv (balloc (Below.refl _ _) _) q)
  have r : w1.cell? ⟨G, i + 1, none⟩ = some (.int .u64 y) := bcellv hb1 (by first | assumption | exact bcellv (balloc (Below.refl _ _) _) r)
  have p0 : (w1.alloc (.cells #[.int .i64 kk, .int .i64 cc, .int .i64 ff] 29)).cell? ⟨w1.heap.size, 0, none⟩ = some (.int .i64 kk) := by simp
  have p1 : (w1.alloc (.cells #[.int .i64 kk, .int .i64 cc, .int .i64 ff] 29)).cell? ⟨w1.heap.size, 1, none⟩ = some (.int .i64 cc) := by simp
  have p2 : (w1.alloc (.cells #[.int .i64 kk, .int .i64 cc, .int .i64 ff] 29)).cell? ⟨w1.heap.size, 2, none⟩ = some (.int .i64 ff) := by simp
  go_wp2_with fail
  refine (d2 _).mono ?_
  rintro e w2 ⟨rfl, hb2⟩
  clear d2
  have c0 : w2.cell? ⟨b, 0, none⟩ = some (.int .i64 bs) := bcellv hb2 (by first | assumption | exact bcellv (balloc (Below.refl _ _) _) c0)
  have c2 : w2.cell? ⟨b, 2, none⟩ = some (.slice (some ⟨G, 0, none⟩) n cap) := bcellv hb2 (by first | assumption | exact bcellv (balloc (Below.refl _ _) _) c2)
  have q : w2.cell? ⟨G, i, none⟩ = some (.int .u64 x) := bcellv hb2 (by first | assumption | exact bcellv (balloc (Below.refl _ _) _) q)
  have r : w2.cell? ⟨G, i + 1, none⟩ = some (.int .u64 y) := bcellv hb2 (by first | assumption | exact bcellv (balloc (Below.refl _ _) _) r)
  go_wp2_with fail
  refine (d3 _).mono ?_
  rintro e w3 ⟨rfl, hb3⟩
  clear d3
  have c0 : w3.cell? ⟨b, 0, none⟩ = some (.int .i64 bs) := bcellv hb3 (by first | assumption | exact bcellv (balloc (Below.refl _ _) _) c0)
  have c2 : w3.cell? ⟨b, 2, none⟩ = some (.slice (some ⟨G, 0, none⟩) n cap) := bcellv hb3 (by first | assumption | exact bcellv (balloc (Below.refl _ _) _) c2)
  have q : w3.cell? ⟨G, i, none⟩ = some (.int .u64 x) := bcellv hb3 (by first | assumption | exact bcellv (balloc (Below.refl _ _) _) q)
  have r : w3.cell? ⟨G, i + 1, none⟩ = some (.int .u64 y) := bcellv hb3 (by first | assumption | exact bcellv (balloc (Below.refl _ _) _) r)
  go_wp2
  go_ret
  exact ⟨rfl, by (repeat (first | exact Below.refl _ _ | assumption | refine Below.drew ?_ | refine below_drewN ?_ _ | refine balloc ?_ _ | refine Below.setCell ?_ (by first | (simp; done) | (simp; omega) | omega) _ | refine bchain (by assumption) ?_))⟩
set_option maxRecDepth 100000 in
set_option maxHeartbeats 1000000 in
theorem size_big {w : World} {b : Nat} {bs lm : Int} {ws : List Int} {g : Option Nat} (h : SpAt w b bs lm ws g) (hk : SpOk bs lm ws) (i : Nat) (hi : i + 2 ≤ ws.length) (hd : decB (ws.getD i 0) = true) (hdd : didB (ws.getD (i + 1) 0) = true) (hn : (ws.length : Int) < i + wordsI (decF (ws.getD i 0))) :
    Calls Try.prog 48 #[.pointer (some ⟨b, 0, none⟩), .int .i64 i] w fun e w' => e = .returned (.int .i64 0) ∧ Below w.heap.size w w' := by
  obtain ⟨a, cap, c0, c1, c2, hr⟩ := h.cells
  obtain ⟨G, rfl, rfl, q, _⟩ := hr.word (i := i) (by omega)
  obtain ⟨G', e', e'', r, _⟩ := hr.word (i := i + 1) (by omega)
  cases e'
  clear e''
  have hx := getD_u64 hk.u64 i
  have hy := getD_u64 hk.u64 (i + 1)
  obtain ⟨b0, b1, b2, _⟩ := hk
  clear h hr
  generalize ws.getD i 0 = x at *
  generalize ws.getD (i + 1) 0 = y at *
  generalize (ws.length) = n at *
  have d1 := fun W => decode_yes x hx hd W
  have d2 := fun W => words_yes _ _ _ (decB_iff.1 hd).1 W
  obtain ⟨y0, y1, y2⟩ := wordsI_bd (decB_iff.1 hd).1
  have d3 := fun W => decodeID_yes y hy hdd W
  have d4 : idB (didM y) (didS y) = true := hdd
  have d5 := idB_iff.1 d4
  clear d4
  generalize didM y = ym at *
  generalize didS y = ys at *
  generalize hkk : decK x = kk at *
  generalize hcc : decC x = cc at *
  generalize hff : decF x = ff at *
  generalize hyy : wordsI ff = m at *
  clear hd hdd hx hy
  go_enter Try.func48, Try.ntmps48
  have s1 : ((i : Int)).toNat = i := by omega
  have s2 : IntKind.i64.wrap ((i : Int) + 1) = ((i + 1 : Nat) : Int) := by rw [show ((i + 1 : Nat) : Int) = (i : Int) + 1 by omega]; exact IntWalk.i64_in _ (by omega)
  have s2a : (((i + 1 : Nat) : Int)).toNat = i + 1 := by omega
  have s2b : (((i + 1 : Nat) : Int)) < (n : Int) := by omega
  have s2c : (0 : Int) ≤ (((i + 1 : Nat) : Int)) := by omega
  have s4 : IntKind.i64.wrap ((n : Int) - (i : Int)) = (n : Int) - (i : Int) := IntWalk.i64_in _ (by omega)
  go_wp2_with fail
  refine (d1 _).mono ?_
  rintro e w1 ⟨rfl, hb1⟩
  clear d1
  have c0 : w1.cell? ⟨b, 0, none⟩ = some (.int .i64 bs) := bcellv hb1 (by first | assumption | exact bcellv (balloc (Below.refl _ _) _) c0)
  have c2 : w1.cell? ⟨b, 2, none⟩ = some (.slice (some ⟨G, 0, none⟩) n cap) := bcellv hb1 (by first | assumption | exact bcellv (balloc (Below.refl _ _) _) c2)
  have q : w1.cell? ⟨G, i, none⟩ = some (.int .u64 x) := bcellv hb1 (by first | assumption | exact bcellv (balloc (Below.refl _ _) _) q)
  have r : w1.cell? ⟨G, i + 1, none⟩ = some (.int .u64 y) := bcellv hb1 (by first | assumption | exact bcellv (balloc (Below.refl _ _) _) r)
  have p0 : (w1.alloc (.cells #[.int .i64 kk, .int .i64 cc, .int .i64 ff] 29)).cell? ⟨w1.heap.size, 0, none⟩ = some (.int .i64 kk) := by simp
  have p1 : (w1.alloc (.cells #[.int .i64 kk, .int .i64 cc, .int .i64 ff] 29)).cell? ⟨w1.heap.size, 1, none⟩ = some (.int .i64 cc) := by simp
  have p2 : (w1.alloc (.cells #[.int .i64 kk, .int .i64 cc, .int .i64 ff] 29)).cell? ⟨w1.heap.size, 2, none⟩ = some (.int .i64 ff) := by simp
  go_wp2_with fail
  refine (d2 _).mono ?_
  rintro e w2 ⟨rfl, hb2⟩
  clear d2
  have c0 : w2.cell? ⟨b, 0, none⟩ = some (.int .i64 bs) := bcellv hb2 (by first | assumption | exact bcellv (balloc (Below.refl _ _) _) c0)
  have c2 : w2.cell? ⟨b, 2, none⟩ = some (.slice (some ⟨G, 0, none⟩) n cap) := bcellv hb2 (by first | assumption | exact bcellv (balloc (Below.refl _ _) _) c2)
  have q : w2.cell? ⟨G, i, none⟩ = some (.int .u64 x) := bcellv hb2 (by first | assumption | exact bcellv (balloc (Below.refl _ _) _) q)
  have r : w2.cell? ⟨G, i + 1, none⟩ = some (.int .u64 y) := bcellv hb2 (by first | assumption | exact bcellv (balloc (Below.refl _ _) _) r)
  go_wp2_with fail
  refine (d3 _).mono ?_
  rintro e w3 ⟨rfl, hb3⟩
  clear d3
  have c0 : w3.cell? ⟨b, 0, none⟩ = some (.int .i64 bs) := bcellv hb3 (by first | assumption | exact bcellv (balloc (Below.refl _ _) _) c0)
  have c2 : w3.cell? ⟨b, 2, none⟩ = some (.slice (some ⟨G, 0, none⟩) n cap) := bcellv hb3 (by first | assumption | exact bcellv (balloc (Below.refl _ _) _) c2)
  have q : w3.cell? ⟨G, i, none⟩ = some (.int .u64 x) := bcellv hb3 (by first | assumption | exact bcellv (balloc (Below.refl _ _) _) q)
  have r : w3.cell? ⟨G, i + 1, none⟩ = some (.int .u64 y) := bcellv hb3 (by first | assumption | exact bcellv (balloc (Below.refl _ _) _) r)
  go_wp2
  go_ret
  exact ⟨rfl, by (repeat (first | exact Below.refl _ _ | assumption | refine Below.drew ?_ | refine below_drewN ?_ _ | refine balloc ?_ _ | refine Below.setCell ?_ (by first | (simp; done) | (simp; omega) | omega) _ | refine bchain (by assumption) ?_))⟩
set_option maxRecDepth 100000 in
set_option maxHeartbeats 1000000 in
theorem size_ok {w : World} {b : Nat} {bs lm : Int} {ws : List Int} {g : Option Nat} (h : SpAt w b bs lm ws g) (hk : SpOk bs lm ws) (i : Nat) (hi : i + 2 ≤ ws.length) (hd : decB (ws.getD i 0) = true) (hdd : didB (ws.getD (i + 1) 0) = true) (hn : (i : Int) + wordsI (decF (ws.getD i 0)) ≤ ws.length) :
    Calls Try.prog 48 #[.pointer (some ⟨b, 0, none⟩), .int .i64 i] w fun e w' => e = .returned (.int .i64 (wordsI (decF (ws.getD i 0)))) ∧ Below w.heap.size w w' := by
  obtain ⟨a, cap, c0, c1, c2, hr⟩ := h.cells
  obtain ⟨G, rfl, rfl, q, _⟩ := hr.word (i := i) (by omega)
  obtain ⟨G', e', e'', r, _⟩ := hr.word (i := i + 1) (by omega)
  cases e'
  clear e''
  have hx := getD_u64 hk.u64 i
  have hy := getD_u64 hk.u64 (i + 1)
  obtain ⟨b0, b1, b2, _⟩ := hk
  clear h hr
  generalize ws.getD i 0 = x at *
  generalize ws.getD (i + 1) 0 = y at *
  generalize (ws.length) = n at *
  have d1 := fun W => decode_yes x hx hd W
  have d2 := fun W => words_yes _ _ _ (decB_iff.1 hd).1 W
  obtain ⟨y0, y1, y2⟩ := wordsI_bd (decB_iff.1 hd).1
  have d3 := fun W => decodeID_yes y hy hdd W
  have d4 : idB (didM y) (didS y) = true := hdd
  have d5 := idB_iff.1 d4
  clear d4
  generalize didM y = ym at *
  generalize didS y = ys at *
  generalize hkk : decK x = kk at *
  generalize hcc : decC x = cc at *
  generalize hff : decF x = ff at *
  generalize hyy : wordsI ff = m at *
  clear hd hdd hx hy
  go_enter Try.func48, Try.ntmps48
  have s1 : ((i : Int)).toNat = i := by omega
  have s2 : IntKind.i64.wrap ((i : Int) + 1) = ((i + 1 : Nat) : Int) := by rw [show ((i + 1 : Nat) : Int) = (i : Int) + 1 by omega]; exact IntWalk.i64_in _ (by omega)
  have s2a : (((i + 1 : Nat) : Int)).toNat = i + 1 := by omega
  have s2b : (((i + 1 : Nat) : Int)) < (n : Int) := by omega
  have s2c : (0 : Int) ≤ (((i + 1 : Nat) : Int)) := by omega
  have s4 : IntKind.i64.wrap ((n : Int) - (i : Int)) = (n : Int) - (i : Int) := IntWalk.i64_in _ (by omega)
  go_wp2_with fail
  refine (d1 _).mono ?_
  rintro e w1 ⟨rfl, hb1⟩
  clear d1
  have c0 : w1.cell? ⟨b, 0, none⟩ = some (.int .i64 bs) := bcellv hb1 (by first | assumption | exact bcellv (balloc (Below.refl _ _) _) c0)
  have c2 : w1.cell? ⟨b, 2, none⟩ = some (.slice (some ⟨G, 0, none⟩) n cap) := bcellv hb1 (by first | assumption | exact bcellv (balloc (Below.refl _ _) _) c2)
  have q : w1.cell? ⟨G, i, none⟩ = some (.int .u64 x) := bcellv hb1 (by first | assumption | exact bcellv (balloc (Below.refl _ _) _) q)
  have r : w1.cell? ⟨G, i + 1, none⟩ = some (.int .u64 y) := bcellv hb1 (by first | assumption | exact bcellv (balloc (Below.refl _ _) _) r)
  have p0 : (w1.alloc (.cells #[.int .i64 kk, .int .i64 cc, .int .i64 ff] 29)).cell? ⟨w1.heap.size, 0, none⟩ = some (.int .i64 kk) := by simp
  have p1 : (w1.alloc (.cells #[.int .i64 kk, .int .i64 cc, .int .i64 ff] 29)).cell? ⟨w1.heap.size, 1, none⟩ = some (.int .i64 cc) := by simp
  have p2 : (w1.alloc (.cells #[.int .i64 kk, .int .i64 cc, .int .i64 ff] 29)).cell? ⟨w1.heap.size, 2, none⟩ = some (.int .i64 ff) := by simp
  go_wp2_with fail
  refine (d2 _).mono ?_
  rintro e w2 ⟨rfl, hb2⟩
  clear d2
  have c0 : w2.cell? ⟨b, 0, none⟩ = some (.int .i64 bs) := bcellv hb2 (by first | assumption | exact bcellv (balloc (Below.refl _ _) _) c0)
  have c2 : w2.cell? ⟨b, 2, none⟩ = some (.slice (some ⟨G, 0, none⟩) n cap) := bcellv hb2 (by first | assumption | exact bcellv (balloc (Below.refl _ _) _) c2)
  have q : w2.cell? ⟨G, i, none⟩ = some (.int .u64 x) := bcellv hb2 (by first | assumption | exact bcellv (balloc (Below.refl _ _) _) q)
  have r : w2.cell? ⟨G, i + 1, none⟩ = some (.int .u64 y) := bcellv hb2 (by first | assumption | exact bcellv (balloc (Below.refl _ _) _) r)
  go_wp2_with fail
  refine (d3 _).mono ?_
  rintro e w3 ⟨rfl, hb3⟩
  clear d3
  have c0 : w3.cell? ⟨b, 0, none⟩ = some (.int .i64 bs) := bcellv hb3 (by first | assumption | exact bcellv (balloc (Below.refl _ _) _) c0)
  have c2 : w3.cell? ⟨b, 2, none⟩ = some (.slice (some ⟨G, 0, none⟩) n cap) := bcellv hb3 (by first | assumption | exact bcellv (balloc (Below.refl _ _) _) c2)
  have q : w3.cell? ⟨G, i, none⟩ = some (.int .u64 x) := bcellv hb3 (by first | assumption | exact bcellv (balloc (Below.refl _ _) _) q)
  have r : w3.cell? ⟨G, i + 1, none⟩ = some (.int .u64 y) := bcellv hb3 (by first | assumption | exact bcellv (balloc (Below.refl _ _) _) r)
  go_wp2
  go_ret
  exact ⟨rfl, by (repeat (first | exact Below.refl _ _ | assumption | refine Below.drew ?_ | refine below_drewN ?_ _ | refine balloc ?_ _ | refine Below.setCell ?_ (by first | (simp; done) | (simp; omega) | omega) _ | refine bchain (by assumption) ?_))⟩
theorem size_any {w : World} {b : Nat} {bs lm : Int} {ws : List Int} {g : Option Nat} (h : SpAt w b bs lm ws g) (hk : SpOk bs lm ws) (i : Nat) (hi : i ≤ ws.length) :
    Calls Try.prog 48 #[.pointer (some ⟨b, 0, none⟩), .int .i64 i] w fun e w' => e = .returned (.int .i64 (szN ws i : Nat)) ∧ Below w.heap.size w w' := by
  by_cases h0 : i + 2 ≤ ws.length
  · cases h1 : decB (ws.getD i 0)
    · rw [szN_no (by rw [Bool.eq_false_iff]; intro hh; have := (szB_iff.1 hh).2.1; rw [h1] at this; cases this)]
      exact size_bad h hk i h0 h1
    · have hw := wordsI_bd (decB_iff.1 h1).1
      cases h2 : didB (ws.getD (i + 1) 0)
      · rw [szN_no (by rw [Bool.eq_false_iff]; intro hh; have := (szB_iff.1 hh).2.2.1; rw [h2] at this; cases this)]
        exact size_noid h hk i h0 h1 h2
      · by_cases h3 : (i : Int) + wordsI (decF (ws.getD i 0)) ≤ ws.length
        · rw [szN_yes (szB_iff.2 ⟨h0, h1, h2, by omega⟩), show ((wordsI (decF (ws.getD i 0))).toNat : Int) = wordsI (decF (ws.getD i 0)) by omega]
          exact size_ok h hk i h0 h1 h2 h3
        · rw [szN_no (by rw [Bool.eq_false_iff]; intro hh; have := (szB_iff.1 hh).2.2.2; omega)]
          exact size_big h hk i h0 h1 h2 (by omega)
  · rw [szN_no (by rw [Bool.eq_false_iff]; intro hh; have := (szB_iff.1 hh).1; omega)]
    exact size_short h hk i hi (by omega)
end Go.Proofs.Ytafailcjdkmdhaa
