/-
  (*Space).size: the size of the sound object at a place, or 0.
-/
import Derived.Test.YtgjaafcagnkfdaaTB
import Derived.RangeFuncKeeps
import Derived.RangeFuncLeaves
import Derived.Shelf.Abstract
import Derived.WalkKit
import Derived.OwnWalkIn
import Derived.TacticsInMore
import Derived.LoopNIn
import Derived.LoopIn
import Derived.RangeFuncFrom
import Derived.RangeFuncCalls
import Derived.RegionIn
import Derived.Shelf.RegionOpen
import Derived.Sort.QuietThIn
import Derived.Sort.BigQuietIn
import Derived.TacticsIn
import Derived.NoCompiler
import Derived.RangeFuncBox
import Derived.Maps.AppendAt
import Derived.Lib.Walk
namespace Go.Proofs.Ytgjaafcagnkfdaa
open Go.RowKit
set_option linter.unusedSimpArgs false
set_option linter.unusedVariables false

/-- Is there a sound object at place i of the words? -/
def szB (ws : List Int) (i : Nat) : Bool := decide (i + 2 ≤ ws.length) && decB (ws.getD i 0) && didB (ws.getD (i + 1) 0) && decide (i + (wordsI (decF (ws.getD i 0))).toNat ≤ ws.length)
/-- Its size, or 0. -/
def szN (ws : List Int) (i : Nat) : Nat := if szB ws i then (wordsI (decF (ws.getD i 0))).toNat else 0
theorem szB_iff {ws : List Int} {i : Nat} : szB ws i = true ↔ i + 2 ≤ ws.length ∧ decB (ws.getD i 0) = true ∧ didB (ws.getD (i + 1) 0) = true ∧ i + (wordsI (decF (ws.getD i 0))).toNat ≤ ws.length := by unfold szB; simp [and_assoc]
theorem szN_yes {ws : List Int} {i : Nat} (h : szB ws i = true) : szN ws i = (wordsI (decF (ws.getD i 0))).toNat := by unfold szN; rw [if_pos h]
theorem szN_no {ws : List Int} {i : Nat} (h : szB ws i = false) : szN ws i = 0 := by unfold szN; rw [h]; rfl
theorem szN_bd {ws : List Int} {i : Nat} (h : szB ws i = true) : 4 ≤ szN ws i ∧ szN ws i ≤ 32 ∧ i + szN ws i ≤ ws.length := by
  rw [szN_yes h]
  obtain ⟨h0, h1, h2, h3⟩ := szB_iff.1 h
  have := wordsI_bd (decB_iff.1 h1).1
  omega
theorem szN_le {ws : List Int} {i : Nat} (h : i ≤ ws.length) : i + szN ws i ≤ ws.length := by
  cases hs : szB ws i
  · rw [szN_no hs]; omega
  · exact (szN_bd hs).2.2
theorem szN_pos {ws : List Int} {i : Nat} : 0 < szN ws i ↔ szB ws i = true := by
  cases hs : szB ws i
  · rw [szN_no hs]; simp
  · have := szN_bd hs; simp; omega
theorem getD_u64 {ws : List Int} (h : ∀ x ∈ ws, U64 x) (i : Nat) : U64 (ws.getD i 0) := by
  by_cases hi : i < ws.length
  · rw [List.getD_eq_getElem?_getD, List.getElem?_eq_getElem hi]
    exact h _ (List.getElem_mem hi)
  · rw [List.getD_eq_getElem?_getD, List.getElem?_eq_none (by omega)]
    exact ⟨by simp, by simp⟩

set_option maxRecDepth 100000 in
set_option maxHeartbeats 1000000 in
theorem size_short {w : World} {b : Nat} {bs lm : Int} {ws : List Int} {g : Option Nat} (h : SpAt w b bs lm ws g) (hk : SpOk bs lm ws) (i : Nat) (hi : i ≤ ws.length) (hs : ws.length < i + 2) :
    Calls Try.prog 55 #[.pointer (some ⟨b, 0, none⟩), .int .i64 i] w fun e w' => e = .returned (.int .i64 0) ∧ Below w.heap.size w w' := by
  obtain ⟨a, cap, c0, c1, c2, hr⟩ := h.cells
  obtain ⟨b0, b1, b2, _⟩ := hk
  clear h hr
  generalize (ws.length) = n at *
  go_enter Try.func55, Try.ntmps55
  go_wp2
  all_goals (try (go_quiet (fail); go_wp2))
  go_ret
  exact ⟨rfl, by (repeat (first | exact Below.refl _ _ | assumption | refine Below.drew ?_ | refine below_drewN ?_ _ | refine balloc ?_ _ | refine Below.setCell ?_ (by first | (simp; done) | (simp; omega) | omega) _ | refine bchain (by assumption) ?_))⟩
set_option maxRecDepth 100000 in
set_option maxHeartbeats 1000000 in
theorem size_bad {w : World} {b : Nat} {bs lm : Int} {ws : List Int} {g : Option Nat} (h : SpAt w b bs lm ws g) (hk : SpOk bs lm ws) (i : Nat) (hi : i + 2 ≤ ws.length) (hd : decB (ws.getD i 0) = false) :
    Calls Try.prog 55 #[.pointer (some ⟨b, 0, none⟩), .int .i64 i] w fun e w' => e = .returned (.int .i64 0) ∧ Below w.heap.size w w' := by
  obtain ⟨a, cap, c0, c1, c2, hr⟩ := h.cells
  obtain ⟨G, rfl, rfl, q, _⟩ := hr.word (i := i) (by omega)
  obtain ⟨G', e', e'', r, _⟩ := hr.word (i := i + 1) (by omega)
  cases e'
  clear e''
  have hx := getD_u64 hk.u64 i
  have hy := getD_u64 hk.u64 (i + 1)
  obtain ⟨b0, b1, b2, _⟩ := hk
  clear h hr
  generalize ws.getD i 0 = x at *
  generalize ws.getD (i + 1) 0 = y at *
  generalize (ws.length) = n at *
  have d1 := fun W => decode_no x hx hd W
  have d2 := fun W => words_no 0 0 0 (by decide) W
  clear hd hx hy
  have k0 : (0 : Int) = 0 := rfl
  go_enter Try.func55, Try.ntmps55
  have s1 : ((i : Int)).toNat = i := by omega
  have s2 : IntKind.i64.wrap ((i : Int) + 1) = ((i + 1 : Nat) : Int) := by rw [show ((i + 1 : Nat) : Int) = (i : Int) + 1 by omega]; exact IntWalk.i64_in _ (by omega)
  have s2a : (((i + 1 : Nat) : Int)).toNat = i + 1 := by omega
  have s2b : (((i + 1 : Nat) : Int)) < (n : Int) := by omega
  have s2c : (0 : Int) ≤ (((i + 1 : Nat) : Int)) := by omega
  have s4 : IntKind.i64.wrap ((n : Int) - (i : Int)) = (n : Int) - (i : Int) := IntWalk.i64_in _ (by omega)
  go_wp2_with fail
  refine (d1 _).mono ?_
  rintro e w1 ⟨rfl, hb1⟩
  clear d1
  have c0 : w1.cell? ⟨b, 0, none⟩ = some (.int .i64 bs) := bcellv hb1 (by first | assumption | exact bcellv (balloc (Below.refl _ _) _) c0)
  have c2 : w1.cell? ⟨b, 2, none⟩ = some (.slice (some ⟨G, 0, none⟩) n cap) := bcellv hb1 (by first | assumption | exact bcellv (balloc (Below.refl _ _) _) c2)
  have q : w1.cell? ⟨G, i, none⟩ = some (.int .u64 x) := bcellv hb1 (by first | assumption | exact bcellv (balloc (Below.refl _ _) _) q)
  have r : w1.cell? ⟨G, i + 1, none⟩ = some (.int .u64 y) := bcellv hb1 (by first | assumption | exact bcellv (balloc (Below.refl _ _) _) r)
  have p0 : (w1.alloc (.cells #[.int .i64 0, .int .i64 0, .int .i64 0] 46)).cell? ⟨w1.heap.size, 0, none⟩ = some (.int .i64 0) := by simp
  have p1 : (w1.alloc (.cells #[.int .i64 0, .int .i64 0, .int .i64 0] 46)).cell? ⟨w1.heap.size, 1, none⟩ = some (.int .i64 0) := by simp
  have p2 : (w1.alloc (.cells #[.int .i64 0, .int .i64 0, .int .i64 0] 46)).cell? ⟨w1.heap.size, 2, none⟩ = some (.int .i64 0) := by simp
  go_wp2_with fail
  refine (d2 _).mono ?_
  rintro e w2 ⟨rfl, hb2⟩
  clear d2
  have c0 : w2.cell? ⟨b, 0, none⟩ = some (.int .i64 bs) := bcellv hb2 (by first | assumption | exact bcellv (balloc (Below.refl _ _) _) c0)
  have c2 : w2.cell? ⟨b, 2, none⟩ = some (.slice (some ⟨G, 0, none⟩) n cap) := bcellv hb2 (by first | assumption | exact bcellv (balloc (Below.refl _ _) _) c2)
  have q : w2.cell? ⟨G, i, none⟩ = some (.int .u64 x) := bcellv hb2 (by first | assumption | exact bcellv (balloc (Below.refl _ _) _) q)
  have r : w2.cell? ⟨G, i + 1, none⟩ = some (.int .u64 y) := bcellv hb2 (by first | assumption | exact bcellv (balloc (Below.refl _ _) _) r)
  clear s1 s2 s2a s2b s2c s4
  go_wp2
  go_ret
  exact ⟨rfl, by (repeat (first | exact Below.refl _ _ | assumption | refine Below.drew ?_ | refine below_drewN ?_ _ | refine balloc ?_ _ | refine Below.setCell ?_ (by first | (simp; done) | (simp; omega) | omega) _ | refine bchain (by assumption) ?_))⟩
set_option maxRecDepth 100000 in
set_option maxHeartbeats 1000000 in
theorem size_noid {w : World} {b : Nat} {bs lm : Int} {ws : List Int} {g : Option Nat} (h : SpAt w b bs lm ws g) (hk : SpOk bs lm ws) (i : Nat) (hi : i + 2 ≤ ws.length) (hd : decB (ws.getD i 0) = true) (hdd : didB (ws.getD (i + 1) 0) = false) :
    Calls Try.prog 55 #[.pointer (some ⟨b, 0, none⟩), .int .i64 i] w fun e w' => e = .returned (.int .i64 0) ∧ Below w.heap.size w w' := by
  obtain ⟨a, cap, c0, c1, c2, hr⟩ := h.cells
  obtain ⟨G, rfl, rfl, q, _⟩ := hr.word (i := i) (by omega)
  obtain ⟨G', e', e'', r, _⟩ := hr.word (i := i + 1) (by omega)
  cases e'
  clear e''
  have hx := getD_u64 hk.u64 i
  have hy := getD_u64 hk.u64 (i + 1)
  obtain ⟨b0, b1, b2, _⟩ := hk
  clear h hr
  generalize ws.getD i 0 = x at *
  generalize ws.getD (i + 1) 0 = y at *
  generalize (ws.length) = n at *
  have d1 := fun W => decode_yes x hx hd W
  have d2 := fun W => words_yes _ _ _ (decB_iff.1 hd).1 W
  obtain ⟨y0, y1, y2⟩ := wordsI_bd (decB_iff.1 hd).1
  have d3 := fun W => decodeID_no y hy hdd W
  generalize hkk : decK x = kk at *
  generalize hcc : decC x = cc at *
  generalize hff : decF x = ff at *
  generalize hyy : wordsI ff = m at *
  clear hd hdd hx hy
  go_enter Try.func55, Try.ntmps55
  have s1 : ((i : Int)).toNat = i := by omega
  have s2 : IntKind.i64.wrap ((i : Int) + 1) = ((i + 1 : Nat) : Int) := by rw [show ((i + 1 : Nat) : Int) = (i : Int) + 1 by omega]; exact IntWalk.i64_in _ (by omega)
  have s2a : (((i + 1 : Nat) : Int)).toNat = i + 1 := by omega
  have s2b : (((i + 1 : Nat) : Int)) < (n : Int) := by omega
  have s2c : (0 : Int) ≤ (((i + 1 : Nat) : Int)) := by omega
  have s4 : IntKind.i64.wrap ((n : Int) - (i : Int)) = (n : Int) - (i : Int) := IntWalk.i64_in _ (by omega)
  go_wp2_with fail
  refine (d1 _).mono ?_
  rintro e w1 ⟨rfl, hb1⟩
  clear d1
  have c0 : w1.cell? ⟨b, 0, none⟩ = some (.int .i64 bs) := bcellv hb1 (by first | assumption | exact bcellv (balloc (Below.refl _ _) _) c0)
  have c2 : w1.cell? ⟨b, 2, none⟩ = some (.slice (some ⟨G, 0, none⟩) n cap) := bcellv hb1 (by first | assumption | exact bcellv (balloc (Below.refl _ _) _) c2)
  have q : w1.cell? ⟨G, i, none⟩ = some (.int .u64 x) := bcellv hb1 (by first | assumption | exact bcellv (balloc (Below.refl _ _) _) q)
  have r : w1.cell? ⟨G, i + 1, none⟩ = some (.int .u64 y) := bcellv hb1 (by first | assumption | exact bcellv (balloc (Below.refl _ _) _) r)
  have p0 : (w1.alloc (.cells #[.int .i64 kk, .int .i64 cc, .int .i64 ff] 46)).cell? ⟨w1.heap.size, 0, none⟩ = some (.int .i64 kk) := by simp
  have p1 : (w1.alloc (.cells #[.int .i64 kk, .int .i64 cc, .int .i64 ff] 46)).cell? ⟨w1.heap.size, 1, none⟩ = some (.int .i64 cc) := by simp
  have p2 : (w1.alloc (.cells #[.int .i64 kk, .int .i64 cc, .int .i64 ff] 46)).cell? ⟨w1.heap.size, 2, none⟩ = some (.int .i64 ff) := by simp
  go_wp2_with fail
  refine (d2 _).mono ?_
  rintro e w2 ⟨rfl, hb2⟩
  clear d2
  have c0 : w2.cell? ⟨b, 0, none⟩ = some (.int .i64 bs) := bcellv hb2 (by first | assumption | exact bcellv (balloc (Below.refl _ _) _) c0)
  have c2 : w2.cell? ⟨b, 2, none⟩ = some (.slice (some ⟨G, 0, none⟩) n cap) := bcellv hb2 (by first | assumption | exact bcellv (balloc (Below.refl _ _) _) c2)
  have q : w2.cell? ⟨G, i, none⟩ = some (.int .u64 x) := bcellv hb2 (by first | assumption | exact bcellv (balloc (Below.refl _ _) _) q)
  have r : w2.cell? ⟨G, i + 1, none⟩ = some (.int .u64 y) := bcellv hb2 (by first | assumption | exact bcellv (balloc (Below.refl _ _) _) r)
  go_wp2_with fail
  refine (d3 _).mono ?_
  rintro e w3 ⟨rfl, hb3⟩
  clear d3
  have c0 : w3.cell? ⟨b, 0, none⟩ = some (.int .i64 bs) := bcellv hb3 (by first | assumption | exact bcellv (balloc (Below.refl _ _) _) c0)
  have c2 : w3.cell? ⟨b, 2, none⟩ = some (.slice (some ⟨G, 0, none⟩) n cap) := bcellv hb3 (by first | assumption | exact bcellv (balloc (Below.refl _ _) _) c2)
  have q : w3.cell? ⟨G, i, none⟩ = some (.int .u64 x) := bcellv hb3 (by first | assumption | exact bcellv (balloc (Below.refl _ _) _) q)
  have r : w3.cell? ⟨G, i + 1, none⟩ = some (.int .u64 y) := bcellv hb3 (by first | assumption | exact bcellv (balloc (Below.refl _ _) _) r)
  go_wp2
  go_ret
  exact ⟨rfl, by (repeat (first | exact Below.refl _ _ | assumption | refine Below.drew ?_ | refine below_drewN ?_ _ | refine balloc ?_ _ | refine Below.setCell ?_ (by first | (simp; done) | (simp; omega) | omega) _ | refine bchain (by assumption) ?_))⟩
set_option maxRecDepth 100000 in
set_option maxHeartbeats 1000000 in
theorem size_big {w : World} {b : Nat} {bs lm : Int} {ws : List Int} {g : Option Nat} (h : SpAt w b bs lm ws g) (hk : SpOk bs lm ws) (i : Nat) (hi : i + 2 ≤ ws.length) (hd : decB (ws.getD i 0) = true) (hdd : didB (ws.getD (i + 1) 0) = true) (hn : (ws.length : Int) < i + wordsI (decF (ws.getD i 0))) :
    Calls Try.prog 55 #[.pointer (some ⟨b, 0, none⟩), .int .i64 i] w fun e w' => e = .returned (.int .i64 0) ∧ Below w.heap.size w w' := by
  obtain ⟨a, cap, c0, c1, c2, hr⟩ := h.cells
  obtain ⟨G, rfl, rfl, q, _⟩ := hr.word (i := i) (by omega)
  obtain ⟨G', e', e'', r, _⟩ := hr.word (i := i + 1) (by omega)
  cases e'
  clear e''
  have hx := getD_u64 hk.u64 i
  have hy := getD_u64 hk.u64 (i + 1)
  obtain ⟨b0, b1, b2, _⟩ := hk
  clear h hr
  generalize ws.getD i 0 = x at *
  generalize ws.getD (i + 1) 0 = y at *
  generalize (ws.length) = n at *
  have d1 := fun W => decode_yes x hx hd W
  have d2 := fun W => words_yes _ _ _ (decB_iff.1 hd).1 W
  obtain ⟨y0, y1, y2⟩ := wordsI_bd (decB_iff.1 hd).1
  have d3 := fun W => decodeID_yes y hy hdd W
  have d4 : idB (didM y) (didS y) = true := hdd
  have d5 := idB_iff.1 d4
  clear d4
  generalize didM y = ym at *
  generalize didS y = ys at *
  generalize hkk : decK x = kk at *
  generalize hcc : decC x = cc at *
  generalize hff : decF x = ff at *
  generalize hyy : wordsI ff = m at *
  clear hd hdd hx hy
  go_enter Try.func55, Try.ntmps55
  have s1 : ((i : Int)).toNat = i := by omega
  have s2 : IntKind.i64.wrap ((i : Int) + 1) = ((i + 1 : Nat) : Int) := by rw [show ((i + 1 : Nat) : Int) = (i : Int) + 1 by omega]; exact IntWalk.i64_in _ (by omega)
  have s2a : (((i + 1 : Nat) : Int)).toNat = i + 1 := by omega
  have s2b : (((i + 1 : Nat) : Int)) < (n : Int) := by omega
  have s2c : (0 : Int) ≤ (((i + 1 : Nat) : Int)) := by omega
  have s4 : IntKind.i64.wrap ((n : Int) - (i : Int)) = (n : Int) - (i : Int) := IntWalk.i64_in _ (by omega)
  go_wp2_with fail
  refine (d1 _).mono ?_
  rintro e w1 ⟨rfl, hb1⟩
  clear d1
  have c0 : w1.cell? ⟨b, 0, none⟩ = some (.int .i64 bs) := bcellv hb1 (by first | assumption | exact bcellv (balloc (Below.refl _ _) _) c0)
  have c2 : w1.cell? ⟨b, 2, none⟩ = some (.slice (some ⟨G, 0, none⟩) n cap) := bcellv hb1 (by first | assumption | exact bcellv (balloc (Below.refl _ _) _) c2)
  have q : w1.cell? ⟨G, i, none⟩ = some (.int .u64 x) := bcellv hb1 (by first | assumption | exact bcellv (balloc (Below.refl _ _) _) q)
  have r : w1.cell? ⟨G, i + 1, none⟩ = some (.int .u64 y) := bcellv hb1 (by first | assumption | exact bcellv (balloc (Below.refl _ _) _) r)
  have p0 : (w1.alloc (.cells #[.int .i64 kk, .int .i64 cc, .int .i64 ff] 46)).cell? ⟨w1.heap.size, 0, none⟩ = some (.int .i64 kk) := by simp
  have p1 : (w1.alloc (.cells #[.int .i64 kk, .int .i64 cc, .int .i64 ff] 46)).cell? ⟨w1.heap.size, 1, none⟩ = some (.int .i64 cc) := by simp
  have p2 : (w1.alloc (.cells #[.int .i64 kk, .int .i64 cc, .int .i64 ff] 46)).cell? ⟨w1.heap.size, 2, none⟩ = some (.int .i64 ff) := by simp
  go_wp2_with fail
  refine (d2 _).mono ?_
  rintro e w2 ⟨rfl, hb2⟩
  clear d2
  have c0 : w2.cell? ⟨b, 0, none⟩ = some (.int .i64 bs) := bcellv hb2 (by first | assumption | exact bcellv (balloc (Below.refl _ _) _) c0)
  have c2 : w2.cell? ⟨b, 2, none⟩ = some (.slice (some ⟨G, 0, none⟩) n cap) := bcellv hb2 (by first | assumption | exact bcellv (balloc (Below.refl _ _) _) c2)
  have q : w2.cell? ⟨G, i, none⟩ = some (.int .u64 x) := bcellv hb2 (by first | assumption | exact bcellv (balloc (Below.refl _ _) _) q)
  have r : w2.cell? ⟨G, i + 1, none⟩ = some (.int .u64 y) := bcellv hb2 (by first | assumption | exact bcellv (balloc (Below.refl _ _) _) r)
  go_wp2_with fail
  refine (d3 _).mono ?_
  rintro e w3 ⟨rfl, hb3⟩
  clear d3
  have c0 : w3.cell? ⟨b, 0, none⟩ = some (.int .i64 bs) := bcellv hb3 (by first | assumption | exact bcellv (balloc (Below.refl _ _) _) c0)
  have c2 : w3.cell? ⟨b, 2, none⟩ = some (.slice (some ⟨G, 0, none⟩) n cap) := bcellv hb3 (by first | assumption | exact bcellv (balloc (Below.refl _ _) _) c2)
  have q : w3.cell? ⟨G, i, none⟩ = some (.int .u64 x) := bcellv hb3 (by first | assumption | exact bcellv (balloc (Below.refl _ _) _) q)
  have r : w3.cell? ⟨G, i + 1, none⟩ = some (.int .u64 y) := bcellv hb3 (by first | assumption | exact bcellv (balloc (Below.refl _ _) _) r)
  go_wp2
  go_ret
  exact ⟨rfl, by (repeat (first | exact Below.refl _ _ | assumption | refine Below.drew ?_ | refine below_drewN ?_ _ | refine balloc ?_ _ | refine Below.setCell ?_ (by first | (simp; done) | (simp; omega) | omega) _ | refine bchain (by assumption) ?_))⟩
set_option maxRecDepth 100000 in
set_option maxHeartbeats 1000000 in
theorem size_ok {w : World} {b : Nat} {bs lm : Int} {ws : List Int} {g : Option Nat} (h : SpAt w b bs lm ws g) (hk : SpOk bs lm ws) (i : Nat) (hi : i + 2 ≤ ws.length) (hd : decB (ws.getD i 0) = true) (hdd : didB (ws.getD (i + 1) 0) = true) (hn : (i : Int) + wordsI (decF (ws.getD i 0)) ≤ ws.length) :
    Calls Try.prog 55 #[.pointer (some ⟨b, 0, none⟩), .int .i64 i] w fun e w' => e = .returned (.int .i64 (wordsI (decF (ws.getD i 0)))) ∧ Below w.heap.size w w' := by
  obtain ⟨a, cap, c0, c1, c2, hr⟩ := h.cells
  obtain ⟨G, rfl, rfl, q, _⟩ := hr.word (i := i) (by omega)
  obtain ⟨G', e', e'', r, _⟩ := hr.word (i := i + 1) (by omega)
  cases e'
  clear e''
  have hx := getD_u64 hk.u64 i
  have hy := getD_u64 hk.u64 (i + 1)
  obtain ⟨b0, b1, b2, _⟩ := hk
  clear h hr
  generalize ws.getD i 0 = x at *
  generalize ws.getD (i + 1) 0 = y at *
  generalize (ws.length) = n at *
  have d1 := fun W => decode_yes x hx hd W
  have d2 := fun W => words_yes _ _ _ (decB_iff.1 hd).1 W
  obtain ⟨y0, y1, y2⟩ := wordsI_bd (decB_iff.1 hd).1
  have d3 := fun W => decodeID_yes y hy hdd W
  have d4 : idB (didM y) (didS y) = true := hdd
  have d5 := idB_iff.1 d4
  clear d4
  generalize didM y = ym at *
  generalize didS y = ys at *
  generalize hkk : decK x = kk at *
  generalize hcc : decC x = cc at *
  generalize hff : decF x = ff at *
  generalize hyy : wordsI ff = m at *
  clear hd hdd hx hy
  go_enter Try.func55, Try.ntmps55
  have s1 : ((i : Int)).toNat = i := by omega
  have s2 : IntKind.i64.wrap ((i : Int) + 1) = ((i + 1 : Nat) : Int) := by rw [show ((i + 1 : Nat) : Int) = (i : Int) + 1 by omega]; exact IntWalk.i64_in _ (by omega)
  have s2a : (((i + 1 : Nat) : Int)).toNat = i + 1 := by omega
  have s2b : (((i + 1 : Nat) : Int)) < (n : Int) := by omega
  have s2c : (0 : Int) ≤ (((i + 1 : Nat) : Int)) := by omega
  have s4 : IntKind.i64.wrap ((n : Int) - (i : Int)) = (n : Int) - (i : Int) := IntWalk.i64_in _ (by omega)
  go_wp2_with fail
  refine (d1 _).mono ?_
  rintro e w1 ⟨rfl, hb1⟩
  clear d1
  have c0 : w1.cell? ⟨b, 0, none⟩ = some (.int .i64 bs) := bcellv hb1 (by first | assumption | exact bcellv (balloc (Below.refl _ _) _) c0)
  have c2 : w1.cell? ⟨b, 2, none⟩ = some (.slice (some ⟨G, 0, none⟩) n cap) := bcellv hb1 (by first | assumption | exact bcellv (balloc (Below.refl _ _) _) c2)
  have q : w1.cell? ⟨G, i, none⟩ = some (.int .u64 x) := bcellv hb1 (by first | assumption | exact bcellv (balloc (Below.refl _ _) _) q)
  have r : w1.cell? ⟨G, i + 1, none⟩ = some (.int .u64 y) := bcellv hb1 (by first | assumption | exact bcellv (balloc (Below.refl _ _) _) r)
  have p0 : (w1.alloc (.cells #[.int .i64 kk, .int .i64 cc, .int .i64 ff] 46)).cell? ⟨w1.heap.size, 0, none⟩ = some (.int .i64 kk) := by simp
  have p1 : (w1.alloc (.cells #[.int .i64 kk, .int .i64 cc, .int .i64 ff] 46)).cell? ⟨w1.heap.size, 1, none⟩ = some (.int .i64 cc) := by simp
  have p2 : (w1.alloc (.cells #[.int .i64 kk, .int .i64 cc, .int .i64 ff] 46)).cell? ⟨w1.heap.size, 2, none⟩ = some (.int .i64 ff) := by simp
  go_wp2_with fail
  refine (d2 _).mono ?_
  rintro e w2 ⟨rfl, hb2⟩
  clear d2
  have c0 : w2.cell? ⟨b, 0, none⟩ = some (.int .i64 bs) := bcellv hb2 (by first | assumption | exact bcellv (balloc (Below.refl _ _) _) c0)
  have c2 : w2.cell? ⟨b, 2, none⟩ = some (.slice (some ⟨G, 0, none⟩) n cap) := bcellv hb2 (by first | assumption | exact bcellv (balloc (Below.refl _ _) _) c2)
  have q : w2.cell? ⟨G, i, none⟩ = some (.int .u64 x) := bcellv hb2 (by first | assumption | exact bcellv (balloc (Below.refl _ _) _) q)
  have r : w2.cell? ⟨G, i + 1, none⟩ = some (.int .u64 y) := bcellv hb2 (by first | assumption | exact bcellv (balloc (Below.refl _ _) _) r)
  go_wp2_with fail
  refine (d3 _).mono ?_
  rintro e w3 ⟨rfl, hb3⟩
  clear d3
  have c0 : w3.cell? ⟨b, 0, none⟩ = some (.int .i64 bs) := bcellv hb3 (by first | assumption | exact bcellv (balloc (Below.refl _ _) _) c0)
  have c2 : w3.cell? ⟨b, 2, none⟩ = some (.slice (some ⟨G, 0, none⟩) n cap) := bcellv hb3 (by first | assumption | exact bcellv (balloc (Below.refl _ _) _) c2)
  have q : w3.cell? ⟨G, i, none⟩ = some (.int .u64 x) := bcellv hb3 (by first | assumption | exact bcellv (balloc (Below.refl _ _) _) q)
  have r : w3.cell? ⟨G, i + 1, none⟩ = some (.int .u64 y) := bcellv hb3 (by first | assumption | exact bcellv (balloc (Below.refl _ _) _) r)
  go_wp2
  go_ret
  exact ⟨rfl, by (repeat (first | exact Below.refl _ _ | assumption | refine Below.drew ?_ | refine below_drewN ?_ _ | refine balloc ?_ _ | refine Below.setCell ?_ (by first | (simp; done) | (simp; omega) | omega) _ | refine bchain (by assumption) ?_))⟩
theorem size_any {w : World} {b : Nat} {bs lm : Int} {ws : List Int} {g : Option Nat} (h : SpAt w b bs lm ws g) (hk : SpOk bs lm ws) (i : Nat) (hi : i ≤ ws.length) :
    Calls Try.prog 55 #[.pointer (some ⟨b, 0, none⟩), .int .i64 i] w fun e w' => e = .returned (.int .i64 (szN ws i : Nat)) ∧ Below w.heap.size w w' := by
  by_cases h0 : i + 2 ≤ ws.length
  · cases h1 : decB (ws.getD i 0)
    · rw [szN_no (by rw [Bool.eq_false_iff]; intro hh; have := (szB_iff.1 hh).2.1; rw [h1] at this; cases this)]
      exact size_bad h hk i h0 h1
    · have hw := wordsI_bd (decB_iff.1 h1).1
      cases h2 : didB (ws.getD (i + 1) 0)
      · rw [szN_no (by rw [Bool.eq_false_iff]; intro hh; have := (szB_iff.1 hh).2.2.1; rw [h2] at this; cases this)]
        exact size_noid h hk i h0 h1 h2
      · by_cases h3 : (i : Int) + wordsI (decF (ws.getD i 0)) ≤ ws.length
        · rw [szN_yes (szB_iff.2 ⟨h0, h1, h2, by omega⟩), show ((wordsI (decF (ws.getD i 0))).toNat : Int) = wordsI (decF (ws.getD i 0)) by omega]
          exact size_ok h hk i h0 h1 h2 h3
        · rw [szN_no (by rw [Bool.eq_false_iff]; intro hh; have := (szB_iff.1 hh).2.2.2; omega)]
          exact size_big h hk i h0 h1 h2 (by omega)
  · rw [szN_no (by rw [Bool.eq_false_iff]; intro hh; have := (szB_iff.1 hh).1; omega)]
    exact size_short h hk i hi (by omega)
end Go.Proofs.Ytgjaafcagnkfdaa
namespace Go.Proofs.Ytgjaafcagnkfdaa
open Go.RowKit Go.Shelf
set_option linter.unusedSimpArgs false
set_option linter.unusedVariables false

/-- The places of the objects from place i on. -/
def objs (ws : List Int) (i : Nat) : List Nat := if h : szB ws i = true then i :: objs ws (i + szN ws i) else []
termination_by ws.length - i
decreasing_by have := szN_bd h; omega
/-- Where walking from place i ends. -/
def stopAt (ws : List Int) (i : Nat) : Nat := if h : szB ws i = true then stopAt ws (i + szN ws i) else i
termination_by ws.length - i
decreasing_by have := szN_bd h; omega
theorem objs_yes {ws : List Int} {i : Nat} (h : szB ws i = true) : objs ws i = i :: objs ws (i + szN ws i) := by rw [objs, dif_pos h]
theorem objs_no {ws : List Int} {i : Nat} (h : szB ws i = false) : objs ws i = [] := by rw [objs, dif_neg (by rw [h]; simp)]
theorem stopAt_yes {ws : List Int} {i : Nat} (h : szB ws i = true) : stopAt ws i = stopAt ws (i + szN ws i) := by rw [stopAt, dif_pos h]
theorem stopAt_no {ws : List Int} {i : Nat} (h : szB ws i = false) : stopAt ws i = i := by rw [stopAt, dif_neg (by rw [h]; simp)]
/-- What walking from place i on yields. -/
def seqL (bs : Int) (ws : List Int) (i : Nat) : List (Int × Bool) := (objs ws i).map (fun (j : Nat) => (bs + (j : Int), true)) ++ [(bs + (stopAt ws i : Int), false)]
theorem seqL_yes {bs : Int} {ws : List Int} {i : Nat} (h : szB ws i = true) : seqL bs ws i = (bs + (i : Int), true) :: seqL bs ws (i + szN ws i) := by unfold seqL; rw [objs_yes h, stopAt_yes h]; rfl
theorem seqL_no {bs : Int} {ws : List Int} {i : Nat} (h : szB ws i = false) : seqL bs ws i = [(bs + (i : Int), false)] := by unfold seqL; rw [objs_no h, stopAt_no h]; rfl

/-- The blocks of K lie as they lay. -/
def KeepB (K : Nat → Prop) (A B : World) : Prop := ∀ k, K k → B.heap[k]? = A.heap[k]?
theorem KeepB.t {K : Nat → Prop} {A B C : World} (h : KeepB K A B) (k : KeepB K B C) : KeepB K A C := fun i hi => (k i hi).trans (h i hi)
theorem KeepB.of_below {K : Nat → Prop} {A B : World} (h : Below A.heap.size A B) (hK : ∀ k, K k → k < A.heap.size) : KeepB K A B := fun i hi => h.block i (hK i hi)
theorem KeepB.b {K : Nat → Prop} {w : World} (hK : ∀ k, K k → k < w.heap.size) (W : World) (l : Nat) (o o' : Obj) (hl : w.heap.size ≤ l) (_ : W.heap[l]? = some o) (_ : o.isCells = false) (_ : o.isWalk = false) : KeepB K W (W.putObj l o') :=
  fun k hk => World.putObj_heap_other (by have := hK k hk; omega)
def WkK (Bn b : Nat) (g : Option Nat) : Nat → Prop := fun k => k = Bn ∨ k = b ∨ g = some k
theorem SpAt.keepB {A B : World} {Bn b : Nat} {bs lm : Int} {ws : List Int} {g : Option Nat} (h : SpAt A b bs lm ws g) (hk : KeepB (WkK Bn b g) A B) : SpAt B b bs lm ws g :=
  h.keep (fun o ho => (hk b (.inr (.inl rfl))).trans ho) (fun G o e ho => (hk G (.inr (.inr e))).trans ho)
theorem grown_of {A B : World} (h : Below A.heap.size A B) : A.grownBy B none := ⟨h.os, h.tape, h.output, h.size, fun k hk _ => h.block k hk⟩
theorem below_of {A B : World} (h : A.grownBy B none) : Below A.heap.size A B := ⟨h.os, h.tape, h.output, h.size, fun k hk => h.block k hk (by simp)⟩
theorem abgo {β : Type} {N : Nat} {J : β → World → Prop} (h : AbidesFrom N J) {s : β} {A B : World} (hs : J s A) (hb : Below A.heap.size A B) : J s B := h s A B none hs (grown_of hb) (fun r e => by cases e)

attribute [local go_sem] Oper.semAt_some
def natOf : Value → Nat
  | .int _ v => v.toNat
  | _ => 0

set_option maxRecDepth 100000 in
set_option maxHeartbeats 1000000 in
theorem walk1_in (n : Nat) (hn : 1 ≤ n) (l Bn : Nat) {b : Nat} {bs lm : Int} {ws : List Int} {g : Option Nat} (hk : SpOk bs lm ws) (N0 : Nat) (J Jx : List (Int × Bool) → World → Prop) (hJ : AbidesFrom N0 J) (hJx : AbidesFrom N0 Jx)
    (hY : ∀ pre (x : Int × Bool) W, x ∈ seqL bs ws 0 → J pre W → pre.length < (seqL bs ws 0).length → YieldAt Fence.wide (n - 1) Try.prog l #[.int .i64 x.1, .bool x.2] W fun e W' =>
      (e = .returned (.bool true) ∧ J (pre ++ [x]) W' ∧ KeepB (WkK Bn b g) W W') ∨ (e = .returned (.bool false) ∧ Jx (pre ++ [x]) W'))
    (W : World) (hBn : W.cell? ⟨Bn, 0, none⟩ = some (.pointer (some ⟨b, 0, none⟩))) (hL : SpAt W b bs lm ws g) (h0 : J [] W) :
    CallsIn Fence.wide n Try.prog 54 #[.func (.yield l) #[] #[], .pointer (some ⟨Bn, 0, none⟩)] W fun e W' => (∃ v, e = .returned v) ∧
      ((∃ ys, ys = seqL bs ws 0 ∧ J ys W') ∨ (∃ pre, pre <+: seqL bs ws 0 ∧ Jx pre W')) := by
  refine callsIn_of_wp Try.func54 rfl trivial ?_ rfl
  simp only [Try.ntmps54, List.size_toArray, List.length_cons, List.length_nil, Nat.reduceAdd, Nat.reduceSub, Array.replicate_succ, Array.replicate_zero, List.push_toArray, List.append_toArray, List.nil_append, List.cons_append]
  gi_wp2_with fail
  refine ⟨trivial, (callsIn_wide.2 (size_any hL hk 0 (Nat.zero_le _))).mono ?_⟩
  rintro e w1 ⟨rfl, hb1⟩
  have hL1 := hL.below hb1
  have hB1 := bcellv hb1 hBn
  have hJ1 := abgo hJ h0 hb1
  gi_wp2_with fail
  gi_loopw [3, 4] (fun p q wr => ∃ (pre : List (Int × Bool)) (i : Nat), p = .int .i64 i ∧ q = .int .i64 (szN ws i : Nat) ∧ i ≤ ws.length ∧ seqL bs ws 0 = pre ++ seqL bs ws i ∧ SpAt wr b bs lm ws g ∧ wr.cell? ⟨Bn, 0, none⟩ = some (.pointer (some ⟨b, 0, none⟩)) ∧ J pre wr)
    (fun p q wr => ws.length - natOf p)
  case atStart =>
    exact ⟨[], 0, rfl, rfl, Nat.zero_le _, rfl, hL1, hB1, hJ1⟩
  case round =>
    obtain ⟨pre, i, rfl, rfl, hi, hsq, hLr, hBr, hJr⟩ := hrel
    obtain ⟨a, cap, c0, c1, c2, hr⟩ := hLr.cells
    have b0 := hk.b0
    have b1 := hk.top
    have b2 := hk.lm1
    have s1 : IntKind.i64.wrap (bs + (i : Int)) = bs + (i : Int) := IntWalk.i64_in _ (by omega)
    cases hz : szB ws i
    · rw [szN_no hz] at *
      rw [seqL_no hz] at hsq
      have hlen : pre.length < (seqL bs ws 0).length := by rw [hsq]; simp
      obtain ⟨fn, tmps, assign, body, hy, hR⟩ := hY pre (bs + (i : Int), false) wr (by rw [hsq]; simp) hJr hlen
      gi_wp2
      refine hR.mono ?_
      clear hR hy
      rintro e W3 (⟨rfl, hJ3, hk3⟩ | ⟨rfl, hJx3⟩)
      · gi_wp2
        go_end0
        exact ⟨⟨_, rfl⟩, .inl ⟨_, rfl, by rw [hsq]; exact hJ3⟩⟩
      · gi_wp2
        go_end0
        exact ⟨⟨_, rfl⟩, .inr ⟨_, ⟨[], by rw [hsq]; simp⟩, hJx3⟩⟩
    · have hb := szN_bd hz
      rw [seqL_yes hz] at hsq
      have hlen : pre.length < (seqL bs ws 0).length := by rw [hsq]; simp
      have hp : (0 : Int) < (szN ws i : Nat) := by omega
      have s2 : IntKind.i64.wrap ((i : Int) + (szN ws i : Nat)) = ((i + szN ws i : Nat) : Int) := by rw [show ((i + szN ws i : Nat) : Int) = (i : Int) + (szN ws i : Nat) by omega]; exact IntWalk.i64_in _ (by omega)
      obtain ⟨fn, tmps, assign, body, hy, hR⟩ := hY pre (bs + (i : Int), true) wr (by rw [hsq]; simp) hJr hlen
      gi_wp2
      refine hR.mono ?_
      clear hR hy
      rintro e W3 (⟨rfl, hJ3, hk3⟩ | ⟨rfl, hJx3⟩)
      · have hL3 := hLr.keepB hk3
        have hB3 : W3.cell? ⟨Bn, 0, none⟩ = some (.pointer (some ⟨b, 0, none⟩)) := (World.cell?_of_block (hk3 Bn (.inl rfl))).trans hBr
        gi_wp2_with fail
        refine ⟨trivial, (callsIn_wide.2 (size_any hL3 hk (i + szN ws i) hb.2.2)).mono ?_⟩
        rintro e W4 ⟨rfl, hb4⟩
        have hL4 := hL3.below hb4
        have hB4 := bcellv hb4 hB3
        have hJ4 := abgo hJ hJ3 hb4
        gi_wp2
        go_roundw
        case rel => exact ⟨_, i + szN ws i, rfl, rfl, hb.2.2, by rw [hsq]; simp, hL4, hB4, hJ4⟩
        case measure => simp [natOf]; omega
      · gi_wp2
        refine bodyPost_ret (results_none rfl _ _ _) rfl ?_
        exact ⟨⟨_, rfl⟩, .inr ⟨_, ⟨seqL bs ws (i + szN ws i), by rw [hsq]; simp⟩, hJx3⟩⟩
end Go.Proofs.Ytgjaafcagnkfdaa
namespace Go.Proofs.Ytgjaafcagnkfdaa
open Go.RowKit Go.Shelf
set_option linter.unusedSimpArgs false
set_option linter.unusedVariables false
attribute [local go_sem] Oper.semAt_some

theorem walk_any (b : Nat) (w : World) :
    Calls Try.prog 40 #[.pointer (some ⟨b, 0, none⟩)] w fun e w' => e = .returned (.func (.func 54) #[] #[.pointer (some ⟨w.heap.size, 0, none⟩)]) ∧ w' = w.alloc (.cells #[.pointer (some ⟨b, 0, none⟩)] 24) := by
  go_enter Try.func40, Try.ntmps40
  go_wp2
  go_ret
  exact ⟨rfl, rfl⟩
theorem walk_stops (n : Nat) (hn : 1 ≤ n) {w : World} {b Bn : Nat} {bs lm : Int} {ws : List Int} {g : Option Nat} (hc : w.cell? ⟨Bn, 0, none⟩ = some (.pointer (some ⟨b, 0, none⟩))) (h : SpAt w b bs lm ws g) (hk : SpOk bs lm ws) :
    SeqStopsK Fence.wide n Try.prog 54 #[.pointer (some ⟨Bn, 0, none⟩)] (fun x : Int × Bool => #[Value.int .i64 x.1, Value.bool x.2]) (KeepB (WkK Bn b g)) (fun ys => ys = seqL bs ws 0) (fun pre => pre <+: seqL bs ws 0) (seqL bs ws 0).length w :=
  fun l J Jx W hW hJ hJx hY h0 => walk1_in n hn l Bn hk _ J Jx hJ hJx (fun pre x W _ => hY pre x W) W (bcellv hW hc) (h.below hW) h0
theorem seqL_false {bs : Int} {ws : List Int} {i : Nat} {x : Int} (h : (x, false) ∈ seqL bs ws i) : x = bs + (stopAt ws i : Nat) := by
  unfold seqL at h
  simp at h
  exact h
theorem sp_own {W W' : World} {row : Option Nat} {b : Nat} {bs lm : Int} {ws : List Int} {g : Option Nat} (h : SpAt W b bs lm ws g) (hg : W.grownBy W' row) (hr : ∀ r, row = some r → ∃ o : Obj, W.heap[r]? = some o ∧ o.isCells = false) : SpAt W' b bs lm ws g := by
  have key : ∀ (k : Nat) (o : Obj), W.heap[k]? = some o → o.isCells = true → W'.heap[k]? = some o := fun k o ho hc => (grownBy_keeps_cells hg hr ho hc).trans ho
  obtain ⟨a, cap, h1, ⟨r1, r2, r3⟩, h3⟩ := h
  refine ⟨a, cap, key _ _ h1 rfl, ⟨r1, r2, ?_⟩, h3⟩
  rcases r3 with r3 | ⟨G, cur, rfl, ha, hh, hs, ht⟩
  · exact .inl r3
  · exact .inr ⟨G, cur, rfl, ha, key _ _ hh rfl, hs, ht⟩
theorem others_below {A B : World} (h : Below A.heap.size A B) : KeepsOthers A B := KeepsOthers.of_grownBy (grown_of h) (fun j o e => by cases e)

def chkI (ws : List Int) : Int := if stopAt ws 0 = ws.length then 0 else 11
set_option maxRecDepth 100000 in
set_option maxHeartbeats 2000000 in
theorem check_any {w : World} {b : Nat} {bs lm : Int} {ws : List Int} {g : Option Nat} (h : SpAt w b bs lm ws g) (hk : SpOk bs lm ws) :
    Calls Try.prog 16 #[.pointer (some ⟨b, 0, none⟩)] w fun e w' => e = .returned (.int .i64 (chkI ws)) ∧ Below w.heap.size w w' := by
  refine (callsIn_wide (n := 9)).1 ?_
  refine callsIn_of_wp_marks Try.func16 rfl trivial ?_ rfl
  simp only [Try.ntmps16, List.size_toArray, List.length_cons, List.length_nil, Nat.reduceAdd, Nat.reduceSub, Array.replicate_succ, Array.replicate_zero, List.push_toArray, List.append_toArray, List.nil_append, List.cons_append]
  gi_wp2_with fail
  refine ⟨trivial, (callsIn_wide.2 (walk_any b _)).mono ?_⟩
  rintro e w3 ⟨rfl, hw3⟩
  have hB0 : Below w.heap.size w w3 := by rw [hw3]; exact balloc (balloc (balloc (Below.refl _ _) _) _) _
  have hz : w3.heap.size = w.heap.size + 3 := by rw [hw3]; simp
  have hs3 := h.below hB0
  have c0 : w3.cell? ⟨w.heap.size, 0, none⟩ = some (.pointer (some ⟨b, 0, none⟩)) := by rw [hw3]; simp [go_sem]
  have c1 : w3.cell? ⟨w.heap.size + 1, 0, none⟩ = some (.int .i64 0) := by rw [hw3]; simp [go_sem]
  have f1 : w3.frozen? ⟨w.heap.size + 1, 0, none⟩ = false := by rw [hw3]; simp [go_sem]
  have c2 : w3.cell? ⟨w.heap.size + 2, 0, none⟩ = some (.pointer (some ⟨b, 0, none⟩)) := by rw [hw3]; simp [go_sem]
  have hbl := h.lt
  have hgl := h.glt
  have hK : ∀ k, WkK (w.heap.size + 2) b g k → k < w3.heap.size := by
    rintro k (rfl | rfl | e)
    · omega
    · omega
    · have := hgl k e; omega
  simp only [World.size_alloc, Nat.add_assoc, Nat.reduceAdd]
  clear hw3
  gi_wp2_with fail
  refine wpIn_rangeFunc_ownF rfl (by omega) (gf := 54) (lb := #[.pointer (some ⟨w.heap.size + 2, 0, none⟩)]) rfl trivial (enters_of Try.func54 (by kernel_rfl) rfl)
    (walk_stops _ (by omega) c2 hs3 hk) KeepB.t (KeepB.b hK) (Below.refl _ _) (fun _ => rfl)
    (fun pre W => ((∀ x ∈ pre, x.2 = false → x.1 = bs + ws.length) ∧ W.cell? ⟨w.heap.size, 0, none⟩ = some (.pointer (some ⟨b, 0, none⟩)) ∧ W.cell? ⟨w.heap.size + 1, 0, none⟩ = some (.int .i64 0) ∧ W.frozen? ⟨w.heap.size + 1, 0, none⟩ = false ∧ SpAt W b bs lm ws g ∧ w3.heap.size ≤ W.heap.size) ∧ Below w.heap.size w W)
    (fun c pre W => (c = .ret ∧ (∃ x, (x, false) ∈ pre ∧ x ≠ bs + ws.length) ∧ W.cell? ⟨w.heap.size + 1, 0, none⟩ = some (.int .i64 11)) ∧ Below w.heap.size w W)
    (OwnFrom.and (Own.from (fun s A B row hs hg hr => ⟨hs.1, cell_kept hs.2.1 hg hr, cell_kept hs.2.2.1 hg hr, (frozen_kept hs.2.2.1 hg hr).trans hs.2.2.2.1, sp_own hs.2.2.2.2.1 hg hr, Nat.le_trans hs.2.2.2.2.2 hg.size⟩) _) (ownFrom_below (Nat.le_refl _) (by omega)))
    (fun c => OwnFrom.and (Own.from (fun s A B row hs hg hr => ⟨hs.1, hs.2.1, cell_kept hs.2.2 hg hr⟩) _) (ownFrom_below (Nat.le_refl _) (by omega)))
    ⟨⟨by simp, c0, c1, f1, hs3, Nat.le_refl _⟩, hB0⟩
    (fun x => { tmps := #[.pointer (some ⟨b, 0, none⟩), .pointer (some ⟨w.heap.size, 0, none⟩), .pointer (some ⟨w.heap.size + 1, 0, none⟩), .int .i64 x.1, .bool x.2, .pointer (some ⟨b, 0, none⟩), .func (.func 54) #[] #[.pointer (some ⟨w.heap.size + 2, 0, none⟩)], .int .i64 x.1, .bool x.2, undef, undef, undef, undef, undef, undef, undef, undef], defers := [] }) ?assign ?body ?done ?stop
  case assign =>
    intro l x W K hK
    gi_wp2
    exact hK
  case body =>
    rintro l pre ⟨a, ob⟩ W ⟨⟨hp, d0, d1, fr, hsp, hz3⟩, hB⟩ _
    cases ob
    · gi_wp2_with fail
      refine ⟨trivial, CallsIn.inRound l ((callsIn_wide.2 (top_any hsp hk)).mono ?_)⟩
      rintro e W2 ⟨rfl, hb2⟩
      have e1 := bcellv hb2 d1
      have e0 := bcellv hb2 d0
      have hB2 := bchain hb2 hB
      have ot := others_below hb2
      have kb := KeepB.of_below (K := WkK (w.heap.size + 2) b g) hb2 (fun k hk => by have := hK k hk; omega)
      have fr2 : W2.frozen? ⟨w.heap.size + 1, 0, none⟩ = false := (World.frozen?_of_block (hb2.block _ (World.block_lt_of_cell? W _ d1))).trans fr
      have sp2 := hsp.below hb2
      by_cases hx : a = bs + ws.length
      · gi_wp2
        exact ⟨ot, kb, ⟨fun x hx' hf => (List.mem_append.1 hx').elim (fun h' => hp x h' hf) (fun h' => by simp at h'; rw [h']; exact hx), e0, e1, fr2, sp2, Nat.le_trans hz3 hb2.size⟩, hB2⟩
      · gi_wp2
        exact ⟨ot.trans (KeepsOthers.setCell _ _ _), ⟨rfl, ⟨a, by simp, hx⟩, World.cell?_setCell_same' _ _ _ (by rw [e1]; rfl)⟩, hB2.setCell (p := ⟨w.heap.size + 1, 0, none⟩) (by simp) _⟩
    · gi_wp2
      refine ⟨trivial, ?_⟩
      gi_wp2
      exact ⟨KeepsOthers.refl _, fun _ _ => rfl, ⟨fun x hx' hf => (List.mem_append.1 hx').elim (fun h' => hp x h' hf) (fun h' => by simp at h'; rw [h'] at hf; cases hf), d0, d1, fr, hsp, hz3⟩, hB⟩
  case done =>
    rintro D ys W hD rfl ⟨⟨hp, d0, d1, fr, hsp, hz3⟩, hB⟩ hK'
    have hst : chkI ws = 0 := by
      have := hp (bs + (stopAt ws 0 : Nat), false) (by unfold seqL; simp) rfl
      unfold chkI
      rw [if_pos (by simp at this; omega)]
    gi_wp2
    have hK2 := (KeepsOthers.setCell W ⟨w.heap.size + 1, 0, none⟩ (.int .i64 0)).same D _ hK' rfl
    refine ⟨by simp, .inl ⟨_, _, rfl, run_takeDeferred hK2, ?_⟩⟩
    have hc5 := cell_kept (World.cell?_setCell_same' W ⟨w.heap.size + 1, 0, none⟩ (.int .i64 0) (by rw [d1]; rfl)) (grownBy_putObj' _ D (.deferred none)) (fun r e => by cases e; exact ⟨_, hK2, rfl⟩)
    refine ⟨.int .i64 0, ?_, by rw [hst], (hB.setCell (p := ⟨w.heap.size + 1, 0, none⟩) (by simp) _).trans (belowK_b (w := w) (Nat.le_refl _) _ D _ _ (by omega) hK2 rfl rfl)⟩
    simp [results, Try.f16, go_sem, hc5]
  case stop =>
    rintro D c pre W hD hpre ⟨⟨rfl, ⟨x, hin, hx⟩, hcr⟩, hB⟩ hK'
    have hst : chkI ws = 11 := by
      have := seqL_false (hpre.subset hin)
      unfold chkI
      rw [if_neg (by omega)]
    gi_wp2
    refine ⟨by simp, .inl ⟨_, _, rfl, run_takeDeferred hK', ?_⟩⟩
    have hc5 := cell_kept hcr (grownBy_putObj' _ D (.deferred none)) (fun r e => by cases e; exact ⟨_, hK', rfl⟩)
    refine ⟨.int .i64 11, ?_, by rw [hst], hB.trans (belowK_b (w := w) (Nat.le_refl _) W D _ _ (by omega) hK' rfl rfl)⟩
    simp [results, Try.f16, go_sem, hc5]
end Go.Proofs.Ytgjaafcagnkfdaa
namespace Go.Proofs.Ytgjaafcagnkfdaa
open Go
set_option linter.unusedSimpArgs false
set_option linter.unusedVariables false

variable {F : Fence} {n : Nat} {P : Program} {md : Region.Mode} {C : World → Prop}
def noop (o : Oper) : Oper := { o with dst := none, op := Op.move (.const (.bool true)), guard := none }
def setLast : List Oper → List Oper
  | [] => []
  | [o] => [noop o]
  | a :: b :: l => a :: setLast (b :: l)
def lastOf : List Oper → List Oper
  | [] => []
  | [o] => [o]
  | _ :: b :: l => lastOf (b :: l)
theorem setLast_app (l : List Oper) (o : Oper) : setLast (l ++ [o]) = l ++ [noop o] := by
  induction l with
  | nil => rfl
  | cons a l ih =>
    cases l with
    | nil => rfl
    | cons b l => exact congrArg (a :: ·) ih
theorem lastOf_app (l : List Oper) (o : Oper) : lastOf (l ++ [o]) = [o] := by
  induction l with
  | nil => rfl
  | cons a l ih =>
    cases l with
    | nil => rfl
    | cons b l => exact ih
def noDefer (o : Oper) : Bool := match o.op with
  | .defer _ => false
  | _ => true
theorem noDefer_spec {o : Oper} (h : noDefer o = true) : ∀ c, o.op ≠ .defer c := by
  intro c e
  unfold noDefer at h
  rw [e] at h
  cases h
/-- No defer; each operation waits for earlier ones alone; the last has no place for a result and waits for all, at most by way of one other. -/
def lastB (md : Region.Mode) (L : List Oper) : Bool :=
  L.all noDefer && (List.range L.length).all (fun j => ((L[j]?).map (fun o => o.after.all (fun e => e.on < j))).getD false) &&
  (match L.getLast? with
   | some o => o.dst.isNone && (List.range (L.length - 1)).all (fun j => o.after.any (fun e => Region.binds md e && (e.on == j || ((L[e.on]?).map (fun x => x.after.any (fun e2 => Region.binds md e2 && e2.on == j))).getD false)))
   | none => false)

theorem wpIn_of_quietR {o : Oper} {a : Act} {K : Act → Prop} {K' : Act → World → Prop} {Q' : Exit → Act → World → Prop} {w : World} (hro : ∀ c, o.op ≠ .defer c) (hw : C w) (h : ∀ a w', C w' → K a → K' a w')
    (ha : o.askedIn F P a C) (hh : o.quietIn F n P a C K) : o.wpIn F n P a w K' Q' := by
  obtain ⟨v, h1, h2⟩ := hh
  have h3 := h1 w hw
  unfold Oper.quietAtIn at h3
  unfold Oper.wpIn
  refine ⟨ha w hw, ?_⟩
  rw [Oper.semAt_eq _ _ _ hro]
  generalize (execOp a.eval o).run P w = r at *
  cases r with
  | ok x w' =>
    cases x <;> simp only [Oper.quietUponIn] at h3 <;> simp only [Oper.uponIn]
    case value u =>
      obtain ⟨e1, e2⟩ := h3
      rw [e1, e2]
      exact h _ _ hw h2
    case skip =>
      obtain ⟨e1, e2⟩ := h3
      rw [e1, ← e2]
      exact h _ _ hw h2
    case enter f args =>
      obtain ⟨e1, hd, hc⟩ := h3
      rw [e1]
      exact ⟨hd, hc.mono fun e w'' ⟨he, hw''⟩ => by subst he; exact h _ _ hw'' h2⟩
  | halt x w' => simp only [Oper.quietUponIn] at h3

section
variable {l : List Oper} {o : Oper}
theorem ops_at (x : Oper) (i : Nat) (hi : i ≠ l.length) : (l ++ [o]).toArray[i]? = (l ++ [x]).toArray[i]? := by
  simp only [List.getElem?_toArray]
  rcases Nat.lt_or_ge i l.length with h | h
  · rw [List.getElem?_append_left h, List.getElem?_append_left h]
  · rw [List.getElem?_append_right h, List.getElem?_append_right h, List.getElem?_eq_none (by simp; omega), List.getElem?_eq_none (by simp; omega)]
theorem ops_last (o : Oper) : (l ++ [o]).toArray[l.length]? = some o := by simp
theorem yielded_noop (hd : o.dst = none) (tmps : Array Value) : yielded (l ++ [noop o]).toArray tmps = yielded (l ++ [o]).toArray tmps := by
  funext j
  unfold yielded
  by_cases hj : j = l.length
  · subst hj
    rw [ops_last, ops_last]
    simp [noop, hd]
  · rw [ops_at o j hj]
theorem ready_noop (listed : Array Bool) : Region.ready md (l ++ [noop o]).toArray listed = Region.ready md (l ++ [o]).toArray listed := by
  unfold Region.ready
  have hs : (l ++ [noop o]).toArray.size = (l ++ [o]).toArray.size := by simp
  rw [hs]
  refine List.filter_congr ?_
  intro j _
  by_cases hj : j = l.length
  · subst hj
    rw [ops_last, ops_last]
    rfl
  · rw [ops_at o j hj]
theorem ready_ne (hlow : ∀ (j : Nat) (x : Oper), (l ++ [o]).toArray[j]? = some x → ∀ e ∈ x.after, e.on < j) (listed : Array Bool) (hs : listed.size = l.length + 1) :
    ∀ j, listed.getD j true = false → Region.ready md (l ++ [o]).toArray listed ≠ [] := by
  intro j
  induction j using Nat.strongRecOn with
  | _ j ih =>
    intro hj
    have hjs : j < l.length + 1 := by
      rcases Nat.lt_or_ge j listed.size with h | h
      · omega
      · simp [Array.getD, Nat.not_lt.2 h] at hj
    obtain ⟨x, hx⟩ : ∃ x, (l ++ [o]).toArray[j]? = some x := ⟨_, Array.getElem?_eq_getElem (by simpa using hjs)⟩
    by_cases hall : ∀ e ∈ x.after, Region.binds md e = true → listed.getD e.on false = true
    · have : j ∈ Region.ready md (l ++ [o]).toArray listed := mem_ready.2 ⟨hj, x, hx, hall⟩
      intro h0
      rw [h0] at this
      cases this
    · obtain ⟨e, he, hb, hl⟩ : ∃ e ∈ x.after, Region.binds md e = true ∧ ¬ listed.getD e.on false = true := by
        refine Classical.byContradiction fun hc => hall fun e he hb => Classical.byContradiction fun hl => hc ⟨e, he, hb, hl⟩
      have h1 := hlow j x hx e he
      refine ih e.on h1 ?_
      have hlt : e.on < listed.size := by omega
      simp [Array.getD, hlt] at hl ⊢
      exact hl
theorem any_last {Q : Act → Prop} {Q' : Exit → Act → World → Prop} (hd : o.dst = none) (hnd : ∀ x ∈ l, ∀ c, x.op ≠ .defer c) (hw : ∀ j, j < l.length → ∃ e ∈ o.after, Region.binds md e = true ∧ (e.on = j ∨ ∃ x, (l ++ [o]).toArray[e.on]? = some x ∧ ∃ e2 ∈ x.after, Region.binds md e2 = true ∧ e2.on = j))
    (hlow : ∀ (j : Nat) (x : Oper), (l ++ [o]).toArray[j]? = some x → ∀ e ∈ x.after, e.on < j)
    (hQ : ∀ a w, C w → Q a → wpOpIn F n P (l ++ [o]).toArray Q' l.length (fun a w => Q' .normal a w) a w) :
    ∀ (fuel : Nat) (listed : Array Bool) (a : Act) (w : World), C w → listed.size = l.length + 1 → (∀ (j : Nat) (x : Oper), (l ++ [o]).toArray[j]? = some x → listed.getD j false = true → ∀ e ∈ x.after, Region.binds md e = true → listed.getD e.on false = true) → listed.getD l.length true = false →
      wpAnyQIn F n P md (l ++ [noop o]).toArray C Q fuel listed a → wpAnyIn F n P md (l ++ [o]).toArray Q' fuel listed a w := by
  intro fuel
  induction fuel with
  | zero =>
    intro listed a w hC hs hcl hl h
    have := h.1
    rw [ready_noop] at this
    exact absurd this (ready_ne hlow listed hs _ hl)
  | succ fuel ih =>
    intro listed a w hC hs hcl hl h
    refine ⟨fun h0 => absurd h0 (ready_ne hlow listed hs _ hl), fun i hi => ?_⟩
    have hq := h.2 i (by rw [ready_noop]; exact hi)
    have hcl2 : ∀ i, i ∈ Region.ready md (l ++ [o]).toArray listed → ∀ (j : Nat) (x : Oper), (l ++ [o]).toArray[j]? = some x → (listed.setIfInBounds i true).getD j false = true → ∀ e ∈ x.after, Region.binds md e = true → (listed.setIfInBounds i true).getD e.on false = true := by
      intro i hi j x hx hj e he hb
      refine getD_set_true ?_
      by_cases hji : j = i
      · subst hji
        obtain ⟨_, x', hx', hall⟩ := mem_ready.1 hi
        rw [hx] at hx'
        cases hx'
        exact hall e he hb
      · rw [getD_set_ne false (Ne.symm hji)] at hj
        exact hcl j x hx hj e he hb
    by_cases hil : i = l.length
    · subst hil
      have hr0 : Region.ready md (l ++ [o]).toArray (listed.setIfInBounds l.length true) = [] := by
        obtain ⟨_, o', ho', hall⟩ := mem_ready.1 hi
        rw [ops_last] at ho'
        cases ho'
        refine List.eq_nil_iff_forall_not_mem.2 fun j hj => ?_
        obtain ⟨h0, x, hx, _⟩ := mem_ready.1 hj
        have hjs : j < l.length + 1 := by
          have := (Array.getElem?_eq_some_iff.1 hx).1
          simpa using this
        by_cases hjl : j = l.length
        · subst hjl
          simp [Array.getD, hs] at h0
        · rw [getD_set_ne true (Ne.symm hjl)] at h0
          obtain ⟨e, he, hb, hh⟩ := hw j (by omega)
          have h1 := hall e he hb
          have h2 : listed.getD j false = true := by
            rcases hh with rfl | ⟨x2, hx2, e2, he2, hb2, rfl⟩
            · exact h1
            · exact hcl e.on x2 hx2 h1 e2 he2 hb2
          have hlt : j < listed.size := by omega
          simp [Array.getD, hlt] at h0 h2
          rw [h0] at h2
          cases h2
      unfold qOpIn at hq
      rw [ops_last] at hq
      simp only at hq
      obtain ⟨_, hq⟩ := hq
      have hwn : Region.wanted (noop o) (yielded (l ++ [noop o]).toArray a.tmps) = true := rfl
      rw [if_pos hwn] at hq
      obtain ⟨v, _, hq⟩ := hq
      have hQa : Q a := by
        have hq' : wpAnyQIn F n P md (l ++ [noop o]).toArray C Q fuel (listed.setIfInBounds l.length true) a := hq
        cases fuel with
        | zero => exact hq'.2
        | succ k => exact hq'.1 (by rw [ready_noop]; exact hr0)
      refine wpOpIn_mono (fun a' w' hk => ?_) (hQ a w hC hQa)
      cases fuel with
      | zero => exact ⟨hr0, hk⟩
      | succ k => exact ⟨fun _ => hk, fun j hj => by rw [hr0] at hj; cases hj⟩
    · have hnext : ∀ (a' : Act) (w' : World), C w' → wpAnyQIn F n P md (l ++ [noop o]).toArray C Q fuel (listed.setIfInBounds i true) a' → wpAnyIn F n P md (l ++ [o]).toArray Q' fuel (listed.setIfInBounds i true) a' w' := fun a' w' hC' h' =>
        ih _ a' w' hC' (by simpa using hs) (hcl2 i hi) (by rw [getD_set_ne true hil]; exact hl) h'
      unfold qOpIn at hq
      unfold wpOpIn
      rw [← ops_at (noop o) i hil] at hq
      obtain ⟨_, x, hx, _⟩ := mem_ready.1 hi
      rw [hx] at hq ⊢
      simp only at hq ⊢
      rw [yielded_noop hd] at hq
      obtain ⟨ha, hq⟩ := hq
      split
      · rename_i hwt
        rw [if_pos hwt] at hq
        refine wpIn_of_quietR (hnd x ?_) hC hnext ha hq
        have hx' : (l ++ [o])[i]? = some x := by simpa using hx
        have : i < l.length := by
          have := (List.getElem?_eq_some_iff.1 hx').1
          simp at this
          omega
        rw [List.getElem?_append_left this] at hx'
        exact List.mem_of_getElem? hx'
      · rename_i hwt
        rw [if_neg hwt] at hq
        exact ⟨ha w hC, hnext _ _ hC hq⟩
end

theorem wpIn_region_last {id : Nat} {Q' : Exit → Act → World → Prop} {a : Act} {w : World} {L : List Oper} (hB1 : lastB .any L = true) (hm : P.follows .mixedOrders = true) (hB : Region.lexB .any (setLast L).toArray = true)
    (h : wpQuietIn F n P (setLast L).toArray (fun w' => ∃ n, w' = w.drewN n) (fun a' => ∀ w', (∃ n, w' = w.drewN n) → wpListIn F n P L.toArray Q' (lastOf L) a' w') (setLast L) a) : (Code.region id L.toArray true).wpIn F n P Q' a w := by
  rcases List.eq_nil_or_concat L with rfl | ⟨l, o, rfl⟩
  · simp [lastB] at hB1
  · rw [List.concat_eq_append] at *
    rw [setLast_app] at *
    rw [lastOf_app] at h
    unfold lastB at hB1
    simp only [Bool.and_eq_true] at hB1
    obtain ⟨⟨b1, b2⟩, b3⟩ := hB1
    rw [List.getLast?_append] at b3
    simp only [List.getLast?_singleton, Option.some_or, Bool.and_eq_true, Option.isNone_iff_eq_none, List.all_eq_true, List.mem_range, Array.any_eq_true'] at b3
    simp only [List.all_eq_true, List.mem_range] at b2
    have hlow : ∀ (j : Nat) (x : Oper), (l ++ [o]).toArray[j]? = some x → ∀ e ∈ x.after, e.on < j := by
      intro j x hx e he
      have hj : j < (l ++ [o]).length := by
        have := (Array.getElem?_eq_some_iff.1 hx).1
        simpa using this
      have := b2 j hj
      rw [show (l ++ [o])[j]? = some x by simpa using hx] at this
      simp only [Option.map_some, Option.getD_some, Array.all_eq_true_iff_forall_mem, decide_eq_true_eq] at this
      exact this e he
    have hw : ∀ j, j < l.length → ∃ e ∈ o.after, Region.binds .any e = true ∧ (e.on = j ∨ ∃ x, (l ++ [o]).toArray[e.on]? = some x ∧ ∃ e2 ∈ x.after, Region.binds .any e2 = true ∧ e2.on = j) := by
      intro j hj
      obtain ⟨e, he, hh⟩ := b3.2 j (by simpa using hj)
      simp only [Bool.and_eq_true, Bool.or_eq_true, beq_iff_eq] at hh
      refine ⟨e, he, hh.1, ?_⟩
      rcases hh.2 with h1 | h1
      · exact .inl h1
      · cases hx : (l ++ [o])[e.on]? with
        | none => rw [hx] at h1; cases h1
        | some x =>
          rw [hx] at h1
          simp only [Option.map_some, Option.getD_some, Array.any_eq_true', Bool.and_eq_true, beq_iff_eq] at h1
          obtain ⟨e2, he2, hb2, rfl⟩ := h1
          exact .inr ⟨x, by simpa using hx, e2, he2, hb2, rfl⟩
    simp only [Region.lexB, Bool.and_eq_true] at hB
    have hq := wpAnyQIn_lex (F := F) (n := n) (P := P) (C := fun w' => ∃ n, w' = w.drewN n) (md := .any) hB.1 (l ++ [noop o]) 0 (Array.replicate (l ++ [noop o]).toArray.size false) a (by simp) (by simpa using hB.2) h
    refine wpIn_region_any hm ?_
    have hsz : (l ++ [o]).toArray.size = (l ++ [noop o]).length := by simp
    rw [hsz]
    refine any_last (C := fun w' => ∃ n, w' = w.drewN n) b3.1 (fun x hx => noDefer_spec (by rw [List.all_eq_true] at b1; exact b1 x (by simp [hx]))) hw hlow ?_ _ _ _ _ ⟨1, rfl⟩ (by simp) (fun j x _ hj => by simp [Array.getD] at hj) (by simp [Array.getD]) hq
    intro a' w' hC hQ
    have := hQ w' hC
    unfold wpOpIn
    rw [ops_last]
    simpa [wpListIn] using this
end Go.Proofs.Ytgjaafcagnkfdaa
namespace Go.Proofs.Ytgjaafcagnkfdaa
open Go.RowKit Go.Shelf
set_option linter.unusedSimpArgs false
set_option linter.unusedVariables false
attribute [local go_sem] Oper.semAt_some

theorem objs_bd {ws : List Int} : ∀ (n i : Nat), ws.length - i ≤ n → i ≤ ws.length → (∀ j ∈ objs ws i, i ≤ j ∧ j ≤ ws.length) ∧ i ≤ stopAt ws i ∧ stopAt ws i ≤ ws.length := by
  intro n
  induction n with
  | zero =>
    intro i hn hi
    cases hz : szB ws i
    · rw [objs_no hz, stopAt_no hz]; simp; omega
    · have := szN_bd hz; omega
  | succ n ih =>
    intro i hn hi
    cases hz : szB ws i
    · rw [objs_no hz, stopAt_no hz]; simp; omega
    · have hb := szN_bd hz
      obtain ⟨h1, h2, h3⟩ := ih (i + szN ws i) (by omega) hb.2.2
      rw [objs_yes hz, stopAt_yes hz]
      refine ⟨fun j hj => ?_, by omega, h3⟩
      rcases List.mem_cons.1 hj with rfl | hj
      · omega
      · have := h1 j hj; omega
theorem seqL_bd {bs : Int} {ws : List Int} {x : Int × Bool} (h : x ∈ seqL bs ws 0) : bs ≤ x.1 ∧ x.1 ≤ bs + ws.length := by
  obtain ⟨h1, h2, h3⟩ := objs_bd (ws := ws) ws.length 0 (by omega) (by omega)
  unfold seqL at h
  rcases List.mem_append.1 h with h | h
  · obtain ⟨j, hj, rfl⟩ := List.mem_map.1 h
    have := h1 j hj
    simp only
    omega
  · rw [List.mem_singleton] at h
    rw [h]
    simp only
    omega
theorem seqL_last {bs : Int} {ws : List Int} (i : Nat) : (bs + (stopAt ws i : Nat), false) ∈ seqL bs ws i := by unfold seqL; simp
/-- x, if it is yielded; else the last that is. -/
noncomputable def cl (bs : Int) (ws : List Int) (x : Int × Bool) : Int × Bool := by
  classical
  exact if x ∈ seqL bs ws 0 then x else (bs + (stopAt ws 0 : Nat), false)
theorem cl_of {bs : Int} {ws : List Int} {x : Int × Bool} (h : x ∈ seqL bs ws 0) : cl bs ws x = x := by unfold cl; rw [if_pos h]
theorem cl_mem {bs : Int} {ws : List Int} (x : Int × Bool) : cl bs ws x ∈ seqL bs ws 0 := by
  unfold cl
  split
  · assumption
  · exact seqL_last 0
theorem walk_stopsC (n : Nat) (hn : 1 ≤ n) {w : World} {b Bn : Nat} {bs lm : Int} {ws : List Int} {g : Option Nat} (hc : w.cell? ⟨Bn, 0, none⟩ = some (.pointer (some ⟨b, 0, none⟩))) (h : SpAt w b bs lm ws g) (hk : SpOk bs lm ws) :
    SeqStopsK Fence.wide n Try.prog 54 #[.pointer (some ⟨Bn, 0, none⟩)] (fun x : Int × Bool => #[Value.int .i64 (cl bs ws x).1, Value.bool (cl bs ws x).2]) (KeepB (WkK Bn b g)) (fun ys => ys = seqL bs ws 0) (fun pre => pre <+: seqL bs ws 0) (seqL bs ws 0).length w :=
  fun l J Jx W hW hJ hJx hY h0 => walk1_in n hn l Bn hk _ J Jx hJ hJx (fun pre x W hx h1 h2 => by have := hY pre x W h1 h2; dsimp only at this; rw [cl_of hx] at this; exact this) W (bcellv hW hc) (h.below hW) h0
theorem Mods.own {S : Nat → Prop} {a W W' : World} {row : Option Nat} (h : Mods S a W) (hg : W.grownBy W' row) (hr : ∀ r, row = some r → a.heap.size ≤ r) : Mods S a W' :=
  ⟨hg.os.trans h.os, hg.tape.trans h.tape, hg.output.trans h.output, Nat.le_trans h.size hg.size, fun k hk hn => (hg.block k (Nat.lt_of_lt_of_le hk h.size) (fun e => by have := hr k e.symm; omega)).trans (h.block k hk hn)⟩
theorem Mods.putObj {S : Nat → Prop} {a W : World} (h : Mods S a W) (D : Nat) (o : Obj) (hD : a.heap.size ≤ D) : Mods S a (W.putObj D o) := h.own (grownBy_putObj' W D o) (fun r e => by cases e; exact hD)

/-- Does Truncate find its place? -/
def hitT (bs : Int) (n : Nat) (top : Int) (x : Int × Bool) : Prop := x.1 = top ∧ (x.2 = true ∨ top = bs + n)
def okT (bs : Int) (ws : List Int) (top : Int) : Prop := ∃ x ∈ seqL bs ws 0, hitT bs ws.length top x
theorem RowAt.take {w : World} {a : Option Addr} {cap : Nat} {ws : List Int} {g : Option Nat} (h : RowAt w a cap ws g) (t : Nat) : RowAt w a cap (ws.take t) g := by
  obtain ⟨h1, h2, h3⟩ := h
  refine ⟨by simp; omega, h2, ?_⟩
  rcases h3 with h3 | ⟨G, cur, rfl, ha, hh, hs, ht⟩
  · exact .inl h3
  · refine .inr ⟨G, cur, rfl, ha, hh, hs, ?_⟩
    rw [List.map_take, ← ht, List.take_take]
    simp
theorem trunc_fin {W : World} {b : Nat} {bs lm : Int} {ws : List Int} {g : Option Nat} {a : Option Addr} {cap t : Nat} (e1 : W.heap[b]? = some (.cells #[.int .i64 bs, .int .i64 lm, .slice a ws.length cap] 69 (0, 0))) (hr : RowAt W a cap ws g) (hg : g ≠ some b) (ht : t ≤ ws.length) :
    SpAt (W.setCell ⟨b, 2, none⟩ (.slice a t cap)) b bs lm (ws.take t) g := by
  refine ⟨a, cap, ?_, (hr.take t).keep (fun G o e ho => ?_), hg⟩
  · rw [List.length_take, Nat.min_eq_left ht]
    exact heap_setCell_same W b 2 _ _ _ e1
  · exact (heap_setCell_other _ _ _ _ (fun h => hg (by rw [e, h]))).trans ho

theorem trunc_post {w W0 : World} {b : Nat} {bs lm : Int} {ws : List Int} {g : Option Nat} {sa : Option Addr} {cap t : Nat} (hB : Below w.heap.size w W0) (hbl : b < w.heap.size) (hgl : ∀ G, g = some G → G < w.heap.size)
    (se : W0.heap[b]? = some (.cells #[.int .i64 bs, .int .i64 lm, .slice sa ws.length cap] 69 (0, 0))) (sr : RowAt W0 sa cap ws g) (sg : g ≠ some b) (ht : t ≤ ws.length) (nq : Nat) (d2 : W0.cell? ⟨w.heap.size + 2, 0, none⟩ = some (.int .i64 0)) :
    KeepsOthers W0 (((W0.drewN nq).setCell ⟨b, 2, none⟩ (.slice sa t cap)).setCell ⟨w.heap.size + 2, 0, none⟩ (.int .i64 0)) ∧
    (((W0.drewN nq).setCell ⟨b, 2, none⟩ (.slice sa t cap)).setCell ⟨w.heap.size + 2, 0, none⟩ (.int .i64 0)).cell? ⟨w.heap.size + 2, 0, none⟩ = some (.int .i64 0) ∧
    SpAt (((W0.drewN nq).setCell ⟨b, 2, none⟩ (.slice sa t cap)).setCell ⟨w.heap.size + 2, 0, none⟩ (.int .i64 0)) b bs lm (ws.take t) g ∧
    Mods (fun k => k = b) w (((W0.drewN nq).setCell ⟨b, 2, none⟩ (.slice sa t cap)).setCell ⟨w.heap.size + 2, 0, none⟩ (.int .i64 0)) := by
  have h1 := trunc_fin (W := W0.drewN nq) se (sr.keep (fun _ _ _ h => h)) sg ht
  have e : (W0.drewN nq).cell? ⟨w.heap.size + 2, 0, none⟩ = some (.int .i64 0) := d2
  refine ⟨?_, ?_, ?_, ?_⟩
  · refine KeepsOthers.trans (B := W0.drewN nq) ⟨Nat.le_refl _, fun _ _ h _ => h⟩ ((KeepsOthers.setCell _ _ _).trans (KeepsOthers.setCell _ _ _))
  · refine World.cell?_setCell_same' _ _ _ ?_
    rw [World.cell?_of_block (w := W0.drewN nq) (a := ⟨w.heap.size + 2, 0, none⟩) (heap_setCell_other (W0.drewN nq) ⟨b, 2, none⟩ (w.heap.size + 2) _ (by show w.heap.size + 2 ≠ b; omega)), e]
    rfl
  · exact h1.keep (fun o ho => (heap_setCell_other _ _ _ _ (by show b ≠ w.heap.size + 2; omega)).trans ho) (fun G o hG ho => (heap_setCell_other _ _ _ _ (by have := hgl G hG; show G ≠ w.heap.size + 2; omega)).trans ho)
  · exact (((Mods.of_below (S := fun k => k = b) hB).drewN nq).setCell (p := ⟨b, 2, none⟩) (.inl rfl) _).setCell (p := ⟨w.heap.size + 2, 0, none⟩) (.inr (by show w.heap.size ≤ w.heap.size + 2; omega)) _

set_option maxRecDepth 100000 in
set_option maxHeartbeats 2000000 in
theorem trunc_any {w : World} {b : Nat} {bs lm : Int} {ws : List Int} {g : Option Nat} (h : SpAt w b bs lm ws g) (hk : SpOk bs lm ws) (top : Int) :
    Calls Try.prog 26 #[.pointer (some ⟨b, 0, none⟩), .int .i64 top] w fun e w' =>
      (okT bs ws top ∧ e = .returned (.int .i64 0) ∧ SpAt w' b bs lm (ws.take (top - bs).toNat) g ∧ Mods (fun k => k = b) w w') ∨ (¬ okT bs ws top ∧ e = .returned (.int .i64 2) ∧ Below w.heap.size w w') := by
  refine (callsIn_wide (n := 9)).1 ?_
  refine callsIn_of_wp_marks Try.func26 rfl trivial ?_ rfl
  simp only [Try.ntmps26, List.size_toArray, List.length_cons, List.length_nil, Nat.reduceAdd, Nat.reduceSub, Array.replicate_succ, Array.replicate_zero, List.push_toArray, List.append_toArray, List.nil_append, List.cons_append]
  gi_wp2_with fail
  refine ⟨trivial, (callsIn_wide.2 (walk_any b _)).mono ?_⟩
  rintro e w4 ⟨rfl, hw4⟩
  have hB0 : Below w.heap.size w w4 := by rw [hw4]; exact balloc (balloc (balloc (balloc (Below.refl _ _) _) _) _) _
  have hz : w4.heap.size = w.heap.size + 4 := by rw [hw4]; simp
  have hs4 := h.below hB0
  have c0 : w4.cell? ⟨w.heap.size, 0, none⟩ = some (.pointer (some ⟨b, 0, none⟩)) := by rw [hw4]; simp [go_sem]
  have c1 : w4.cell? ⟨w.heap.size + 1, 0, none⟩ = some (.int .i64 top) := by rw [hw4]; simp [go_sem]
  have c2 : w4.cell? ⟨w.heap.size + 2, 0, none⟩ = some (.int .i64 0) := by rw [hw4]; simp [go_sem]
  have f2 : w4.frozen? ⟨w.heap.size + 2, 0, none⟩ = false := by rw [hw4]; simp [go_sem]
  have c3 : w4.cell? ⟨w.heap.size + 3, 0, none⟩ = some (.pointer (some ⟨b, 0, none⟩)) := by rw [hw4]; simp [go_sem]
  have hbl := h.lt
  have hgl := h.glt
  have hK : ∀ k, WkK (w.heap.size + 3) b g k → k < w4.heap.size := by
    rintro k (rfl | rfl | e)
    · omega
    · omega
    · have := hgl k e; omega
  simp only [World.size_alloc, Nat.add_assoc, Nat.reduceAdd]
  clear hw4
  gi_wp2_with fail
  refine wpIn_rangeFunc_ownF rfl (by omega) (gf := 54) (lb := #[.pointer (some ⟨w.heap.size + 3, 0, none⟩)]) rfl trivial (enters_of Try.func54 (by kernel_rfl) rfl)
    (walk_stopsC _ (by omega) c3 hs4 hk) KeepB.t (KeepB.b hK) (Below.refl _ _) (fun _ => rfl)
    (fun pre W => ((∀ x ∈ pre, ¬ hitT bs ws.length top (cl bs ws x)) ∧ W.cell? ⟨w.heap.size, 0, none⟩ = some (.pointer (some ⟨b, 0, none⟩)) ∧ W.cell? ⟨w.heap.size + 1, 0, none⟩ = some (.int .i64 top) ∧ W.cell? ⟨w.heap.size + 2, 0, none⟩ = some (.int .i64 0) ∧ W.frozen? ⟨w.heap.size + 2, 0, none⟩ = false ∧ SpAt W b bs lm ws g ∧ w4.heap.size ≤ W.heap.size) ∧ Below w.heap.size w W)
    (fun c pre W => (c = .ret ∧ okT bs ws top ∧ W.cell? ⟨w.heap.size + 2, 0, none⟩ = some (.int .i64 0) ∧ SpAt W b bs lm (ws.take (top - bs).toNat) g) ∧ Mods (fun k => k = b) w W)
    (OwnFrom.and (Own.from (fun s A B row hs hg hr => ⟨hs.1, cell_kept hs.2.1 hg hr, cell_kept hs.2.2.1 hg hr, cell_kept hs.2.2.2.1 hg hr, (frozen_kept hs.2.2.2.1 hg hr).trans hs.2.2.2.2.1, sp_own hs.2.2.2.2.2.1 hg hr, Nat.le_trans hs.2.2.2.2.2.2 hg.size⟩) _) (ownFrom_below (Nat.le_refl _) (by omega)))
    (fun c => OwnFrom.and (Own.from (fun s A B row hs hg hr => ⟨hs.1, hs.2.1, cell_kept hs.2.2.1 hg hr, sp_own hs.2.2.2 hg hr⟩) _) (fun s A B row hs hg hr => hs.own hg (fun r e => by have := (hr r e).1; omega)))
    ⟨⟨by simp, c0, c1, c2, f2, hs4, Nat.le_refl _⟩, hB0⟩
    (fun x => { tmps := #[.pointer (some ⟨b, 0, none⟩), .int .i64 top, .pointer (some ⟨w.heap.size, 0, none⟩), .pointer (some ⟨w.heap.size + 1, 0, none⟩), .pointer (some ⟨w.heap.size + 2, 0, none⟩), .int .i64 (cl bs ws x).1, .bool (cl bs ws x).2, .pointer (some ⟨b, 0, none⟩), .func (.func 54) #[] #[.pointer (some ⟨w.heap.size + 3, 0, none⟩)], .int .i64 (cl bs ws x).1, .bool (cl bs ws x).2, undef, undef, undef, undef, undef, undef, undef, undef, undef, undef, undef, undef, undef, undef, undef, undef, undef, undef, undef, undef, undef, undef, undef, undef, undef, undef], defers := [] }) ?assign ?body ?done ?stop
  case assign =>
    intro l x W K hK
    gi_wp2
    exact hK
  case body =>
    rintro l pre x0 W ⟨⟨hp, d0, d1, d2, fr, hsp, hz4⟩, hB⟩ _
    have hx := cl_mem (bs := bs) (ws := ws) x0
    have hbd := seqL_bd hx
    have hp2 : ¬ hitT bs ws.length top (cl bs ws x0) → ∀ x ∈ pre ++ [x0], ¬ hitT bs ws.length top (cl bs ws x) := fun hn x hx' => (List.mem_append.1 hx').elim (hp x) (fun h' => by simp at h'; rw [h']; exact hn)
    clear hp
    generalize cl bs ws x0 = x at *
    obtain ⟨a, ob⟩ := x
    by_cases ha : a = top
    · subst ha
      cases ob
      · gi_wp2_with fail
        refine ⟨trivial, CallsIn.inRound l ((callsIn_wide.2 (top_any hsp hk)).mono ?_)⟩
        rintro e W2 ⟨rfl, hb2⟩
        have e0 := bcellv hb2 d0
        have e1 := bcellv hb2 d1
        have e2 := bcellv hb2 d2
        have fr2 : W2.frozen? ⟨w.heap.size + 2, 0, none⟩ = false := (World.frozen?_of_block (hb2.block _ (World.block_lt_of_cell? W _ d2))).trans fr
        have hB2 := bchain hb2 hB
        have ot := others_below hb2
        have sp2 := hsp.below hb2
        have kb := KeepB.of_below (K := WkK (w.heap.size + 3) b g) hb2 (fun k hk => by have := hK k hk; omega)
        by_cases hx2 : a = bs + ws.length
        · have hok : okT bs ws a := ⟨_, hx, rfl, .inr hx2⟩
          subst hx2
          have b0 := hk.b0
          have b1 := hk.top
          have b2 := hk.lm1
          obtain ⟨sa, cap, se, sr, sg⟩ := sp2
          have cb0 : W2.cell? ⟨b, 0, none⟩ = some (.int .i64 bs) := by rw [cell_of_block se]; rfl
          have cb2 : W2.cell? ⟨b, 2, none⟩ = some (.slice sa ws.length cap) := by rw [cell_of_block se]; rfl
          have fb2 : W2.frozen? ⟨b, 2, none⟩ = false := frozen_of_block se 2
          have cap1 := sr.1
          have cap2 := sr.2.1
          have s1 : IntKind.i64.wrap (bs + ws.length - bs) = bs + ws.length - bs := IntWalk.i64_in _ (by omega)
          have s2 : (0 : Int) ≤ bs + ws.length - bs := by omega
          have s3 : bs + ws.length - bs ≤ (cap : Int) := by omega
          have hmx : Try.prog.follows .mixedOrders = true := by kernel_rfl
          gi_wp2_with fail
          refine wpIn_region_last (by kernel_rfl) (by kernel_rfl) (by kernel_rfl) ?_
          dsimp only [setLast, lastOf, noop]
          repeat (gi_big_quiet_step (fail))
          refine wpQuietIn_nil ?_
          rintro _ ⟨nq, rfl⟩
          gi_wp2
          obtain ⟨p1, p2, p3, p4⟩ := trunc_post hB2 hbl hgl se sr sg (t := (bs + ws.length - bs).toNat) (by omega) nq e2
          exact ⟨ot.trans p1, ⟨rfl, hok, p2, p3⟩, p4⟩
        · have hnk : ¬ hitT bs ws.length a (a, false) := by rintro ⟨_, h⟩; simp at h; exact hx2 h
          have hab : (a == bs + ws.length) = false := by simp [hx2]
          gi_wp2
          exact ⟨ot, kb, ⟨hp2 hnk, e0, e1, e2, fr2, sp2, Nat.le_trans hz4 hb2.size⟩, hB2⟩
      · have hok : okT bs ws a := ⟨_, hx, rfl, .inl rfl⟩
        gi_wp2_with fail
        refine ⟨trivial, ?_⟩
        have b0 := hk.b0
        have b1 := hk.top
        have b2 := hk.lm1
        obtain ⟨sa, cap, se, sr, sg⟩ := hsp
        have cb0 : W.cell? ⟨b, 0, none⟩ = some (.int .i64 bs) := by rw [cell_of_block se]; rfl
        have cb2 : W.cell? ⟨b, 2, none⟩ = some (.slice sa ws.length cap) := by rw [cell_of_block se]; rfl
        have fb2 : W.frozen? ⟨b, 2, none⟩ = false := frozen_of_block se 2
        have cap1 := sr.1
        have cap2 := sr.2.1
        have s1 : IntKind.i64.wrap (a - bs) = a - bs := IntWalk.i64_in _ (by omega)
        have s2 : (0 : Int) ≤ a - bs := by omega
        have s3 : a - bs ≤ (cap : Int) := by omega
        have hmx : Try.prog.follows .mixedOrders = true := by kernel_rfl
        gi_wp2_with fail
        refine wpIn_region_last (by kernel_rfl) (by kernel_rfl) (by kernel_rfl) ?_
        dsimp only [setLast, lastOf, noop]
        repeat (gi_big_quiet_step (fail))
        refine wpQuietIn_nil ?_
        rintro _ ⟨nq, rfl⟩
        gi_wp2
        obtain ⟨p1, p2, p3, p4⟩ := trunc_post hB hbl hgl se sr sg (t := (a - bs).toNat) (by omega) nq d2
        exact ⟨p1, ⟨rfl, hok, p2, p3⟩, p4⟩
    · have hab : (a == top) = false := by simp [ha]
      have hud : ∀ b : Bool, some undef = some (Value.bool b) → False := fun b h => by simp [undef] at h
      have hnk : ¬ hitT bs ws.length top (a, ob) := fun h => ha h.1
      gi_wp2_with fail
      refine ⟨trivial, ?_⟩
      gi_wp2
      exact ⟨KeepsOthers.refl _, fun _ _ => rfl, ⟨hp2 hnk, d0, d1, d2, fr, hsp, hz4⟩, hB⟩
  case done =>
    rintro D ys W hD rfl ⟨⟨hp, d0, d1, d2, fr, hsp, _⟩, hB⟩ hK'
    have hst : ¬ okT bs ws top := by
      rintro ⟨x, hx, hh⟩
      have := hp x hx
      rw [cl_of hx] at this
      exact this hh
    gi_wp2
    have hK2 := (KeepsOthers.setCell W ⟨w.heap.size + 2, 0, none⟩ (.int .i64 2)).same D _ hK' rfl
    refine ⟨by simp, .inl ⟨_, _, rfl, run_takeDeferred hK2, ?_⟩⟩
    have hc5 := cell_kept (World.cell?_setCell_same' W ⟨w.heap.size + 2, 0, none⟩ (.int .i64 2) (by rw [d2]; rfl)) (grownBy_putObj' _ D (.deferred none)) (fun r e => by cases e; exact ⟨_, hK2, rfl⟩)
    refine ⟨.int .i64 2, ?_, .inr ⟨hst, rfl, (hB.setCell (p := ⟨w.heap.size + 2, 0, none⟩) (by simp) _).trans (belowK_b (w := w) (Nat.le_refl _) _ D _ _ (by omega) hK2 rfl rfl)⟩⟩
    simp [results, Try.f26, go_sem, hc5]
  case stop =>
    rintro D c pre W hD hpre ⟨⟨rfl, hst, hcr, hsp⟩, hB⟩ hK'
    gi_wp2
    refine ⟨by simp, .inl ⟨_, _, rfl, run_takeDeferred hK', ?_⟩⟩
    have hc5 := cell_kept hcr (grownBy_putObj' _ D (.deferred none)) (fun r e => by cases e; exact ⟨_, hK', rfl⟩)
    refine ⟨.int .i64 0, ?_, .inl ⟨hst, rfl, sp_own hsp (grownBy_putObj' _ D (.deferred none)) (fun r e => by cases e; exact ⟨_, hK', rfl⟩), hB.putObj D _ (by omega)⟩⟩
    simp [results, Try.f26, go_sem, hc5]
end Go.Proofs.Ytgjaafcagnkfdaa
namespace Go.Proofs.Ytgjaafcagnkfdaa
open Go.RowKit Go.Shelf
set_option linter.unusedSimpArgs false
set_option linter.unusedVariables false
attribute [local go_sem] Oper.semAt_some

theorem objs_len {ws : List Int} : ∀ (n i : Nat), ws.length - i ≤ n → i ≤ ws.length → (objs ws i).length + i ≤ ws.length := by
  intro n
  induction n with
  | zero =>
    intro i hn hi
    cases hz : szB ws i
    · rw [objs_no hz]; simpa using hi
    · have := szN_bd hz; omega
  | succ n ih =>
    intro i hn hi
    cases hz : szB ws i
    · rw [objs_no hz]; simpa using hi
    · have hb := szN_bd hz
      have := ih (i + szN ws i) (by omega) hb.2.2
      rw [objs_yes hz]
      simp
      omega
theorem seqL_len {bs : Int} {ws : List Int} : (seqL bs ws 0).length ≤ ws.length + 1 := by
  have := objs_len (ws := ws) ws.length 0 (by omega) (by omega)
  unfold seqL
  simp
  omega
/-- What Objects collects. -/
def pick (l : List (Int × Bool)) : List Int := (l.filter (fun x => x.2)).map (fun x => x.1)
theorem pick_hit (pre : List (Int × Bool)) (a : Int) : pick (pre ++ [(a, true)]) = pick pre ++ [a] := by simp [pick]
theorem pick_miss (pre : List (Int × Bool)) (a : Int) : pick (pre ++ [(a, false)]) = pick pre := by simp [pick]
theorem pick_len (pre : List (Int × Bool)) : (pick pre).length ≤ pre.length := by
  unfold pick
  rw [List.length_map]
  exact List.length_filter_le _ _
/-- The addresses of the objects. -/
def objA (bs : Int) (ws : List Int) : List Int := (objs ws 0).map (fun (j : Nat) => bs + (j : Int))
theorem pick_seqL {bs : Int} {ws : List Int} : pick (seqL bs ws 0) = objA bs ws := by
  unfold pick seqL objA
  rw [List.filter_append, List.map_append]
  simp
  rw [List.filter_eq_self.2 (by simp)]
  simp [Function.comp_def]
theorem int_info : (Try.prog.info? 3).map (fun i => (i.zero, i.size, i.bytes)) = some (some (.int .i64 0), 1, 8) := by kernel_rfl

set_option maxRecDepth 100000 in
set_option maxHeartbeats 2000000 in
theorem objects_any {w : World} {b : Nat} {bs lm : Int} {ws : List Int} {g : Option Nat} (h : SpAt w b bs lm ws g) (hk : SpOk bs lm ws) :
    Calls Try.prog 63 #[.pointer (some ⟨b, 0, none⟩)] w fun e w' => ∃ v, e = .returned v ∧ w'.ownsRow w.heap.size 3 1 v (objA bs ws).length ((objA bs ws).map (Value.int .i64)) ∧ Below w.heap.size w w' := by
  obtain ⟨i0, hi, hz0, hz1, hz2⟩ := info_parts int_info
  refine (callsIn_wide (n := 9)).1 ?_
  refine callsIn_of_wp_marks Try.func63 rfl trivial ?_ rfl
  simp only [Try.ntmps63, List.size_toArray, List.length_cons, List.length_nil, Nat.reduceAdd, Nat.reduceSub, Array.replicate_succ, Array.replicate_zero, List.push_toArray, List.append_toArray, List.nil_append, List.cons_append]
  gi_wp2_with fail
  refine ⟨trivial, (callsIn_wide.2 (walk_any b _)).mono ?_⟩
  rintro e w2 ⟨rfl, hw2⟩
  have hB0 : Below w.heap.size w w2 := by rw [hw2]; exact balloc (balloc (Below.refl _ _) _) _
  have hz : w2.heap.size = w.heap.size + 2 := by rw [hw2]; simp
  have hs2 := h.below hB0
  have bO : Boxed w2 w.heap.size 42 (.slice none 0 0) := by rw [hw2]; exact (Boxed.new w 42 (.slice none 0 0)).alloc _
  have bN : Boxed w2 (w.heap.size + 1) 24 (.pointer (some ⟨b, 0, none⟩)) := by
    have := Boxed.new (w.alloc (.cells #[.slice none 0 0] 42)) 24 (.pointer (some ⟨b, 0, none⟩))
    rw [World.size_alloc] at this
    rw [hw2]
    exact this
  have hbl := h.lt
  have hgl := h.glt
  have hK : ∀ k, WkK (w.heap.size + 1) b g k → k < w2.heap.size := by
    rintro k (rfl | rfl | e)
    · omega
    · omega
    · have := hgl k e; omega
  have hwl : (ws.length : Int) ≤ 1099511627776 := by have := hk.top; have := hk.lm1; have := hk.b0; omega
  have hsl := seqL_len (bs := bs) (ws := ws)
  have hml : maxLen = 9223372036854775807 := rfl
  simp only [World.size_alloc, Nat.add_assoc, Nat.reduceAdd]
  clear hw2
  gi_wp2_with fail
  refine wpIn_rangeFunc_ownF rfl (by omega) (gf := 54) (lb := #[.pointer (some ⟨w.heap.size + 1, 0, none⟩)]) rfl trivial (enters_of Try.func54 (by kernel_rfl) rfl)
    (walk_stops _ (by omega) bN.cell hs2 hk) KeepB.t (KeepB.b hK) (Below.refl _ _) (fun _ => rfl)
    (fun pre W => ((∃ v, Boxed W w.heap.size 42 v ∧ W.ownsRow w.heap.size 3 1 v (pick pre).length ((pick pre).map (Value.int .i64)) ∧ True) ∧ Boxed W (w.heap.size + 1) 24 (.pointer (some ⟨b, 0, none⟩))) ∧ Below w.heap.size w W)
    (fun _ _ _ => False)
    (OwnFrom.and (OwnFrom.and (Own.from (holdsRow_own w.heap.size w.heap.size 42 3 1 (fun pre => (pick pre).length) (fun pre => (pick pre).map (Value.int .i64)) (fun _ _ => True)) _) (fun s A B row hs hg hr => hs.kept hg (fun e' => by obtain ⟨_, o, ho, hc⟩ := hr _ e'.symm; rw [show A.heap[w.heap.size + 1]? = _ from hs] at ho; cases ho; cases hc))) (ownFrom_below (Nat.le_refl _) (by omega)))
    (fun _ _ _ _ _ hs _ _ => hs)
    ⟨⟨⟨_, bO, World.ownsRow_nil _ _ _ _, trivial⟩, bN⟩, hB0⟩
    (fun x => { tmps := #[.pointer (some ⟨b, 0, none⟩), undef, .slice none 0 0, .pointer (some ⟨w.heap.size, 0, none⟩), .int .i64 x.1, .bool x.2, .pointer (some ⟨b, 0, none⟩), .func (.func 54) #[] #[.pointer (some ⟨w.heap.size + 1, 0, none⟩)], .int .i64 x.1, .bool x.2, undef, undef, undef, undef, undef, undef], defers := [] }) ?assign ?body ?done ?stop
  case assign =>
    intro l x W K hK
    gi_wp2
    exact hK
  case body =>
    rintro l pre ⟨a, ob⟩ W ⟨⟨⟨v, hv, hrow, _⟩, hvN⟩, hB⟩ hlt
    have hc := hv.cell
    have hpl := pick_len pre
    cases ob
    · gi_wp2
      exact ⟨KeepsOthers.refl _, fun _ _ => rfl, ⟨⟨v, hv, by rw [pick_miss]; exact hrow, trivial⟩, hvN⟩, hB⟩
    · gi_wp2_with (gi_at_builtin; refine wpListIn_append_own _ rfl _ _ 42 rfl w.heap.size 3 i0 (.int .i64 0) 1 8 Try.underlying42 hi hz0 hz1 hz2 rfl (by decide) _ _ _ rfl (hrow.alloc _) ⟨W.heap.size, 0, none⟩ 1 1 [.int .i64 a] rfl rfl (cell_one_new _ _ _) (by simp [Value.oneCell']) (by omega) (by omega) (by have := hB.size; simp; omega) ?_; intro v' w1 hown' hgrow _; obtain ⟨g', cap', rfl⟩ := ownsRow_succ hown'; obtain ⟨hv1, hv2, hr2, hk2, hb2⟩ := hv.appended (by decide) hrow hB.size (Nat.le_refl _) hown' hgrow; have hc1 := hv1.cell; have hf1 := hv1.frozen)
      have hN1 : Boxed w1 (w.heap.size + 1) 24 (.pointer (some ⟨b, 0, none⟩)) := (hvN.alloc _).kept hgrow (hvN.not_row (by decide) hrow)
      have hN2 := hN1.kept (grownBy_setCell' w1 w.heap.size (.slice (some ⟨g', 0, none⟩) ((pick pre).length + 1) cap')) (by simp)
      refine ⟨hk2, ?_, ⟨⟨_, hv2, by rw [pick_hit]; simpa using hr2, trivial⟩, hN2⟩, hB.trans hb2⟩
      rintro k (rfl | rfl | e)
      · exact hN2.trans (show _ = W.heap[_]? from hvN.symm)
      · exact hb2.block k hbl
      · exact hb2.block k (hgl k e)
  case done =>
    rintro D ys W hD rfl ⟨⟨⟨v, hv, hrow, _⟩, _⟩, hB⟩ hK'
    have hc := hv.cell
    gi_wp2
    refine ⟨by simp, .inl ⟨_, _, rfl, run_takeDeferred hK', ?_⟩⟩
    refine ⟨_, results_tmp rfl _ _ _, v, rfl, ?_, hB.trans (belowK_b (w := w) (Nat.le_refl _) W D _ _ (by omega) hK' rfl rfl)⟩
    rw [← pick_seqL]
    exact ownsRow_putObj hrow _ hK' rfl
  case stop =>
    rintro D c pre W _ _ h _
    exact h.elim
end Go.Proofs.Ytgjaafcagnkfdaa
namespace Go.Proofs.Ytgjaafcagnkfdaa
open Go.RowKit
set_option linter.unusedSimpArgs false
set_option linter.unusedVariables false

theorem getD_app {ws ext : List Int} {i : Nat} (h : i < ws.length) : (ws ++ ext).getD i 0 = ws.getD i 0 := by
  simp only [List.getD_eq_getElem?_getD, List.getElem?_append_left h]
theorem getD_take {ws : List Int} {i o : Nat} (h : i < o) : (ws.take o).getD i 0 = ws.getD i 0 := by
  simp only [List.getD_eq_getElem?_getD, List.getElem?_take_of_lt h]
theorem szB_app {ws : List Int} (ext : List Int) {i : Nat} (h : szB ws i = true) : szB (ws ++ ext) i = true ∧ szN (ws ++ ext) i = szN ws i := by
  obtain ⟨h0, h1, h2, h3⟩ := szB_iff.1 h
  have e0 : (ws ++ ext).getD i 0 = ws.getD i 0 := getD_app (by omega)
  have e1 : (ws ++ ext).getD (i + 1) 0 = ws.getD (i + 1) 0 := getD_app (by omega)
  have h' : szB (ws ++ ext) i = true := szB_iff.2 ⟨by rw [List.length_append]; omega, by rw [e0]; exact h1, by rw [e1]; exact h2, by rw [e0, List.length_append]; omega⟩
  exact ⟨h', by rw [szN_yes h', szN_yes h, e0]⟩
theorem szB_take {ws : List Int} {i o : Nat} (h : szB ws i = true) (ho : i + szN ws i ≤ o) : szB (ws.take o) i = true ∧ szN (ws.take o) i = szN ws i := by
  obtain ⟨h0, h1, h2, h3⟩ := szB_iff.1 h
  have hb := szN_bd h
  have hy := szN_yes h
  have e0 : (ws.take o).getD i 0 = ws.getD i 0 := getD_take (by omega)
  have e1 : (ws.take o).getD (i + 1) 0 = ws.getD (i + 1) 0 := getD_take (by omega)
  have h' : szB (ws.take o) i = true := szB_iff.2 ⟨by rw [List.length_take]; omega, by rw [e0]; exact h1, by rw [e1]; exact h2, by rw [e0, List.length_take]; omega⟩
  exact ⟨h', by rw [szN_yes h', szN_yes h, e0]⟩
theorem szB_end {ws : List Int} {i : Nat} (h : ws.length < i + 2) : szB ws i = false := by
  rw [Bool.eq_false_iff]
  intro hh
  have := (szB_iff.1 hh).1
  omega
/-- Walking reaches the top. -/
def Sound (ws : List Int) : Prop := stopAt ws 0 = ws.length
theorem sound_nil : Sound [] := by unfold Sound; rw [stopAt_no (szB_end (by simp))]; rfl
theorem walk_app {ws : List Int} (ext : List Int) : ∀ (n i : Nat), ws.length - i ≤ n → i ≤ ws.length → stopAt ws i = ws.length →
    objs (ws ++ ext) i = objs ws i ++ objs (ws ++ ext) ws.length ∧ stopAt (ws ++ ext) i = stopAt (ws ++ ext) ws.length := by
  intro n
  induction n with
  | zero =>
    intro i hn hi hs
    have : i = ws.length := by omega
    subst this
    rw [objs_no (ws := ws) (szB_end (by omega))]
    simp
  | succ n ih =>
    intro i hn hi hs
    cases hz : szB ws i
    · rw [stopAt_no hz] at hs
      subst hs
      rw [objs_no hz]
      simp
    · have hb := szN_bd hz
      obtain ⟨h1, h2⟩ := szB_app ext hz
      rw [stopAt_yes hz] at hs
      obtain ⟨h3, h4⟩ := ih (i + szN ws i) (by omega) hb.2.2 hs
      rw [objs_yes h1, stopAt_yes h1, h2, h3, h4, objs_yes hz]
      simp
theorem newObj_sz {ws : List Int} {k c f m s : Int} (h : hvB k c f = true) (hi : idB m s = true) : szB (ws ++ newObj k c f m s) ws.length = true ∧ ws.length + szN (ws ++ newObj k c f m s) ws.length = (ws ++ newObj k c f m s).length := by
  have hw := wordsI_bd h
  have hl := newObj_len (m := m) (s := s) h
  have e0 : (ws ++ newObj k c f m s).getD ws.length 0 = encI k c f := by simp [newObj, List.getD_eq_getElem?_getD]
  have e1 : (ws ++ newObj k c f m s).getD (ws.length + 1) 0 = idI m s := by simp [newObj, List.getD_eq_getElem?_getD]
  have hd := (dec_enc h).2.2
  have hii : didB (idI m s) = true := by unfold didB; rw [(did_id hi).1, (did_id hi).2]; exact hi
  have hz : szB (ws ++ newObj k c f m s) ws.length = true := szB_iff.2 ⟨by simp; omega, by rw [e0]; exact decB_enc h, by rw [e1]; exact hii, by rw [e0, hd]; simp; omega⟩
  refine ⟨hz, ?_⟩
  rw [szN_yes hz, e0, hd]
  simp
  omega
/-- An object behind the last word of a sound space: the space is sound, and has one object more. -/
theorem sound_alloc {ws : List Int} {k c f m s : Int} (h : hvB k c f = true) (hi : idB m s = true) (hs : Sound ws) : Sound (ws ++ newObj k c f m s) ∧ objs (ws ++ newObj k c f m s) 0 = objs ws 0 ++ [ws.length] := by
  obtain ⟨h1, h2⟩ := walk_app (newObj k c f m s) ws.length 0 (by omega) (by omega) hs
  obtain ⟨h3, h4⟩ := newObj_sz (ws := ws) h hi
  have he : szB (ws ++ newObj k c f m s) (ws.length + szN (ws ++ newObj k c f m s) ws.length) = false := szB_end (by omega)
  unfold Sound
  rw [h1, h2, objs_yes h3, stopAt_yes h3, objs_no he, stopAt_no he]
  exact ⟨h4, rfl⟩
/-- Cutting off at an object. -/
theorem walk_take {ws : List Int} : ∀ (pre : List Nat) (i o : Nat) (rest : List Nat), objs ws i = pre ++ o :: rest → o ≤ ws.length → objs (ws.take o) i = pre ∧ stopAt (ws.take o) i = o := by
  intro pre
  induction pre with
  | nil =>
    intro i o rest h ho
    cases hz : szB ws i
    · rw [objs_no hz] at h; cases h
    · rw [objs_yes hz] at h
      simp at h
      obtain ⟨rfl, _⟩ := h
      have he : szB (ws.take i) i = false := szB_end (by simp; omega)
      exact ⟨objs_no he, stopAt_no he⟩
  | cons p pre ih =>
    intro i o rest h ho
    cases hz : szB ws i
    · rw [objs_no hz] at h; cases h
    · rw [objs_yes hz] at h
      simp at h
      obtain ⟨rfl, h⟩ := h
      have hb := szN_bd hz
      have hmem : o ∈ objs ws (i + szN ws i) := by rw [h]; simp
      have hge := (objs_bd (ws := ws) ws.length (i + szN ws i) (by omega) hb.2.2).1 o hmem
      obtain ⟨h1, h2⟩ := szB_take hz hge.1
      obtain ⟨h3, h4⟩ := ih (i + szN ws i) o rest h ho
      rw [objs_yes h1, stopAt_yes h1, h2, h3, h4]
      exact ⟨rfl, rfl⟩
/-- The k-th place where a sound space may be cut: an object, or the top. -/
def cutAt (ws : List Int) (k : Nat) : Nat := (objs ws 0 ++ [ws.length]).getD k 0
theorem cut_law {bs : Int} {ws : List Int} (hs : Sound ws) {k : Nat} (hk : k < (objs ws 0).length + 1) : cutAt ws k ≤ ws.length ∧ objs (ws.take (cutAt ws k)) 0 = (objs ws 0).take k ∧ Sound (ws.take (cutAt ws k)) ∧ okT bs ws (bs + (cutAt ws k : Nat)) := by
  have hbd := objs_bd (ws := ws) ws.length 0 (by omega) (by omega)
  by_cases hl : k < (objs ws 0).length
  · have e : cutAt ws k = (objs ws 0)[k] := by
      unfold cutAt
      rw [List.getD_eq_getElem?_getD, List.getElem?_append_left hl, List.getElem?_eq_getElem hl]
      rfl
    have hm : (objs ws 0)[k] ∈ objs ws 0 := List.getElem_mem hl
    have hle := (hbd.1 _ hm).2
    have hsp : objs ws 0 = (objs ws 0).take k ++ (objs ws 0)[k] :: (objs ws 0).drop (k + 1) := by
      rw [← List.drop_eq_getElem_cons hl, List.take_append_drop]
    obtain ⟨h1, h2⟩ := walk_take _ 0 _ _ hsp hle
    rw [e]
    refine ⟨hle, h1, ?_, ⟨_, List.mem_append_left _ (List.mem_map.2 ⟨_, hm, rfl⟩), rfl, .inl rfl⟩⟩
    unfold Sound
    rw [h2]
    simp
    omega
  · have hkk : k = (objs ws 0).length := by omega
    have e : cutAt ws k = ws.length := by
      unfold cutAt
      rw [List.getD_eq_getElem?_getD, hkk, List.getElem?_append_right (by omega)]
      simp
    rw [e, hkk]
    refine ⟨Nat.le_refl _, by simp, by simpa using hs, ⟨_, seqL_last 0, ?_, .inr rfl⟩⟩
    show bs + ((stopAt ws 0 : Nat) : Int) = _
    rw [show stopAt ws 0 = ws.length from hs]
end Go.Proofs.Ytgjaafcagnkfdaa
