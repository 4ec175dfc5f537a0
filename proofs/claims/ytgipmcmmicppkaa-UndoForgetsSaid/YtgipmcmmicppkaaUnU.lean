/-
  law 13: a world; which word an operation chooses.
-/
import Derived.Test.YtgipmcmmicppkaaUnT
namespace Go.Proofs.Ytgipmcmmicppkaa
open Go.RowKit
set_option linter.unusedSimpArgs false
set_option linter.unusedVariables false

def wc13 (bO bY bL : Nat) (lo ly : Int) (aO : Option Addr) (nO cO : Nat) (aY : Option Addr) (nY cY : Nat) (tp : Bool) (tt : Int) (vA vW : Value) (nn : Int) : Array Value := #[.pointer (some ⟨bO, 0, none⟩), .pointer (some ⟨bY, 0, none⟩), .pointer (some ⟨bL, 0, none⟩), .int .i64 0, .int .i64 lo, .slice aO nO cO, .int .i64 16777216, .int .i64 ly, .slice aY nY cY, .bool tp, .int .i64 tt, vA, vW, .int .i64 nn]
theorem rrb_any {w : World} {op : Bool} {top : Int} {nt : List (Int × Int)} {vA vW : Value} (h : LgAt w nt vA vW) {aO : Option Addr} {nO cO : Nat} {aY : Option Addr} {nY cY : Nat} {lo ly : Int} {wo wy : List Int} {rO rY : Option Nat} (hm : RMem w aO nO cO aY nY cY lo ly wo wy rO rY) (hn : nt.length ≤ 100000) :
    Calls Try.prog 45 #[lgV op top vA vW, mmV lo ly aO nO cO aY nY cY] w (RNext w (fun v => .tuple #[if op then lgV false 0 (.slice none 0 0) (.slice none 0 0) else lgV op top vA vW, v, .int .i64 (rlE ⟨wo, wy, op, top, nt⟩)]) lo ly (rlS ⟨wo, wy, op, top, nt⟩).wo (rlS ⟨wo, wy, op, top, nt⟩).wy rO rY) := by
  cases op
  · exact rrb_no h hm
  · exact rrb_yes h hm hn _ rfl
def at13 (raw : Bool) (no ny : Nat) (a : Int) : Int :=
  if raw || decide ((no : Int) + ny = 0) then a else
  if (a.tmod ((no : Int) + ny) + ((no : Int) + ny)).tmod ((no : Int) + ny) < no then (a.tmod ((no : Int) + ny) + ((no : Int) + ny)).tmod ((no : Int) + ny) else 16777216 + (a.tmod ((no : Int) + ny) + ((no : Int) + ny)).tmod ((no : Int) + ny) - no
set_option maxRecDepth 100000 in
set_option maxHeartbeats 4000000 in
theorem at_raw {w : World} {p bO bY bL : Nat} {lo ly : Int} {aO : Option Addr} {nO cO : Nat} {aY : Option Addr} {nY cY : Nat} {tp : Bool} {tt : Int} {vA vW : Value} {nn : Int} (kp : w.heap[p]? = some (.cells (wc13 bO bY bL lo ly aO nO cO aY nY cY tp tt vA vW nn) 40 (0, 0))) (hO : nO ≤ 16777216) (hY : nY ≤ 1099511627776) (kd nf a u : Int) (raw : Bool) (hr : (raw || decide ((nO : Int) + nY = 0)) = true) :
    Calls Try.prog 13 #[.pointer (some ⟨p, 0, none⟩), .agg #[.int .u8 kd, .int .u8 nf, .int .i64 a, .int .u64 u, .bool raw]] w fun e w' => e = .returned (.int .i64 a) ∧ Below w.heap.size w w' := by
  have hb1 : Below w.heap.size w (w.alloc (.cells #[.int .u8 kd, .int .u8 nf, .int .i64 a, .int .u64 u, .bool raw] 45)) := balloc (Below.refl _ _) _
  have k0 := alloc_get w (.cells #[.int .u8 kd, .int .u8 nf, .int .i64 a, .int .u64 u, .bool raw] 45)
  have kp1 := bblock hb1 kp
  unfold wc13 at kp1
  have p5 : (w.alloc (.cells #[.int .u8 kd, .int .u8 nf, .int .i64 a, .int .u64 u, .bool raw] 45)).cell? ⟨p, 5, none⟩ = some (.slice aO nO cO) := by rw [cell_of_block kp1]; rfl
  have p8 : (w.alloc (.cells #[.int .u8 kd, .int .u8 nf, .int .i64 a, .int .u64 u, .bool raw] 45)).cell? ⟨p, 8, none⟩ = some (.slice aY nY cY) := by rw [cell_of_block kp1]; rfl
  have q2 : (w.alloc (.cells #[.int .u8 kd, .int .u8 nf, .int .i64 a, .int .u64 u, .bool raw] 45)).cell? ⟨w.heap.size, 2, none⟩ = some (.int .i64 a) := by rw [cell_of_block k0]; rfl
  have q4 : (w.alloc (.cells #[.int .u8 kd, .int .u8 nf, .int .i64 a, .int .u64 u, .bool raw] 45)).cell? ⟨w.heap.size, 4, none⟩ = some (.bool raw) := by rw [cell_of_block k0]; rfl
  clear kp kp1 k0
  have hs : IntKind.i64.wrap ((nO : Int) + nY) = (nO : Int) + nY := by rw [IntKind.wrap_i64]; omega
  have hs' : wrap64 ((nO : Int) + nY) = (nO : Int) + nY := by unfold wrap64; omega
  go_enter Try.func13, Try.ntmps13
  cases raw
  · have hz : (nO : Int) + nY = 0 := by simpa using hr
    have hd : (((nO : Int) + nY) == 0) = true := by simpa using hz
    go_wp2_with fail
    go_quiet (fail)
    go_wp2
    go_ret
    exact ⟨rfl, by (repeat (first | exact Below.refl _ _ | assumption | refine Below.drew ?_ | refine below_drewN ?_ _ | refine balloc ?_ _ | refine Below.setCell ?_ (by first | (simp; done) | (simp; omega) | omega) _ | refine bchain (by assumption) ?_))⟩
  · go_wp2_with fail
    go_quiet (fail)
    go_wp2
    go_ret
    exact ⟨rfl, by (repeat (first | exact Below.refl _ _ | assumption | refine Below.drew ?_ | refine below_drewN ?_ _ | refine balloc ?_ _ | refine Below.setCell ?_ (by first | (simp; done) | (simp; omega) | omega) _ | refine bchain (by assumption) ?_))⟩
set_option maxRecDepth 100000 in
set_option maxHeartbeats 4000000 in
theorem at_get {w : World} {p bO bY bL : Nat} {lo ly : Int} {aO : Option Addr} {nO cO : Nat} {aY : Option Addr} {nY cY : Nat} {tp : Bool} {tt : Int} {vA vW : Value} {nn : Int} (kp : w.heap[p]? = some (.cells (wc13 bO bY bL lo ly aO nO cO aY nY cY tp tt vA vW nn) 40 (0, 0))) (hO : nO ≤ 16777216) (hY : nY ≤ 1099511627776) (kd nf a u : Int) (hr : 0 < (nO : Int) + nY) (q1 q3 : Int) (hq1 : a.tmod ((nO : Int) + nY) = q1) (hq3 : (q1 + ((nO : Int) + nY)).tmod ((nO : Int) + nY) = q3) :
    Calls Try.prog 13 #[.pointer (some ⟨p, 0, none⟩), .agg #[.int .u8 kd, .int .u8 nf, .int .i64 a, .int .u64 u, .bool false]] w fun e w' => e = .returned (.int .i64 (if q3 < nO then q3 else 16777216 + q3 - nO)) ∧ Below w.heap.size w w' := by
  have hb1 : Below w.heap.size w (w.alloc (.cells #[.int .u8 kd, .int .u8 nf, .int .i64 a, .int .u64 u, .bool false] 45)) := balloc (Below.refl _ _) _
  have k0 := alloc_get w (.cells #[.int .u8 kd, .int .u8 nf, .int .i64 a, .int .u64 u, .bool false] 45)
  have kp1 := bblock hb1 kp
  unfold wc13 at kp1
  have p5 : (w.alloc (.cells #[.int .u8 kd, .int .u8 nf, .int .i64 a, .int .u64 u, .bool false] 45)).cell? ⟨p, 5, none⟩ = some (.slice aO nO cO) := by rw [cell_of_block kp1]; rfl
  have p8 : (w.alloc (.cells #[.int .u8 kd, .int .u8 nf, .int .i64 a, .int .u64 u, .bool false] 45)).cell? ⟨p, 8, none⟩ = some (.slice aY nY cY) := by rw [cell_of_block kp1]; rfl
  have q2 : (w.alloc (.cells #[.int .u8 kd, .int .u8 nf, .int .i64 a, .int .u64 u, .bool false] 45)).cell? ⟨w.heap.size, 2, none⟩ = some (.int .i64 a) := by rw [cell_of_block k0]; rfl
  have q4 : (w.alloc (.cells #[.int .u8 kd, .int .u8 nf, .int .i64 a, .int .u64 u, .bool false] 45)).cell? ⟨w.heap.size, 4, none⟩ = some (.bool false) := by rw [cell_of_block k0]; rfl
  clear kp kp1 k0
  have hs : IntKind.i64.wrap ((nO : Int) + nY) = (nO : Int) + nY := by rw [IntKind.wrap_i64]; omega
  have hs' : wrap64 ((nO : Int) + nY) = (nO : Int) + nY := by unfold wrap64; omega
  obtain ⟨k, hk⟩ : ∃ k : Int, (nO : Int) + nY = k := ⟨_, rfl⟩
  rw [hk] at hr hq1 hq3 hs hs'
  have hk0 : k ≠ 0 := by omega
  have hkb : (k == 0) = false := by simpa using hk0
  have r1 : q1 < k ∧ -k < q1 := by
    rw [← hq1]
    exact ⟨Int.tmod_lt_of_pos a hr, by have := Int.lt_tmod_of_pos a hr; omega⟩
  have r3 : 0 ≤ q3 ∧ q3 < k := by
    rw [← hq3]
    exact ⟨Int.tmod_nonneg _ (by omega), Int.tmod_lt_of_pos _ hr⟩
  have w1 : IntKind.i64.wrap q1 = q1 := by rw [IntKind.wrap_i64]; omega
  have w2 : IntKind.i64.wrap (q1 + k) = q1 + k := by rw [IntKind.wrap_i64]; omega
  have w2' : wrap64 (q1 + k) = q1 + k := by unfold wrap64; omega
  have w3 : IntKind.i64.wrap q3 = q3 := by rw [IntKind.wrap_i64]; omega
  have w4 : IntKind.i64.wrap (16777216 + q3) = 16777216 + q3 := by rw [IntKind.wrap_i64]; omega
  have w4' : wrap64 (16777216 + q3) = 16777216 + q3 := by unfold wrap64; omega
  have w5 : IntKind.i64.wrap (16777216 + q3 - nO) = 16777216 + q3 - nO := by rw [IntKind.wrap_i64]; omega
  have w5' : wrap64 (16777216 + q3 - nO) = 16777216 + q3 - nO := by unfold wrap64; omega
  obtain ⟨rr, hrr⟩ : ∃ r, (if q3 < nO then q3 else 16777216 + q3 - nO) = r := ⟨_, rfl⟩
  rw [hrr]
  go_enter Try.func13, Try.ntmps13
  by_cases hlt : q3 < nO
  · have hd : decide (q3 < (nO : Int)) = true := by simpa using hlt
    rw [if_pos hlt] at hrr
    subst hrr
    go_wp2_with fail
    go_quiet (fail)
    go_wp2
    go_ret
    exact ⟨rfl, by (repeat (first | exact Below.refl _ _ | assumption | refine Below.drew ?_ | refine below_drewN ?_ _ | refine balloc ?_ _ | refine Below.setCell ?_ (by first | (simp; done) | (simp; omega) | omega) _ | refine bchain (by assumption) ?_))⟩
  · have hd : decide (q3 < (nO : Int)) = false := by simpa using hlt
    rw [if_neg hlt] at hrr
    subst hrr
    go_wp2_with fail
    go_quiet (fail)
    go_wp2
    go_ret
    exact ⟨rfl, by (repeat (first | exact Below.refl _ _ | assumption | refine Below.drew ?_ | refine below_drewN ?_ _ | refine balloc ?_ _ | refine Below.setCell ?_ (by first | (simp; done) | (simp; omega) | omega) _ | refine bchain (by assumption) ?_))⟩
theorem at_any {w : World} {p bO bY bL : Nat} {lo ly : Int} {aO : Option Addr} {nO cO : Nat} {aY : Option Addr} {nY cY : Nat} {tp : Bool} {tt : Int} {vA vW : Value} {nn : Int} (kp : w.heap[p]? = some (.cells (wc13 bO bY bL lo ly aO nO cO aY nY cY tp tt vA vW nn) 40 (0, 0))) (hO : nO ≤ 16777216) (hY : nY ≤ 1099511627776) (kd nf a u : Int) (raw : Bool) :
    Calls Try.prog 13 #[.pointer (some ⟨p, 0, none⟩), .agg #[.int .u8 kd, .int .u8 nf, .int .i64 a, .int .u64 u, .bool raw]] w fun e w' => e = .returned (.int .i64 (at13 raw nO nY a)) ∧ Below w.heap.size w w' := by
  unfold at13
  by_cases hr : (raw || decide ((nO : Int) + nY = 0)) = true
  · rw [if_pos hr]
    exact at_raw kp hO hY kd nf a u raw hr
  · rw [if_neg hr]
    have hr' : raw = false ∧ (nO : Int) + nY ≠ 0 := by simpa using hr
    obtain ⟨rfl, h0⟩ := hr'
    exact at_get kp hO hY kd nf a u (by omega) _ _ rfl rfl
end Go.Proofs.Ytgipmcmmicppkaa
