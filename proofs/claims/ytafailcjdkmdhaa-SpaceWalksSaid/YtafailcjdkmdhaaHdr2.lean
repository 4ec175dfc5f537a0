/-
  The contracts of packages header and refmeshref05, continued: Valid for every header, Encode, Words, Decode, Change, the identities.
-/
import Derived.Test.YtafailcjdkmdhaaHdr
import Derived.Deep.QuietTactic
import Derived.BigQuiet
import Derived.Deep.RegionWith
namespace Go.Proofs.Ytafailcjdkmdhaa
open Go.RowKit
set_option linter.unusedSimpArgs false
set_option linter.unusedVariables false

theorem hvB_low {k c f : Int} (h : k < 0) : hvB k c f = false := hvB_no.2 (by omega)
theorem hvB_high {k c f : Int} (h : 5 ≤ k) : hvB k c f = false := hvB_no.2 (by omega)
set_option maxRecDepth 100000 in
theorem valid_low (k c f : Int) (h : k < 0) (w : World) :
    Calls Try.prog 46 #[.agg #[.int .i64 k, .int .i64 c, .int .i64 f]] w fun e w' => e = .returned (.bool (hvB k c f)) ∧ Below w.heap.size w w' := by
  rw [hvB_low h]
  have h1 : decide (0 ≤ k) = false := by simpa using h
  go_enter Try.func46, Try.ntmps46
  go_wp2
  go_quiet (fail)
  go_wp2
  go_ret
  exact ⟨rfl, by (repeat (first | exact Below.refl _ _ | assumption | refine Below.drew ?_ | refine below_drewN ?_ _ | refine balloc ?_ _ | refine Below.setCell ?_ (by first | (simp; done) | (simp; omega) | omega) _ | refine bchain (by assumption) ?_))⟩
set_option maxRecDepth 100000 in
theorem valid_high (k c f : Int) (h : 5 ≤ k) (w : World) :
    Calls Try.prog 46 #[.agg #[.int .i64 k, .int .i64 c, .int .i64 f]] w fun e w' => e = .returned (.bool (hvB k c f)) ∧ Below w.heap.size w w' := by
  rw [hvB_high h]
  have h1 : decide (0 ≤ k) = true := by simp; omega
  have h2 : decide (k < 5) = false := by simpa using h
  go_enter Try.func46, Try.ntmps46
  go_wp2
  have h0 : ∀ x, (over (w.alloc (.cells #[.int .i64 k, .int .i64 c, .int .i64 f] 29)) x).cell? ⟨w.heap.size, 0, none⟩ = some (.int .i64 k) := over_cell (by simp)
  (refine wp_region_over (by kernel_rfl) (by kernel_rfl) ?_); (repeat (go_big_quiet_step (((go_at_call 49; exact calls_over (kinds_any _)))))); (refine wpQuiet_nil ?_)
  intro w2 hb2
  go_wp2
  go_ret
  exact ⟨rfl, by (repeat (first | exact Below.refl _ _ | assumption | refine Below.drew ?_ | refine below_drewN ?_ _ | refine balloc ?_ _ | refine Below.setCell ?_ (by first | (simp; done) | (simp; omega) | omega) _ | refine bchain (by assumption) ?_))⟩
theorem valid_any (k c f : Int) (w : World) :
    Calls Try.prog 46 #[.agg #[.int .i64 k, .int .i64 c, .int .i64 f]] w fun e w' => e = .returned (.bool (hvB k c f)) ∧ Below w.heap.size w w' := by
  by_cases h : k < 0
  · exact valid_low k c f h w
  by_cases h' : 5 ≤ k
  · exact valid_high k c f h' w
  have : k = 0 ∨ k = 1 ∨ k = 2 ∨ k = 3 ∨ k = 4 := by omega
  rcases this with rfl | rfl | rfl | rfl | rfl
  · exact valid_0 c f w
  · exact valid_1 c f w
  · exact valid_2 c f w
  · exact valid_3 c f w
  · exact valid_4 c f w

/-! ### refmeshref05.Valid -/
theorem rvalid_any (k c f : Int) (w : World) :
    Calls Try.prog 31 #[.agg #[.int .i64 k, .int .i64 c, .int .i64 f]] w fun e w' => e = .returned (.bool (hvB k c f)) ∧ Below w.heap.size w w' := by
  go_enter Try.func31, Try.ntmps31
  go_wp2
  all_goals (go_ret; refine ⟨ret_bool ?_, by (repeat (first | exact Below.refl _ _ | assumption | refine Below.drew ?_ | refine below_drewN ?_ _ | refine balloc ?_ _ | refine Below.setCell ?_ (by first | (simp; done) | (simp; omega) | omega) _ | refine bchain (by assumption) ?_))⟩; unfold hvB; rw [Bool.eq_iff_iff]; simp_all; try omega)
end Go.Proofs.Ytafailcjdkmdhaa
