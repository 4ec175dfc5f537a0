/-
  The contracts of packages header and refmeshref05: what each function returns; the memory that was there before the call is as it was.
-/
import Derived.Test.YtafailcjdkmdhaaProg
import Derived.Test.YtafailcjdkmdhaaBase
import Derived.Laws.EntriesVeiled
import Derived.Deep.RegionHeld3
namespace Go.Proofs.Ytafailcjdkmdhaa
open Go.RowKit
set_option linter.unusedSimpArgs false
set_option linter.unusedVariables false

/-! ### header: the small functions -/
def wthB (c f : Int) : Bool := decide (0 ≤ c ∧ c ≤ 60 ∧ 0 ≤ f ∧ f ≤ 30)

theorem within_any (k c f : Int) (w : World) :
    Calls Try.prog 53 #[.agg #[.int .i64 k, .int .i64 c, .int .i64 f]] w fun e w' => e = .returned (.bool (wthB c f)) ∧ Below w.heap.size w w' := by
  go_enter Try.func53, Try.ntmps53
  go_wp2
  all_goals (go_ret; refine ⟨ret_bool ?_, by (repeat (first | exact Below.refl _ _ | assumption | refine Below.drew ?_ | refine below_drewN ?_ _ | refine balloc ?_ _ | refine Below.setCell ?_ (by first | (simp; done) | (simp; omega) | omega) _ | refine bchain (by assumption) ?_))⟩; unfold wthB; rw [Bool.eq_iff_iff]; simp; omega)

def kindsV : Value := .agg #[.string { data := #[114, 101, 99, 111, 114, 100] }, .func (Fn.func 52) #[] #[],
  .string { data := #[97, 99, 116, 111, 114] }, .func (Fn.func 54) #[] #[],
  .string { data := #[119, 101, 97, 107] }, .func (Fn.func 55) #[] #[],
  .string { data := #[115, 116, 117, 98] }, .func (Fn.func 53) #[] #[],
  .string { data := #[102, 111, 114, 119, 97, 114, 100] }, .func (Fn.func 53) #[] #[]]
theorem kinds_any (w : World) :
    Calls Try.prog 49 #[] w fun e w' => e = .returned kindsV ∧ Below w.heap.size w w' := by
  go_enter Try.func49, Try.ntmps49
  go_wp2
  exact bodyPost_ret (v := kindsV) (by simp [results, Try.results49, go_sem, kindsV]) rfl ⟨rfl, by (repeat (first | exact Below.refl _ _ | assumption | refine Below.drew ?_ | refine below_drewN ?_ _ | refine balloc ?_ _ | refine Below.setCell ?_ (by first | (simp; done) | (simp; omega) | omega) _ | refine bchain (by assumption) ?_))⟩

theorem kinds1_any (k c f : Int) (w : World) :
    Calls Try.prog 52 #[.agg #[.int .i64 k, .int .i64 c, .int .i64 f]] w fun e w' => e = .returned (.bool (decide (0 < c) && wthB c f)) ∧ Below w.heap.size w w' := by
  go_enter Try.func52, Try.ntmps52
  go_wp2_with (go_at_call 53; refine (within_any k c f _).mono ?_; rintro e w' ⟨rfl, hb⟩)
  all_goals (go_ret; refine ⟨ret_bool ?_, by (repeat (first | exact Below.refl _ _ | assumption | refine Below.drew ?_ | refine below_drewN ?_ _ | refine balloc ?_ _ | refine Below.setCell ?_ (by first | (simp; done) | (simp; omega) | omega) _ | refine bchain (by assumption) ?_))⟩; rw [Bool.eq_iff_iff]; simp; try omega)
theorem kinds2_any (k c f : Int) (w : World) :
    Calls Try.prog 54 #[.agg #[.int .i64 k, .int .i64 c, .int .i64 f]] w fun e w' => e = .returned (.bool (decide (0 < c) && wthB c f)) ∧ Below w.heap.size w w' := by
  go_enter Try.func54, Try.ntmps54
  go_wp2_with (go_at_call 53; refine (within_any k c f _).mono ?_; rintro e w' ⟨rfl, hb⟩)
  all_goals (go_ret; refine ⟨ret_bool ?_, by (repeat (first | exact Below.refl _ _ | assumption | refine Below.drew ?_ | refine below_drewN ?_ _ | refine balloc ?_ _ | refine Below.setCell ?_ (by first | (simp; done) | (simp; omega) | omega) _ | refine bchain (by assumption) ?_))⟩; rw [Bool.eq_iff_iff]; simp; try omega)
theorem kinds3_any (k c f : Int) (w : World) :
    Calls Try.prog 55 #[.agg #[.int .i64 k, .int .i64 c, .int .i64 f]] w fun e w' => e = .returned (.bool (decide (c = 0 ∧ f = 1))) ∧ Below w.heap.size w w' := by
  go_enter Try.func55, Try.ntmps55
  go_wp2
  all_goals (go_ret; refine ⟨ret_bool ?_, by (repeat (first | exact Below.refl _ _ | assumption | refine Below.drew ?_ | refine below_drewN ?_ _ | refine balloc ?_ _ | refine Below.setCell ?_ (by first | (simp; done) | (simp; omega) | omega) _ | refine bchain (by assumption) ?_))⟩; rw [Bool.eq_iff_iff]; simp; try omega)

/-! ### header.Valid -/
theorem kinds_f (w : World) (s : ByteArray) (n : Nat) : (Instr.field 90 (.agg #[.string s, .func (Fn.func n) #[] #[]]) 1).run Try.prog w = .ok (.func (Fn.func n) #[] #[]) w := by kernel_rfl
theorem kinds_n (w : World) (s : ByteArray) (n : Nat) : (Instr.field 90 (.agg #[.string s, .func (Fn.func n) #[] #[]]) 0).run Try.prog w = .ok (.string s) w := by kernel_rfl
theorem kinds_i0 (w : World) : (Instr.index 91 kindsV (.int .i64 0)).run Try.prog w = .ok (.agg #[.string { data := #[114, 101, 99, 111, 114, 100] }, .func (Fn.func 52) #[] #[]]) w := by kernel_rfl
theorem kinds_i1 (w : World) : (Instr.index 91 kindsV (.int .i64 1)).run Try.prog w = .ok (.agg #[.string { data := #[97, 99, 116, 111, 114] }, .func (Fn.func 54) #[] #[]]) w := by kernel_rfl
theorem kinds_i2 (w : World) : (Instr.index 91 kindsV (.int .i64 2)).run Try.prog w = .ok (.agg #[.string { data := #[119, 101, 97, 107] }, .func (Fn.func 55) #[] #[]]) w := by kernel_rfl
theorem kinds_i3 (w : World) : (Instr.index 91 kindsV (.int .i64 3)).run Try.prog w = .ok (.agg #[.string { data := #[115, 116, 117, 98] }, .func (Fn.func 53) #[] #[]]) w := by kernel_rfl
theorem kinds_i4 (w : World) : (Instr.index 91 kindsV (.int .i64 4)).run Try.prog w = .ok (.agg #[.string { data := #[102, 111, 114, 119, 97, 114, 100] }, .func (Fn.func 53) #[] #[]]) w := by kernel_rfl
set_option maxRecDepth 100000 in
theorem valid_0 (c f : Int) (w : World) :
    Calls Try.prog 46 #[.agg #[.int .i64 0, .int .i64 c, .int .i64 f]] w fun e w' => e = .returned (.bool (hvB 0 c f)) ∧ Below w.heap.size w w' := by
  have i0 := kinds_i0
  have i1 := kinds_f
  go_enter Try.func46, Try.ntmps46
  go_wp2
  have h0 : ∀ x, (over (w.alloc (.cells #[.int .i64 0, .int .i64 c, .int .i64 f] 29)) x).cell? ⟨w.heap.size, 0, none⟩ = some (.int .i64 0) := over_cell (by simp)
  have h1 : ∀ x, (over (w.alloc (.cells #[.int .i64 0, .int .i64 c, .int .i64 f] 29)) x).cell? ⟨w.heap.size, 1, none⟩ = some (.int .i64 c) := over_cell (by simp)
  have h2 : ∀ x, (over (w.alloc (.cells #[.int .i64 0, .int .i64 c, .int .i64 f] 29)) x).cell? ⟨w.heap.size, 2, none⟩ = some (.int .i64 f) := over_cell (by simp)
  (refine wp_region_over (by kernel_rfl) (by kernel_rfl) ?_); (repeat (go_big_quiet_step ((first | (go_at_call 49; exact calls_over (kinds_any _)) | (go_at_call 52; exact calls_over (kinds1_any 0 c f _)))))); (refine wpQuiet_nil ?_)
  intro w2 hb2
  go_wp2
  go_ret
  refine ⟨ret_bool ?_, by (repeat (first | exact Below.refl _ _ | assumption | refine Below.drew ?_ | refine below_drewN ?_ _ | refine balloc ?_ _ | refine Below.setCell ?_ (by first | (simp; done) | (simp; omega) | omega) _ | refine bchain (by assumption) ?_))⟩
  unfold hvB
  rw [Bool.eq_iff_iff]
  simp [wthB]
  try omega
set_option maxRecDepth 100000 in
theorem valid_1 (c f : Int) (w : World) :
    Calls Try.prog 46 #[.agg #[.int .i64 1, .int .i64 c, .int .i64 f]] w fun e w' => e = .returned (.bool (hvB 1 c f)) ∧ Below w.heap.size w w' := by
  have i0 := kinds_i1
  have i1 := kinds_f
  go_enter Try.func46, Try.ntmps46
  go_wp2
  have h0 : ∀ x, (over (w.alloc (.cells #[.int .i64 1, .int .i64 c, .int .i64 f] 29)) x).cell? ⟨w.heap.size, 0, none⟩ = some (.int .i64 1) := over_cell (by simp)
  have h1 : ∀ x, (over (w.alloc (.cells #[.int .i64 1, .int .i64 c, .int .i64 f] 29)) x).cell? ⟨w.heap.size, 1, none⟩ = some (.int .i64 c) := over_cell (by simp)
  have h2 : ∀ x, (over (w.alloc (.cells #[.int .i64 1, .int .i64 c, .int .i64 f] 29)) x).cell? ⟨w.heap.size, 2, none⟩ = some (.int .i64 f) := over_cell (by simp)
  (refine wp_region_over (by kernel_rfl) (by kernel_rfl) ?_); (repeat (go_big_quiet_step ((first | (go_at_call 49; exact calls_over (kinds_any _)) | (go_at_call 54; exact calls_over (kinds2_any 1 c f _)))))); (refine wpQuiet_nil ?_)
  intro w2 hb2
  go_wp2
  go_ret
  refine ⟨ret_bool ?_, by (repeat (first | exact Below.refl _ _ | assumption | refine Below.drew ?_ | refine below_drewN ?_ _ | refine balloc ?_ _ | refine Below.setCell ?_ (by first | (simp; done) | (simp; omega) | omega) _ | refine bchain (by assumption) ?_))⟩
  unfold hvB
  rw [Bool.eq_iff_iff]
  simp [wthB]
  try omega
set_option maxRecDepth 100000 in
theorem valid_2 (c f : Int) (w : World) :
    Calls Try.prog 46 #[.agg #[.int .i64 2, .int .i64 c, .int .i64 f]] w fun e w' => e = .returned (.bool (hvB 2 c f)) ∧ Below w.heap.size w w' := by
  have i0 := kinds_i2
  have i1 := kinds_f
  go_enter Try.func46, Try.ntmps46
  go_wp2
  have h0 : ∀ x, (over (w.alloc (.cells #[.int .i64 2, .int .i64 c, .int .i64 f] 29)) x).cell? ⟨w.heap.size, 0, none⟩ = some (.int .i64 2) := over_cell (by simp)
  have h1 : ∀ x, (over (w.alloc (.cells #[.int .i64 2, .int .i64 c, .int .i64 f] 29)) x).cell? ⟨w.heap.size, 1, none⟩ = some (.int .i64 c) := over_cell (by simp)
  have h2 : ∀ x, (over (w.alloc (.cells #[.int .i64 2, .int .i64 c, .int .i64 f] 29)) x).cell? ⟨w.heap.size, 2, none⟩ = some (.int .i64 f) := over_cell (by simp)
  (refine wp_region_over (by kernel_rfl) (by kernel_rfl) ?_); (repeat (go_big_quiet_step ((first | (go_at_call 49; exact calls_over (kinds_any _)) | (go_at_call 55; exact calls_over (kinds3_any 2 c f _)))))); (refine wpQuiet_nil ?_)
  intro w2 hb2
  go_wp2
  go_ret
  refine ⟨ret_bool ?_, by (repeat (first | exact Below.refl _ _ | assumption | refine Below.drew ?_ | refine below_drewN ?_ _ | refine balloc ?_ _ | refine Below.setCell ?_ (by first | (simp; done) | (simp; omega) | omega) _ | refine bchain (by assumption) ?_))⟩
  unfold hvB
  rw [Bool.eq_iff_iff]
  simp [wthB]
  try omega
set_option maxRecDepth 100000 in
theorem valid_3 (c f : Int) (w : World) :
    Calls Try.prog 46 #[.agg #[.int .i64 3, .int .i64 c, .int .i64 f]] w fun e w' => e = .returned (.bool (hvB 3 c f)) ∧ Below w.heap.size w w' := by
  have i0 := kinds_i3
  have i1 := kinds_f
  go_enter Try.func46, Try.ntmps46
  go_wp2
  have h0 : ∀ x, (over (w.alloc (.cells #[.int .i64 3, .int .i64 c, .int .i64 f] 29)) x).cell? ⟨w.heap.size, 0, none⟩ = some (.int .i64 3) := over_cell (by simp)
  have h1 : ∀ x, (over (w.alloc (.cells #[.int .i64 3, .int .i64 c, .int .i64 f] 29)) x).cell? ⟨w.heap.size, 1, none⟩ = some (.int .i64 c) := over_cell (by simp)
  have h2 : ∀ x, (over (w.alloc (.cells #[.int .i64 3, .int .i64 c, .int .i64 f] 29)) x).cell? ⟨w.heap.size, 2, none⟩ = some (.int .i64 f) := over_cell (by simp)
  (refine wp_region_over (by kernel_rfl) (by kernel_rfl) ?_); (repeat (go_big_quiet_step ((first | (go_at_call 49; exact calls_over (kinds_any _)) | (go_at_call 53; exact calls_over (within_any 3 c f _)))))); (refine wpQuiet_nil ?_)
  intro w2 hb2
  go_wp2
  go_ret
  refine ⟨ret_bool ?_, by (repeat (first | exact Below.refl _ _ | assumption | refine Below.drew ?_ | refine below_drewN ?_ _ | refine balloc ?_ _ | refine Below.setCell ?_ (by first | (simp; done) | (simp; omega) | omega) _ | refine bchain (by assumption) ?_))⟩
  unfold hvB
  rw [Bool.eq_iff_iff]
  simp [wthB]
  try omega
set_option maxRecDepth 100000 in
theorem valid_4 (c f : Int) (w : World) :
    Calls Try.prog 46 #[.agg #[.int .i64 4, .int .i64 c, .int .i64 f]] w fun e w' => e = .returned (.bool (hvB 4 c f)) ∧ Below w.heap.size w w' := by
  have i0 := kinds_i4
  have i1 := kinds_f
  go_enter Try.func46, Try.ntmps46
  go_wp2
  have h0 : ∀ x, (over (w.alloc (.cells #[.int .i64 4, .int .i64 c, .int .i64 f] 29)) x).cell? ⟨w.heap.size, 0, none⟩ = some (.int .i64 4) := over_cell (by simp)
  have h1 : ∀ x, (over (w.alloc (.cells #[.int .i64 4, .int .i64 c, .int .i64 f] 29)) x).cell? ⟨w.heap.size, 1, none⟩ = some (.int .i64 c) := over_cell (by simp)
  have h2 : ∀ x, (over (w.alloc (.cells #[.int .i64 4, .int .i64 c, .int .i64 f] 29)) x).cell? ⟨w.heap.size, 2, none⟩ = some (.int .i64 f) := over_cell (by simp)
  (refine wp_region_over (by kernel_rfl) (by kernel_rfl) ?_); (repeat (go_big_quiet_step ((first | (go_at_call 49; exact calls_over (kinds_any _)) | (go_at_call 53; exact calls_over (within_any 4 c f _)))))); (refine wpQuiet_nil ?_)
  intro w2 hb2
  go_wp2
  go_ret
  refine ⟨ret_bool ?_, by (repeat (first | exact Below.refl _ _ | assumption | refine Below.drew ?_ | refine below_drewN ?_ _ | refine balloc ?_ _ | refine Below.setCell ?_ (by first | (simp; done) | (simp; omega) | omega) _ | refine bchain (by assumption) ?_))⟩
  unfold hvB
  rw [Bool.eq_iff_iff]
  simp [wthB]
  try omega
end Go.Proofs.Ytafailcjdkmdhaa
