/-
  KindName of packages header and refmeshref05.
-/
import Derived.Test.YtogihldcphgoeaaHdr4
namespace Go.Proofs.Ytogihldcphgoeaa
open Go.RowKit
set_option linter.unusedSimpArgs false
set_option linter.unusedVariables false
def nameB (k : Int) : ByteArray := if k = 0 then { data := #[114, 101, 99, 111, 114, 100] } else if k = 1 then { data := #[97, 99, 116, 111, 114] } else if k = 2 then { data := #[119, 101, 97, 107] } else if k = 3 then { data := #[115, 116, 117, 98] } else if k = 4 then { data := #[102, 111, 114, 119, 97, 114, 100] } else { data := #[] }
theorem nameB_out {k : Int} (h : k < 0 ∨ 5 ≤ k) : nameB k = { data := #[] } := by
  unfold nameB
  rw [if_neg (by omega), if_neg (by omega), if_neg (by omega), if_neg (by omega), if_neg (by omega)]
theorem ret_string {a b : ByteArray} (h : a = b) : Ending.returned (.string a) = .returned (.string b) := by rw [h]
theorem kindName_out (k : Int) (h : k < 0 ∨ 5 ≤ k) (w : World) :
    Calls Try.prog 17 #[.int .i64 k] w fun e w' => e = .returned (.string (nameB k)) ∧ Below w.heap.size w w' := by
  rw [nameB_out h]
  rcases h with h | h
  all_goals
    go_enter Try.func17, Try.ntmps17
    go_wp2_with (first | (go_at_call 27; refine (kinds_any _).mono ?_; rintro e w' ⟨rfl, hb⟩))
    go_ret
    exact ⟨rfl, by (repeat (first | exact Below.refl _ _ | assumption | refine Below.drew ?_ | refine below_drewN ?_ _ | refine balloc ?_ _ | refine Below.setCell ?_ (by first | (simp; done) | (simp; omega) | omega) _ | refine bchain (by assumption) ?_))⟩
theorem kindName_in (k : Int) (h0 : 0 ≤ k) (h5 : k < 5) (w : World) :
    Calls Try.prog 17 #[.int .i64 k] w fun e w' => e = .returned (.string (nameB k)) ∧ Below w.heap.size w w' := by
  have : k = 0 ∨ k = 1 ∨ k = 2 ∨ k = 3 ∨ k = 4 := by omega
  have i0 := kinds_i0
  have i1 := kinds_i1
  have i2 := kinds_i2
  have i3 := kinds_i3
  have i4 := kinds_i4
  have i5 := kinds_n
  clear h0 h5
  rcases this with rfl | rfl | rfl | rfl | rfl
  all_goals
    go_enter Try.func17, Try.ntmps17
    go_wp2_with (first | (go_at_call 27; refine (kinds_any _).mono ?_; rintro e w' ⟨rfl, hb⟩))
    go_ret
    exact ⟨rfl, by (repeat (first | exact Below.refl _ _ | assumption | refine Below.drew ?_ | refine below_drewN ?_ _ | refine balloc ?_ _ | refine Below.setCell ?_ (by first | (simp; done) | (simp; omega) | omega) _ | refine bchain (by assumption) ?_))⟩
theorem kindName_any (k : Int) (w : World) :
    Calls Try.prog 17 #[.int .i64 k] w fun e w' => e = .returned (.string (nameB k)) ∧ Below w.heap.size w w' := by
  by_cases h : k < 0 ∨ 5 ≤ k
  · exact kindName_out k h w
  · exact kindName_in k (by omega) (by omega) w
theorem rkindName_any (k : Int) (w : World) :
    Calls Try.prog 18 #[.int .i64 k] w fun e w' => e = .returned (.string (nameB k)) ∧ Below w.heap.size w w' := by
  go_enter Try.func18, Try.ntmps18
  go_wp2
  all_goals (go_ret; refine ⟨ret_string ?_, by (repeat (first | exact Below.refl _ _ | assumption | refine Below.drew ?_ | refine below_drewN ?_ _ | refine balloc ?_ _ | refine Below.setCell ?_ (by first | (simp; done) | (simp; omega) | omega) _ | refine bchain (by assumption) ?_))⟩; unfold nameB; simp_all; try omega)
end Go.Proofs.Ytogihldcphgoeaa
