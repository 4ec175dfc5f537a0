/-
  The contracts of packages header and refmeshref05: Encode, Words, Decode, Change, the identities.
-/
import Derived.Test.YtafailcjdkmdhaaHdr2
namespace Go.Proofs.Ytafailcjdkmdhaa
open Go.RowKit
set_option linter.unusedSimpArgs false
set_option linter.unusedVariables false

/-- What the walk needs of a valid header. -/
theorem hv_bd {k c f : Int} (h : hvB k c f = true) : (0 ≤ k ∧ k ≤ 4) ∧ (0 ≤ c ∧ c ≤ 60) ∧ 0 ≤ f ∧ f ≤ 30 := by
  have := hvB_iff.1 h
  omega

/-! ### header.Encode, header.Words -/
theorem encode_no (k c f : Int) (h : hvB k c f = false) (w : World) :
    Calls Try.prog 32 #[.agg #[.int .i64 k, .int .i64 c, .int .i64 f]] w fun e w' => e = .returned (.tuple #[.int .u64 0, .int .i64 1]) ∧ Below w.heap.size w w' := by
  have H := Lib.hid h
  clear h
  have hv := fun W => (valid_any k c f W)
  simp only [H.out] at hv
  go_enter Try.func32, Try.ntmps32
  go_wp2_with (go_at_call 46; refine (hv _).mono ?_; rintro e w' ⟨rfl, hb⟩; obtain ⟨hce, hfr, hsz⟩ := bcell hb)
  go_ret2
  exact ⟨rfl, by (repeat (first | exact Below.refl _ _ | assumption | refine Below.drew ?_ | refine below_drewN ?_ _ | refine balloc ?_ _ | refine Below.setCell ?_ (by first | (simp; done) | (simp; omega) | omega) _ | refine bchain (by assumption) ?_))⟩
theorem encode_yes (k c f : Int) (h : hvB k c f = true) (w : World) :
    Calls Try.prog 32 #[.agg #[.int .i64 k, .int .i64 c, .int .i64 f]] w fun e w' => e = .returned (.tuple #[.int .u64 (encI k c f), .int .i64 0]) ∧ Below w.heap.size w w' := by
  have H := Lib.hid h
  obtain ⟨⟨k0, k1⟩, ⟨c0, c1⟩, f0, f1⟩ := hv_bd h
  clear h
  have hv := fun W => (valid_any k c f W)
  simp only [H.out] at hv
  go_enter Try.func32, Try.ntmps32
  go_wp2_with (go_at_call 46; refine (hv _).mono ?_; rintro e w' ⟨rfl, hb⟩; obtain ⟨hce, hfr, hsz⟩ := bcell hb)
  go_ret2
  exact ⟨ret_two (by first | exact or_enc H.out | (unfold encI; omega)) rfl, by (repeat (first | exact Below.refl _ _ | assumption | refine Below.drew ?_ | refine below_drewN ?_ _ | refine balloc ?_ _ | refine Below.setCell ?_ (by first | (simp; done) | (simp; omega) | omega) _ | refine bchain (by assumption) ?_))⟩
theorem words_no (k c f : Int) (h : hvB k c f = false) (w : World) :
    Calls Try.prog 34 #[.agg #[.int .i64 k, .int .i64 c, .int .i64 f]] w fun e w' => e = .returned (.int .i64 0) ∧ Below w.heap.size w w' := by
  have H := Lib.hid h
  clear h
  have hv := fun W => (valid_any k c f W)
  simp only [H.out] at hv
  go_enter Try.func34, Try.ntmps34
  go_wp2_with (go_at_call 46; refine (hv _).mono ?_; rintro e w' ⟨rfl, hb⟩; obtain ⟨hce, hfr, hsz⟩ := bcell hb)
  go_ret
  exact ⟨rfl, by (repeat (first | exact Below.refl _ _ | assumption | refine Below.drew ?_ | refine below_drewN ?_ _ | refine balloc ?_ _ | refine Below.setCell ?_ (by first | (simp; done) | (simp; omega) | omega) _ | refine bchain (by assumption) ?_))⟩
theorem words_yes (k c f : Int) (h : hvB k c f = true) (w : World) :
    Calls Try.prog 34 #[.agg #[.int .i64 k, .int .i64 c, .int .i64 f]] w fun e w' => e = .returned (.int .i64 (wordsI f)) ∧ Below w.heap.size w w' := by
  have H := Lib.hid h
  obtain ⟨⟨k0, k1⟩, ⟨c0, c1⟩, f0, f1⟩ := hv_bd h
  clear h
  have hv := fun W => (valid_any k c f W)
  simp only [H.out] at hv
  go_enter Try.func34, Try.ntmps34
  go_wp2_with (go_at_call 46; refine (hv _).mono ?_; rintro e w' ⟨rfl, hb⟩; obtain ⟨hce, hfr, hsz⟩ := bcell hb)
  all_goals (go_ret; refine ⟨ret_int ?_, by (repeat (first | exact Below.refl _ _ | assumption | refine Below.drew ?_ | refine below_drewN ?_ _ | refine balloc ?_ _ | refine Below.setCell ?_ (by first | (simp; done) | (simp; omega) | omega) _ | refine bchain (by assumption) ?_))⟩; unfold wordsI; first | (split <;> omega) | omega)

/-! ### refmeshref05.Encode, refmeshref05.Words -/
theorem rencode_no (k c f : Int) (h : hvB k c f = false) (w : World) :
    Calls Try.prog 39 #[.agg #[.int .i64 k, .int .i64 c, .int .i64 f]] w fun e w' => e = .returned (.tuple #[.int .u64 0, .int .i64 1]) ∧ Below w.heap.size w w' := by
  have H := Lib.hid h
  clear h
  have hv := fun W => (rvalid_any k c f W)
  simp only [H.out] at hv
  go_enter Try.func39, Try.ntmps39
  go_wp2_with (go_at_call 31; refine (hv _).mono ?_; rintro e w' ⟨rfl, hb⟩; obtain ⟨hce, hfr, hsz⟩ := bcell hb)
  go_ret2
  exact ⟨rfl, by (repeat (first | exact Below.refl _ _ | assumption | refine Below.drew ?_ | refine below_drewN ?_ _ | refine balloc ?_ _ | refine Below.setCell ?_ (by first | (simp; done) | (simp; omega) | omega) _ | refine bchain (by assumption) ?_))⟩
theorem rencode_yes (k c f : Int) (h : hvB k c f = true) (w : World) :
    Calls Try.prog 39 #[.agg #[.int .i64 k, .int .i64 c, .int .i64 f]] w fun e w' => e = .returned (.tuple #[.int .u64 (encI k c f), .int .i64 0]) ∧ Below w.heap.size w w' := by
  have H := Lib.hid h
  obtain ⟨⟨k0, k1⟩, ⟨c0, c1⟩, f0, f1⟩ := hv_bd h
  clear h
  have hv := fun W => (rvalid_any k c f W)
  simp only [H.out] at hv
  go_enter Try.func39, Try.ntmps39
  go_wp2_with (go_at_call 31; refine (hv _).mono ?_; rintro e w' ⟨rfl, hb⟩; obtain ⟨hce, hfr, hsz⟩ := bcell hb)
  go_ret2
  exact ⟨ret_two (by first | exact or_enc H.out | (unfold encI; omega)) rfl, by (repeat (first | exact Below.refl _ _ | assumption | refine Below.drew ?_ | refine below_drewN ?_ _ | refine balloc ?_ _ | refine Below.setCell ?_ (by first | (simp; done) | (simp; omega) | omega) _ | refine bchain (by assumption) ?_))⟩
theorem rwords_no (k c f : Int) (h : hvB k c f = false) (w : World) :
    Calls Try.prog 12 #[.agg #[.int .i64 k, .int .i64 c, .int .i64 f]] w fun e w' => e = .returned (.int .i64 0) ∧ Below w.heap.size w w' := by
  have H := Lib.hid h
  clear h
  have hv := fun W => (rvalid_any k c f W)
  simp only [H.out] at hv
  go_enter Try.func12, Try.ntmps12
  go_wp2_with (go_at_call 31; refine (hv _).mono ?_; rintro e w' ⟨rfl, hb⟩; obtain ⟨hce, hfr, hsz⟩ := bcell hb)
  go_ret
  exact ⟨rfl, by (repeat (first | exact Below.refl _ _ | assumption | refine Below.drew ?_ | refine below_drewN ?_ _ | refine balloc ?_ _ | refine Below.setCell ?_ (by first | (simp; done) | (simp; omega) | omega) _ | refine bchain (by assumption) ?_))⟩
theorem rwords_yes (k c f : Int) (h : hvB k c f = true) (w : World) :
    Calls Try.prog 12 #[.agg #[.int .i64 k, .int .i64 c, .int .i64 f]] w fun e w' => e = .returned (.int .i64 (wordsI f)) ∧ Below w.heap.size w w' := by
  have H := Lib.hid h
  obtain ⟨⟨k0, k1⟩, ⟨c0, c1⟩, f0, f1⟩ := hv_bd h
  clear h
  have hv := fun W => (rvalid_any k c f W)
  simp only [H.out] at hv
  go_enter Try.func12, Try.ntmps12
  go_wp2_with (go_at_call 31; refine (hv _).mono ?_; rintro e w' ⟨rfl, hb⟩; obtain ⟨hce, hfr, hsz⟩ := bcell hb)
  all_goals (go_ret; refine ⟨ret_int ?_, by (repeat (first | exact Below.refl _ _ | assumption | refine Below.drew ?_ | refine below_drewN ?_ _ | refine balloc ?_ _ | refine Below.setCell ?_ (by first | (simp; done) | (simp; omega) | omega) _ | refine bchain (by assumption) ?_))⟩; unfold wordsI; first | (split <;> omega) | omega)
end Go.Proofs.Ytafailcjdkmdhaa
