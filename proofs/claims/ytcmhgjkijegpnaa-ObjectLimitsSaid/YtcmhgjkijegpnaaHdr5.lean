/-
  The contracts of packages header and refmeshref05: Change and KindName.
-/
import Derived.Test.YtcmhgjkijegpnaaHdr4
namespace Go.Proofs.Ytcmhgjkijegpnaa
open Go.RowKit
set_option linter.unusedSimpArgs false
set_option linter.unusedVariables false

theorem hvB_change {n k : Int} (h : decB n = true) (hk : k = 3 ∨ k = 4) : hvB k (decC n) (decF n) = true := by
  have := hvB_iff.1 (decB_iff.1 h).1
  exact hvB_iff.2 (by omega)

/-! ### header.Change -/
set_option maxRecDepth 100000 in
theorem change_yes (n k : Int) (hn : U64 n) (h : decB n = true) (hk : k = 3 ∨ k = 4) (w : World) :
    Calls Try.prog 81 #[.int .u64 n, .int .i64 k] w fun e w' => e = .returned (.tuple #[.int .u64 (encI k (decC n) (decF n)), .int .i64 0]) ∧ Below w.heap.size w w' := by
  have hv := fun W => decode_yes n hn h W
  have he := fun W => encode_yes _ _ _ (hvB_change h hk) W
  generalize decC n = c at *
  generalize decF n = f at *
  clear hn h
  rcases hk with rfl | rfl
  all_goals
    go_enter Try.func81, Try.ntmps81
    go_wp2_with (first | (go_at_call 49; refine (hv _).mono ?_; rintro e w' ⟨rfl, hb⟩; obtain ⟨hce, hfr, hsz⟩ := bcell hb) | (go_at_call 40; refine (he _).mono ?_; rintro e w'' ⟨rfl, hb'⟩; obtain ⟨hce', hfr', hsz'⟩ := bcell hb'))
    go_ret2
    exact ⟨rfl, by (repeat (first | exact Below.refl _ _ | assumption | refine Below.drew ?_ | refine below_drewN ?_ _ | refine balloc ?_ _ | refine Below.setCell ?_ (by first | (simp; done) | (simp; omega) | omega) _ | refine bchain (by assumption) ?_))⟩
set_option maxRecDepth 100000 in
theorem change_arg (n k : Int) (hn : U64 n) (h : decB n = true) (h3 : k ≠ 3) (h4 : k ≠ 4) (w : World) :
    Calls Try.prog 81 #[.int .u64 n, .int .i64 k] w fun e w' => e = .returned (.tuple #[.int .u64 0, .int .i64 1]) ∧ Below w.heap.size w w' := by
  have hv := fun W => decode_yes n hn h W
  generalize decC n = c at *
  generalize decF n = f at *
  clear hn h
  have g3 : (k != 3) = true := by simpa using h3
  have g4 : (k != 4) = true := by simpa using h4
  clear h3 h4
  go_enter Try.func81, Try.ntmps81
  go_wp2_with (first | (go_at_call 49; refine (hv _).mono ?_; rintro e w' ⟨rfl, hb⟩; obtain ⟨hce, hfr, hsz⟩ := bcell hb))
  go_ret2
  exact ⟨rfl, by (repeat (first | exact Below.refl _ _ | assumption | refine Below.drew ?_ | refine below_drewN ?_ _ | refine balloc ?_ _ | refine Below.setCell ?_ (by first | (simp; done) | (simp; omega) | omega) _ | refine bchain (by assumption) ?_))⟩
set_option maxRecDepth 100000 in
theorem change_no (n k : Int) (hn : U64 n) (h : decB n = false) (w : World) :
    Calls Try.prog 81 #[.int .u64 n, .int .i64 k] w fun e w' => e = .returned (.tuple #[.int .u64 0, .int .i64 11]) ∧ Below w.heap.size w w' := by
  have hv := fun W => decode_no n hn h W
  clear hn h
  go_enter Try.func81, Try.ntmps81
  go_wp2_with (first | (go_at_call 49; refine (hv _).mono ?_; rintro e w' ⟨rfl, hb⟩; obtain ⟨hce, hfr, hsz⟩ := bcell hb))
  go_ret2
  exact ⟨rfl, by (repeat (first | exact Below.refl _ _ | assumption | refine Below.drew ?_ | refine below_drewN ?_ _ | refine balloc ?_ _ | refine Below.setCell ?_ (by first | (simp; done) | (simp; omega) | omega) _ | refine bchain (by assumption) ?_))⟩

/-! ### refmeshref05.Change -/
set_option maxRecDepth 100000 in
theorem rchange_yes (n k : Int) (hn : U64 n) (h : decB n = true) (hk : k = 3 ∨ k = 4) (w : World) :
    Calls Try.prog 88 #[.int .u64 n, .int .i64 k] w fun e w' => e = .returned (.tuple #[.int .u64 (encI k (decC n) (decF n)), .int .i64 0]) ∧ Below w.heap.size w w' := by
  have hv := fun W => rdecode_yes n hn h W
  have he := fun W => rencode_yes _ _ _ (hvB_change h hk) W
  generalize decC n = c at *
  generalize decF n = f at *
  clear hn h
  rcases hk with rfl | rfl
  all_goals
    go_enter Try.func88, Try.ntmps88
    go_wp2_with (first | (go_at_call 66; refine (hv _).mono ?_; rintro e w' ⟨rfl, hb⟩; obtain ⟨hce, hfr, hsz⟩ := bcell hb) | (go_at_call 77; refine (he _).mono ?_; rintro e w'' ⟨rfl, hb'⟩; obtain ⟨hce', hfr', hsz'⟩ := bcell hb'))
    go_ret2
    exact ⟨rfl, by (repeat (first | exact Below.refl _ _ | assumption | refine Below.drew ?_ | refine below_drewN ?_ _ | refine balloc ?_ _ | refine Below.setCell ?_ (by first | (simp; done) | (simp; omega) | omega) _ | refine bchain (by assumption) ?_))⟩
set_option maxRecDepth 100000 in
theorem rchange_arg (n k : Int) (hn : U64 n) (h : decB n = true) (h3 : k ≠ 3) (h4 : k ≠ 4) (w : World) :
    Calls Try.prog 88 #[.int .u64 n, .int .i64 k] w fun e w' => e = .returned (.tuple #[.int .u64 0, .int .i64 1]) ∧ Below w.heap.size w w' := by
  have hv := fun W => rdecode_yes n hn h W
  generalize decC n = c at *
  generalize decF n = f at *
  clear hn h
  have g3 : (k != 3) = true := by simpa using h3
  have g4 : (k != 4) = true := by simpa using h4
  clear h3 h4
  go_enter Try.func88, Try.ntmps88
  go_wp2_with (first | (go_at_call 66; refine (hv _).mono ?_; rintro e w' ⟨rfl, hb⟩; obtain ⟨hce, hfr, hsz⟩ := bcell hb))
  go_ret2
  exact ⟨rfl, by (repeat (first | exact Below.refl _ _ | assumption | refine Below.drew ?_ | refine below_drewN ?_ _ | refine balloc ?_ _ | refine Below.setCell ?_ (by first | (simp; done) | (simp; omega) | omega) _ | refine bchain (by assumption) ?_))⟩
set_option maxRecDepth 100000 in
theorem rchange_no (n k : Int) (hn : U64 n) (h : decB n = false) (w : World) :
    Calls Try.prog 88 #[.int .u64 n, .int .i64 k] w fun e w' => e = .returned (.tuple #[.int .u64 0, .int .i64 11]) ∧ Below w.heap.size w w' := by
  have hv := fun W => rdecode_no n hn h W
  clear hn h
  go_enter Try.func88, Try.ntmps88
  go_wp2_with (first | (go_at_call 66; refine (hv _).mono ?_; rintro e w' ⟨rfl, hb⟩; obtain ⟨hce, hfr, hsz⟩ := bcell hb))
  go_ret2
  exact ⟨rfl, by (repeat (first | exact Below.refl _ _ | assumption | refine Below.drew ?_ | refine below_drewN ?_ _ | refine balloc ?_ _ | refine Below.setCell ?_ (by first | (simp; done) | (simp; omega) | omega) _ | refine bchain (by assumption) ?_))⟩
end Go.Proofs.Ytcmhgjkijegpnaa
