/-
  Address words: word.Kind, Address, FromAddress and the reference's.
-/
import Derived.Test.YtcmhgjkijegpnaaObE
namespace Go.Proofs.Ytcmhgjkijegpnaa
open Go.RowKit
set_option linter.unusedSimpArgs false
set_option linter.unusedVariables false

def adB (x : Int) : Bool := decide (x % 4 = 2 ∧ x / 4 ≤ 4294967295)
def adA (x : Int) : Int := if adB x then x / 4 else 0
theorem adB_iff {x : Int} : adB x = true ↔ x % 4 = 2 ∧ x / 4 ≤ 4294967295 := by unfold adB; exact decide_eq_true_iff
theorem and3 {n : Int} (h : U64 n) : bits BinOp.and IntKind.u64 n 3 = n % 4 := by
  obtain ⟨h0, h1⟩ := h
  exact bits_mask .u64 64 (by decide) u64_wraps 2 (by decide) n (by omega) (by omega)
theorem or2 {a : Int} (h0 : 0 ≤ a) (h1 : a ≤ 4294967295) : bits BinOp.or IntKind.u64 (a * 4) 2 = a * 4 + 2 := by
  rw [bits_join .u64 64 (by decide) u64_wraps 2 (a * 4) 2 (by omega) (by omega) (by omega) (by omega) (by omega) (by omega)]
def NotTwo (w : World) (e : Ending) (w' : World) : Prop := ∃ n : Int, (n == 2) = false ∧ e = .returned (.int .i64 n) ∧ Below w.heap.size w w'
theorem kind_addr (x : Int) (hx : U64 x) (h : x % 4 = 2) (g : x / 4 ≤ 4294967295) (w : World) : Calls Try.prog 80 #[.int .u64 x] w fun e w' => e = .returned (.int .i64 2) ∧ Below w.heap.size w w' := by
  have h3 := and3 hx
  have h0 := hx.nonneg
  rw [h] at h3
  have hxz : (x == 0) = false := by simp; omega
  clear h
  clear hx
  go_enter Try.func80, Try.ntmps80
  go_wp2
  go_ret
  exact ⟨rfl, by (repeat (first | exact Below.refl _ _ | assumption | refine Below.drew ?_ | refine below_drewN ?_ _ | refine balloc ?_ _ | refine Below.setCell ?_ (by first | (simp; done) | (simp; omega) | omega) _ | refine bchain (by assumption) ?_))⟩
theorem kind_0z (x : Int) (hx : U64 x) (h : x = 0) (w : World) : Calls Try.prog 80 #[.int .u64 x] w (NotTwo w) := by
  have h3 := and3 hx
  have h0 := hx.nonneg
  subst h
  clear hx
  go_enter Try.func80, Try.ntmps80
  go_wp2
  go_ret
  exact ⟨_, by decide, rfl, by (repeat (first | exact Below.refl _ _ | assumption | refine Below.drew ?_ | refine below_drewN ?_ _ | refine balloc ?_ _ | refine Below.setCell ?_ (by first | (simp; done) | (simp; omega) | omega) _ | refine bchain (by assumption) ?_))⟩
theorem kind_0 (x : Int) (hx : U64 x) (h : x % 4 = 0) (hz : x ≠ 0) (w : World) : Calls Try.prog 80 #[.int .u64 x] w (NotTwo w) := by
  have h3 := and3 hx
  have h0 := hx.nonneg
  rw [h] at h3
  have hxz : (x == 0) = false := by simpa using hz
  clear h hz
  clear hx
  go_enter Try.func80, Try.ntmps80
  go_wp2
  go_ret
  exact ⟨_, by decide, rfl, by (repeat (first | exact Below.refl _ _ | assumption | refine Below.drew ?_ | refine below_drewN ?_ _ | refine balloc ?_ _ | refine Below.setCell ?_ (by first | (simp; done) | (simp; omega) | omega) _ | refine bchain (by assumption) ?_))⟩
theorem kind_1 (x : Int) (hx : U64 x) (h : x % 4 = 1) (w : World) : Calls Try.prog 80 #[.int .u64 x] w (NotTwo w) := by
  have h3 := and3 hx
  have h0 := hx.nonneg
  rw [h] at h3
  clear h
  clear hx
  go_enter Try.func80, Try.ntmps80
  go_wp2
  go_ret
  exact ⟨_, by decide, rfl, by (repeat (first | exact Below.refl _ _ | assumption | refine Below.drew ?_ | refine below_drewN ?_ _ | refine balloc ?_ _ | refine Below.setCell ?_ (by first | (simp; done) | (simp; omega) | omega) _ | refine bchain (by assumption) ?_))⟩
theorem kind_2 (x : Int) (hx : U64 x) (h : x % 4 = 2) (g : 4294967295 < x / 4) (w : World) : Calls Try.prog 80 #[.int .u64 x] w (NotTwo w) := by
  have h3 := and3 hx
  have h0 := hx.nonneg
  rw [h] at h3
  clear h
  clear hx
  go_enter Try.func80, Try.ntmps80
  go_wp2
  go_ret
  exact ⟨_, by decide, rfl, by (repeat (first | exact Below.refl _ _ | assumption | refine Below.drew ?_ | refine below_drewN ?_ _ | refine balloc ?_ _ | refine Below.setCell ?_ (by first | (simp; done) | (simp; omega) | omega) _ | refine bchain (by assumption) ?_))⟩
theorem kind_3 (x : Int) (hx : U64 x) (h : x % 4 = 3) (w : World) : Calls Try.prog 80 #[.int .u64 x] w (NotTwo w) := by
  have h3 := and3 hx
  have h0 := hx.nonneg
  rw [h] at h3
  clear h
  clear hx
  go_enter Try.func80, Try.ntmps80
  go_wp2
  go_ret
  exact ⟨_, by decide, rfl, by (repeat (first | exact Below.refl _ _ | assumption | refine Below.drew ?_ | refine below_drewN ?_ _ | refine balloc ?_ _ | refine Below.setCell ?_ (by first | (simp; done) | (simp; omega) | omega) _ | refine bchain (by assumption) ?_))⟩
theorem kind_not (x : Int) (hx : U64 x) (h : adB x = false) (w : World) : Calls Try.prog 80 #[.int .u64 x] w (NotTwo w) := by
  have hn : ¬ (x % 4 = 2 ∧ x / 4 ≤ 4294967295) := fun h' => by rw [adB_iff.2 h'] at h; cases h
  have h0 := hx.nonneg
  by_cases h2 : x % 4 = 2
  · exact kind_2 x hx h2 (by omega) w
  · by_cases hz : x = 0
    · exact kind_0z x hx hz w
    · by_cases h00 : x % 4 = 0
      · exact kind_0 x hx h00 hz w
      · by_cases h1 : x % 4 = 1
        · exact kind_1 x hx h1 w
        · exact kind_3 x hx (by omega) w
theorem address_any (x : Int) (hx : U64 x) (w : World) : Calls Try.prog 46 #[.int .u64 x] w fun e w' => e = .returned (.tuple #[.int .i64 (adA x), .bool (adB x)]) ∧ Below w.heap.size w w' := by
  unfold adA
  cases h : adB x
  · have hk := fun W => kind_not x hx h W
    have h0 := hx.nonneg
    clear h hx
    go_enter Try.func46, Try.ntmps46
    go_wp2_with fail
    refine (hk _).mono ?_
    rintro e w1 ⟨n, hn, rfl, hb1⟩
    have hn2 : (n != 2) = true := by simpa using hn
    clear hn hk
    go_wp2
    go_ret2
    exact ⟨rfl, by (repeat (first | exact Below.refl _ _ | assumption | refine Below.drew ?_ | refine below_drewN ?_ _ | refine balloc ?_ _ | refine Below.setCell ?_ (by first | (simp; done) | (simp; omega) | omega) _ | refine bchain (by assumption) ?_))⟩
  · obtain ⟨h1, h2⟩ := adB_iff.1 h
    have hk := fun W => kind_addr x hx h1 h2 W
    have h0 := hx.nonneg
    clear h hx h1
    go_enter Try.func46, Try.ntmps46
    go_wp2_with fail
    refine (hk _).mono ?_
    rintro e w1 ⟨rfl, hb1⟩
    clear hk
    go_wp2
    go_ret2
    exact ⟨rfl, by (repeat (first | exact Below.refl _ _ | assumption | refine Below.drew ?_ | refine below_drewN ?_ _ | refine balloc ?_ _ | refine Below.setCell ?_ (by first | (simp; done) | (simp; omega) | omega) _ | refine bchain (by assumption) ?_))⟩
theorem raddress_any (x : Int) (hx : U64 x) (w : World) : Calls Try.prog 72 #[.int .u64 x] w fun e w' => e = .returned (.tuple #[.int .i64 (adA x), .bool (adB x)]) ∧ Below w.heap.size w w' := by
  unfold adA
  have h0 := hx.nonneg
  have hq : IntKind.u64.wrap (x.tdiv 4) = x / 4 := quo_u64 hx (by decide)
  cases h : adB x
  · have hn : ¬ (x % 4 = 2 ∧ x / 4 ≤ 4294967295) := fun h' => by rw [adB_iff.2 h'] at h; cases h
    clear h hx
    by_cases h2 : x % 4 = 2
    · have g : 4294967295 < x / 4 := by omega
      have e1 : (x % 4 != 2) = false := by simpa using h2
      clear hn h2
      go_enter Try.func72, Try.ntmps72
      go_wp2
      go_ret2
      exact ⟨rfl, by (repeat (first | exact Below.refl _ _ | assumption | refine Below.drew ?_ | refine below_drewN ?_ _ | refine balloc ?_ _ | refine Below.setCell ?_ (by first | (simp; done) | (simp; omega) | omega) _ | refine bchain (by assumption) ?_))⟩

    · have e1 : (x % 4 != 2) = true := by simpa using h2
      clear hn h2
      go_enter Try.func72, Try.ntmps72
      go_wp2
      go_ret2
      exact ⟨rfl, by (repeat (first | exact Below.refl _ _ | assumption | refine Below.drew ?_ | refine below_drewN ?_ _ | refine balloc ?_ _ | refine Below.setCell ?_ (by first | (simp; done) | (simp; omega) | omega) _ | refine bchain (by assumption) ?_))⟩

  · obtain ⟨h1, h2⟩ := adB_iff.1 h
    have e1 : (x % 4 != 2) = false := by simpa using h1
    clear h hx h1
    go_enter Try.func72, Try.ntmps72
    go_wp2
    go_ret2
    exact ⟨rfl, by (repeat (first | exact Below.refl _ _ | assumption | refine Below.drew ?_ | refine below_drewN ?_ _ | refine balloc ?_ _ | refine Below.setCell ?_ (by first | (simp; done) | (simp; omega) | omega) _ | refine bchain (by assumption) ?_))⟩

def faE (a : Int) : Int := if 0 ≤ a ∧ a ≤ 4294967295 then 0 else 2
def faW (a : Int) : Int := if 0 ≤ a ∧ a ≤ 4294967295 then a * 4 + 2 else 0
theorem faU (a : Int) : U64 (faW a) := by unfold faW; split <;> exact U64.of (by omega) (by omega)
theorem fromaddr_any (a : Int) (w : World) : Calls Try.prog 54 #[.int .i64 a] w fun e w' => e = .returned (.tuple #[.int .u64 (faW a), .int .i64 (faE a)]) ∧ Below w.heap.size w w' := by
  unfold faE faW
  by_cases h0 : 0 ≤ a
  · by_cases h1 : a ≤ 4294967295
    · rw [if_pos ⟨h0, h1⟩, if_pos ⟨h0, h1⟩]
      have hor := or2 h0 h1
      go_enter Try.func54, Try.ntmps54
      go_wp2
      go_ret2
      exact ⟨rfl, by (repeat (first | exact Below.refl _ _ | assumption | refine Below.drew ?_ | refine below_drewN ?_ _ | refine balloc ?_ _ | refine Below.setCell ?_ (by first | (simp; done) | (simp; omega) | omega) _ | refine bchain (by assumption) ?_))⟩
    · rw [if_neg (fun h => h1 h.2), if_neg (fun h => h1 h.2)]
      go_enter Try.func54, Try.ntmps54
      go_wp2
      go_ret2
      exact ⟨rfl, by (repeat (first | exact Below.refl _ _ | assumption | refine Below.drew ?_ | refine below_drewN ?_ _ | refine balloc ?_ _ | refine Below.setCell ?_ (by first | (simp; done) | (simp; omega) | omega) _ | refine bchain (by assumption) ?_))⟩
  · rw [if_neg (fun h => h0 h.1), if_neg (fun h => h0 h.1)]
    go_enter Try.func54, Try.ntmps54
    go_wp2
    go_ret2
    exact ⟨rfl, by (repeat (first | exact Below.refl _ _ | assumption | refine Below.drew ?_ | refine below_drewN ?_ _ | refine balloc ?_ _ | refine Below.setCell ?_ (by first | (simp; done) | (simp; omega) | omega) _ | refine bchain (by assumption) ?_))⟩

theorem rfromaddr_any (a : Int) (w : World) : Calls Try.prog 83 #[.int .i64 a] w fun e w' => e = .returned (.tuple #[.int .u64 (faW a), .int .i64 (faE a)]) ∧ Below w.heap.size w w' := by
  unfold faE faW
  by_cases h0 : 0 ≤ a
  · by_cases h1 : a ≤ 4294967295
    · rw [if_pos ⟨h0, h1⟩, if_pos ⟨h0, h1⟩]
      go_enter Try.func83, Try.ntmps83
      go_wp2
      go_ret2
      exact ⟨rfl, by (repeat (first | exact Below.refl _ _ | assumption | refine Below.drew ?_ | refine below_drewN ?_ _ | refine balloc ?_ _ | refine Below.setCell ?_ (by first | (simp; done) | (simp; omega) | omega) _ | refine bchain (by assumption) ?_))⟩
    · rw [if_neg (fun h => h1 h.2), if_neg (fun h => h1 h.2)]
      go_enter Try.func83, Try.ntmps83
      go_wp2
      go_ret2
      exact ⟨rfl, by (repeat (first | exact Below.refl _ _ | assumption | refine Below.drew ?_ | refine below_drewN ?_ _ | refine balloc ?_ _ | refine Below.setCell ?_ (by first | (simp; done) | (simp; omega) | omega) _ | refine bchain (by assumption) ?_))⟩
  · rw [if_neg (fun h => h0 h.1), if_neg (fun h => h0 h.1)]
    go_enter Try.func83, Try.ntmps83
    go_wp2
    go_ret2
    exact ⟨rfl, by (repeat (first | exact Below.refl _ _ | assumption | refine Below.drew ?_ | refine below_drewN ?_ _ | refine balloc ?_ _ | refine Below.setCell ?_ (by first | (simp; done) | (simp; omega) | omega) _ | refine bchain (by assumption) ?_))⟩

end Go.Proofs.Ytcmhgjkijegpnaa
