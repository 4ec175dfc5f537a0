/-
  The contracts of Truncate at every input.
-/
import Derived.Test.YtafailcjdkmdhaaAnyA
import Derived.Test.YtafailcjdkmdhaaRTr
namespace Go.Proofs.Ytafailcjdkmdhaa
open Go.RowKit
set_option linter.unusedSimpArgs false
set_option linter.unusedVariables false

/-! ### Truncate -/
theorem SpOk.cut {bs lm : Int} {ws : List Int} (hk : SpOk bs lm ws) (t : Nat) : SpOk bs lm (ws.take t) := by
  obtain ⟨b0, b1, b2, b3⟩ := hk
  refine ⟨b0, ?_, b2, fun x hx => b3 x (List.mem_of_mem_take hx)⟩
  rw [List.length_take]
  omega
open Classical in
noncomputable def trE (bs : Int) (ws : List Int) (x : Int) : Int := if okT bs ws x then 0 else 2
open Classical in
noncomputable def trW (bs : Int) (ws : List Int) (x : Int) : List Int := if okT bs ws x then ws.take (x - bs).toNat else ws
theorem trOk {bs lm : Int} {ws : List Int} (hk : SpOk bs lm ws) (x : Int) : SpOk bs lm (trW bs ws x) := by
  unfold trW
  split
  · exact hk.cut _
  · exact hk
theorem truncate_any {w : World} {b : Nat} {bs lm : Int} {ws : List Int} {g : Option Nat} (h : SpAt w b bs lm ws g) (hk : SpOk bs lm ws) (x : Int) :
    Calls Try.prog 29 #[.pointer (some ⟨b, 0, none⟩), .int .i64 x] w fun e w' => e = .returned (.int .i64 (trE bs ws x)) ∧ SpNext w b bs lm (trW bs ws x) g w' := by
  refine (trunc_any h hk x).mono ?_
  unfold trE trW
  rintro e w' (⟨ho, rfl, h1, h2⟩ | ⟨ho, rfl, hb⟩)
  · rw [if_pos ho, if_pos ho]
    exact ⟨rfl, g, h1, h2.mono (fun k hk => .inl hk), fun _ e => .inl e⟩
  · rw [if_neg ho, if_neg ho]
    exact ⟨rfl, .of_below h hb⟩
theorem rtruncate_any {w : World} {v : Value} {bs lm : Int} {ws : List Int} {g : Option Nat} (h : MdAt w v bs lm ws g) (hk : SpOk bs lm ws) (x : Int) :
    Calls Try.prog 37 #[v, .int .i64 x] w fun e w' => ∃ v', e = .returned (.tuple #[v', .int .i64 (trE bs ws x)]) ∧ MdNext w bs lm (trW bs ws x) g v' w' := by
  unfold trE trW
  by_cases ho : okT bs ws x
  · rw [if_pos ho, if_pos ho]
    obtain ⟨h0, h1⟩ := okT_bd ho
    obtain ⟨t, rfl⟩ : ∃ t : Nat, x = bs + (t : Int) := ⟨(x - bs).toNat, by omega⟩
    rw [show (bs + (t : Int) - bs).toNat = t by omega]
    refine (rtrunc_ok h hk t (by omega) ho).mono ?_
    rintro e w' ⟨v', g', rfl, h1, h2, h3⟩
    exact ⟨_, rfl, g', h1, fun G e => .inr (h2 G e), h3⟩
  · rw [if_neg ho, if_neg ho]
    refine (rtrunc_no h hk x ho).mono ?_
    rintro e w' ⟨rfl, hb⟩
    exact ⟨_, rfl, .of_below h hb⟩
end Go.Proofs.Ytafailcjdkmdhaa
