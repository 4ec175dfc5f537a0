/-
  The contracts of refmeshref06: New, Top, Contains.
-/
import Derived.Test.YtafailcjdkmdhaaPl
import Derived.Test.YtafailcjdkmdhaaInts
namespace Go.Proofs.Ytafailcjdkmdhaa
open Go.RowKit
set_option linter.unusedSimpArgs false
set_option linter.unusedVariables false

/-- A space of the reference, as a value. -/
def MdAt (w : World) (v : Value) (bs lm : Int) (ws : List Int) (g : Option Nat) : Prop :=
  ∃ (a : Option Addr) (cap : Nat), v = .agg #[.int .i64 bs, .int .i64 lm, .slice a ws.length cap] ∧ RowAt w a cap ws g
theorem MdAt.below {w w' : World} {v : Value} {bs lm : Int} {ws : List Int} {g : Option Nat} (h : MdAt w v bs lm ws g) (hb : Below w.heap.size w w') : MdAt w' v bs lm ws g := by
  obtain ⟨a, cap, hv, hr⟩ := h
  exact ⟨a, cap, hv, hr.keep (fun _ _ _ => bblock hb)⟩
theorem MdAt.mods {S : Nat → Prop} {w w' : World} {v : Value} {bs lm : Int} {ws : List Int} {g : Option Nat} (h : MdAt w v bs lm ws g) (hb : Mods S w w') (hg : ∀ G, g = some G → ¬ S G) : MdAt w' v bs lm ws g := by
  obtain ⟨a, cap, hv, hr⟩ := h
  exact ⟨a, cap, hv, hr.keep (fun _ _ e ho => mblock hb ho (hg _ e))⟩
theorem rnew_any (bs lm : Int) (w : World) :
    Calls Try.prog 16 #[.int .i64 bs, .int .i64 lm] w fun e w' => (∃ v, e = .returned v ∧ MdAt w' v (max bs 0) (newLm bs lm) [] none) ∧ Below w.heap.size w w' := by
  have h0 : MdAt w (.agg #[.int .i64 (max bs 0), .int .i64 (newLm bs lm), .slice none 0 0]) (max bs 0) (newLm bs lm) [] none := ⟨none, 0, rfl, by simp, by omega, .inl ⟨rfl, rfl⟩⟩
  obtain ⟨B, hB⟩ : ∃ B, B = max bs 0 := ⟨_, rfl⟩
  obtain ⟨L, hL⟩ : ∃ L, L = newLm bs lm := ⟨_, rfl⟩
  rw [← hB, ← hL] at h0 ⊢
  have HB := Lib.hid hB
  have HL := Lib.hid hL
  clear hB hL
  go_enter Try.func16, Try.ntmps16
  go_wp2
  all_goals
    refine bodyPost_ret (v := .agg #[.int .i64 B, .int .i64 L, .slice none 0 0]) ?_ rfl ⟨⟨_, rfl, h0.below (by (repeat (first | exact Below.refl _ _ | assumption | refine Below.drew ?_ | refine below_drewN ?_ _ | refine balloc ?_ _ | refine Below.setCell ?_ (by first | (simp; done) | (simp; omega) | omega) _ | refine bchain (by assumption) ?_)))⟩, by (repeat (first | exact Below.refl _ _ | assumption | refine Below.drew ?_ | refine below_drewN ?_ _ | refine balloc ?_ _ | refine Below.setCell ?_ (by first | (simp; done) | (simp; omega) | omega) _ | refine bchain (by assumption) ?_))⟩
    have hB := HB.out
    have hL := HL.out
    unfold newLm at hL
    simp [results, Try.results16, go_sem]
    omega
theorem rtop_any {w : World} {v : Value} {bs lm : Int} {ws : List Int} {g : Option Nat} (h : MdAt w v bs lm ws g) (hk : SpOk bs lm ws) :
    Calls Try.prog 41 #[v] w fun e w' => e = .returned (.int .i64 (bs + ws.length)) ∧ Below w.heap.size w w' := by
  obtain ⟨a, cap, rfl, hr⟩ := h
  obtain ⟨b0, b1, b2, _⟩ := hk
  clear hr
  generalize ws.length = n at *
  go_enter Try.func41, Try.ntmps41
  go_wp2
  all_goals (try (go_quiet (fail); go_wp2))
  go_ret
  exact ⟨rfl, by (repeat (first | exact Below.refl _ _ | assumption | refine Below.drew ?_ | refine below_drewN ?_ _ | refine balloc ?_ _ | refine Below.setCell ?_ (by first | (simp; done) | (simp; omega) | omega) _ | refine bchain (by assumption) ?_))⟩
theorem rcontains_any {w : World} {v : Value} {bs lm : Int} {ws : List Int} {g : Option Nat} (h : MdAt w v bs lm ws g) (hk : SpOk bs lm ws) (x : Int) :
    Calls Try.prog 42 #[v, .int .i64 x] w fun e w' => e = .returned (.bool (inB bs ws.length x)) ∧ Below w.heap.size w w' := by
  have ht := fun (W : World) (H : MdAt W v bs lm ws g) => rtop_any H hk
  obtain ⟨a, cap, rfl, hr⟩ := h
  have h' : ∀ o, MdAt (w.alloc o) (.agg #[.int .i64 bs, .int .i64 lm, .slice a ws.length cap]) bs lm ws g := fun o => MdAt.below ⟨a, cap, rfl, hr⟩ (balloc (Below.refl _ _) _)
  go_enter Try.func42, Try.ntmps42
  go_wp2_with (go_at_call 41; refine (ht _ (h' _)).mono ?_; rintro e wz ⟨rfl, hz⟩)
  all_goals (go_ret; refine ⟨ret_bool ?_, by (repeat (first | exact Below.refl _ _ | assumption | refine Below.drew ?_ | refine below_drewN ?_ _ | refine balloc ?_ _ | refine Below.setCell ?_ (by first | (simp; done) | (simp; omega) | omega) _ | refine bchain (by assumption) ?_))⟩; unfold inB; rw [Bool.eq_iff_iff]; simp; try omega)
end Go.Proofs.Ytafailcjdkmdhaa
