/-
  refmeshref06.Check.
-/
import Derived.Test.YtafailcjdkmdhaaRWalk
namespace Go.Proofs.Ytafailcjdkmdhaa
open Go.RowKit
set_option linter.unusedSimpArgs false
set_option linter.unusedVariables false

set_option maxRecDepth 100000 in
theorem rcheck_any {w : World} {v : Value} {bs lm : Int} {ws : List Int} {g : Option Nat} (h : MdAt w v bs lm ws g) (hk : SpOk bs lm ws) :
    Calls Try.prog 44 #[v] w fun e w' => e = .returned (.int .i64 (chkI ws)) ∧ Below w.heap.size w w' := by
  have hW := fun (W : World) (H : MdAt W v bs lm ws g) => rwalk_any H hk
  have hT := fun (W : World) (H : MdAt W v bs lm ws g) => rtop_any H hk
  obtain ⟨a, cap, rfl, hr⟩ := h
  have h1 : ∀ o, MdAt (w.alloc o) (.agg #[.int .i64 bs, .int .i64 lm, .slice a ws.length cap]) bs lm ws g := fun o => MdAt.below ⟨a, cap, rfl, hr⟩ (balloc (Below.refl _ _) _)
  by_cases hh : stopAt ws 0 = ws.length
  · have hc : chkI ws = 0 := by unfold chkI; rw [if_pos hh]
    rw [hc]
    rw [hh] at hW
    clear hc hh
    go_enter Try.func44, Try.ntmps44
    go_wp2_with fail
    refine (hW _ (h1 _)).mono ?_
    rintro e w1 ⟨v', rfl, _, hb1⟩
    have h2 := (h1 (.cells #[.int .i64 bs, .int .i64 lm, .slice a ws.length cap] 43)).below hb1
    have q0 : w1.cell? ⟨w.heap.size, 0, none⟩ = some (.int .i64 bs) := bcellv hb1 (by simp [go_sem])
    have q1 : w1.cell? ⟨w.heap.size, 1, none⟩ = some (.int .i64 lm) := bcellv hb1 (by simp [go_sem])
    have q2 : w1.cell? ⟨w.heap.size, 2, none⟩ = some (.slice a ws.length cap) := bcellv hb1 (by simp [go_sem])
    go_wp2_with fail
    refine (hT _ h2).mono ?_
    rintro e w2 ⟨rfl, hb2⟩
    clear q0 q1 q2 hW hT h1 h2 hr
    generalize bs + (ws.length : Int) = C at *
    go_wp2
    go_ret
    exact ⟨rfl, by (repeat (first | exact Below.refl _ _ | assumption | refine Below.drew ?_ | refine below_drewN ?_ _ | refine balloc ?_ _ | refine Below.setCell ?_ (by first | (simp; done) | (simp; omega) | omega) _ | refine bchain (by assumption) ?_))⟩
  · have hc : chkI ws = 11 := by unfold chkI; rw [if_neg hh]
    rw [hc]
    have hne : bs + (stopAt ws 0 : Nat) ≠ bs + (ws.length : Int) := by omega
    clear hc hh
    go_enter Try.func44, Try.ntmps44
    go_wp2_with fail
    refine (hW _ (h1 _)).mono ?_
    rintro e w1 ⟨v', rfl, _, hb1⟩
    have h2 := (h1 (.cells #[.int .i64 bs, .int .i64 lm, .slice a ws.length cap] 43)).below hb1
    have q0 : w1.cell? ⟨w.heap.size, 0, none⟩ = some (.int .i64 bs) := bcellv hb1 (by simp [go_sem])
    have q1 : w1.cell? ⟨w.heap.size, 1, none⟩ = some (.int .i64 lm) := bcellv hb1 (by simp [go_sem])
    have q2 : w1.cell? ⟨w.heap.size, 2, none⟩ = some (.slice a ws.length cap) := bcellv hb1 (by simp [go_sem])
    go_wp2_with fail
    refine (hT _ h2).mono ?_
    rintro e w2 ⟨rfl, hb2⟩
    clear q0 q1 q2 hW hT h1 h2 hr
    generalize bs + (ws.length : Int) = C at *
    generalize bs + (stopAt ws 0 : Nat) = A at *
    go_wp2
    go_ret
    exact ⟨rfl, by (repeat (first | exact Below.refl _ _ | assumption | refine Below.drew ?_ | refine below_drewN ?_ _ | refine balloc ?_ _ | refine Below.setCell ?_ (by first | (simp; done) | (simp; omega) | omega) _ | refine bchain (by assumption) ?_))⟩
end Go.Proofs.Ytafailcjdkmdhaa
