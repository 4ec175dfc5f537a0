/-
  slices.Grow at []uint64: what it returns, with room and without.
-/
import Derived.Test.YtafailcjdkmdhaaProg
import Derived.Test.YtafailcjdkmdhaaSp
import Derived.Lib.Walk
import Derived.Lib.SliceRun
import Derived.Lib.AppendZerosOnto
namespace Go.Proofs.Ytafailcjdkmdhaa
open Go.RowKit
set_option linter.unusedSimpArgs false
set_option linter.unusedVariables false

theorem u64_info : (Try.prog.info? 32).map (fun i => (i.zero, i.size, i.bytes)) = some (some (.int .u64 0), 1, 8) := by kernel_rfl
theorem grow_room (base : Option Addr) (l c n : Nat) (w : World) (hlc : l ≤ c) (hc63 : c ≤ 9223372036854775807) (hroom : l + n ≤ c) :
    Calls Try.prog 35 #[.slice base l c, .int .i64 n] w fun e w' => e = .returned (.slice base l c) ∧ w = w' := by
  have h1 : ¬ ((n : Int) < 0) := by omega
  have h2 : wrap64 ((c : Int) - (l : Int)) = (c : Int) - (l : Int) := by unfold wrap64; omega
  have h3 : wrap64 ((n : Int) - ((c : Int) - (l : Int))) = (n : Int) - ((c : Int) - (l : Int)) := by unfold wrap64; omega
  have h4 : ¬ ((n : Int) - ((c : Int) - (l : Int)) > 0) := by omega
  go_enter Try.func35, Try.ntmps35
  go_wp2
  go_ret
  exact ⟨rfl, rfl⟩
set_option maxHeartbeats 4000000 in
set_option maxRecDepth 100000 in
theorem grow_grow (base : Option Addr) (l c n : Nat) (cs : List Value) (w : World) (hlc : l ≤ c) (hroom : c < l + n) (hbig : (l + n) * 8 ≤ 140737488355328)
    (hcl : cs.length = c) (hnil : base = none → c = 0) (hcs : ∀ a, base = some a → ∀ j v, cs[j]? = some v → w.cell? (a.add j) = some v) :
    Calls Try.prog 35 #[.slice base l c, .int .i64 n] w fun e w' => ∃ (C : Nat) (zs : Array Value), l + n ≤ C ∧ C ≤ 9223372036854775807 ∧ (cs.toArray ++ zs).size = C ∧ e = .returned (.slice (some ⟨w.heap.size, 0, none⟩) l C) ∧ w' = w.drew.alloc (.cells (cs.toArray ++ zs) 32) := by
  obtain ⟨i0, hi0, hz0, hs0, hby⟩ := info_parts u64_info
  have h1 : ¬ ((n : Int) < 0) := by omega
  have h2 : wrap64 ((c : Int) - (l : Int)) = (c : Int) - (l : Int) := by unfold wrap64; omega
  have h3 : wrap64 ((n : Int) - ((c : Int) - (l : Int))) = (n : Int) - ((c : Int) - (l : Int)) := by unfold wrap64; omega
  have h4 : (n : Int) - ((c : Int) - (l : Int)) > 0 := by omega
  have hck : c + (l + n - c) = l + n := by omega
  have hold : (Builtin.firstCells i0.size c (.slice base c c)).run Try.prog w.drew = .ok cs.toArray w.drew := by
    cases base with
    | none =>
      have h0 := hnil rfl
      subst h0
      have hc0 : cs = [] := List.length_eq_zero_iff.1 (by simpa using hcl)
      rw [hc0]
      exact run_firstCells_none w.drew i0.size 0 0 0
    | some a => exact run_firstCells_some w.drew i0.size c a c c cs (by rw [hs0]; simpa using hcl) (fun j v hj => hcs a rfl j v hj)
  obtain ⟨zs, hzs⟩ : ∃ zs : Array Value, zs = Builtin.zeroCells (Value.int .u64 0).cells (l + n - c) ++ Builtin.zeroCells (Value.int .u64 0).cells (grownCap w (l + n) c 32 - (l + n)) := ⟨_, rfl⟩
  have hrz : ∀ ty, (Builtin.append_ #[41, 3] ty #[.slice base c c, .int .i64 ((n : Int) - ((c : Int) - (l : Int)))]).run Try.prog w =
      .ok (.slice (some ⟨w.heap.size, 0, none⟩) (l + n) (grownCap w (l + n) c 32)) (w.drew.alloc (.cells (cs.toArray ++ zs) 32)) := fun ty => by
    have h := Lib.run_append_grow_zeros w 41 3 ty 32 i0 (.int .u64 0) .i64 .i64 Try.underlying41 Try.underlying3 hi0 hz0 base c c cs hold (l + n - c) (by omega) (by omega) (by omega) (by omega)
      (by rw [hby]; omega)
      (by rw [hck, hby]; exact growslice_fits hroom hbig)
    rw [hck] at h
    rw [show (n : Int) - ((c : Int) - (l : Int)) = ((l + n - c : Nat) : Int) by omega, hzs, ← Array.append_assoc]
    exact h
  have hGn : l + n ≤ grownCap w (l + n) c 32 := grownCap_ge w _ _ _
  have hG63 : grownCap w (l + n) c 32 ≤ 9223372036854775807 := by
    have := grownCap_le_maxLen w (l + n) c 32 (by unfold maxLen; omega)
    unfold maxLen at this
    omega
  have hsz : (cs.toArray ++ zs).size = grownCap w (l + n) c 32 := by
    rw [hzs]
    simp [Builtin.zeroCells, hcl, Value.cells]
    omega
  have HF : Hid (∃ (C : Nat) (zs' : Array Value), l + n ≤ C ∧ C ≤ 9223372036854775807 ∧ (cs.toArray ++ zs').size = C ∧ C = grownCap w (l + n) c 32 ∧ zs' = zs) := ⟨_, zs, hGn, hG63, hsz, rfl, rfl⟩
  generalize hG : grownCap w (l + n) c 32 = C at *
  clear hG hold hck hzs hcs hcl hnil hi0 hz0 hs0 hby hsz
  cases base with
  | none =>
    go_enter Try.func35, Try.ntmps35
    go_wp2_with (at_builtin; refine Lib.wpList_append_run _ rfl _ _ _ _ rfl _ _ rfl rfl _ _ (hrz _) ?_)
    all_goals (go_ret; obtain ⟨C', zs', a1, a2, a3, rfl, rfl⟩ := HF.out; exact ⟨_, a1, a2, _, by simpa using a3, rfl, rfl⟩)
  | some a =>
    obtain ⟨ab, ao, asp⟩ := a
    go_enter Try.func35, Try.ntmps35
    go_wp2_with (at_builtin; refine Lib.wpList_append_run _ rfl _ _ _ _ rfl _ _ rfl rfl _ _ (hrz _) ?_)
    all_goals (go_ret; obtain ⟨C', zs', a1, a2, a3, rfl, rfl⟩ := HF.out; exact ⟨_, a1, a2, _, by simpa using a3, rfl, rfl⟩)
end Go.Proofs.Ytafailcjdkmdhaa
