/-
  The contract of (*Space).Alloc.
-/
import Derived.Test.YtafailcjdkmdhaaHdr4
import Derived.Test.YtafailcjdkmdhaaSp2
import Derived.Test.YtafailcjdkmdhaaGrow
import Derived.Deep.RegionWith
namespace Go.Proofs.Ytafailcjdkmdhaa
open Go.RowKit
set_option linter.unusedSimpArgs false
set_option linter.unusedVariables false

set_option maxRecDepth 100000 in
theorem alloc_badH (b : Nat) (k c f m s : Int) (h : hvB k c f = false) (w : World) :
    Calls Try.prog 15 #[.pointer (some ⟨b, 0, none⟩), .agg #[.int .i64 k, .int .i64 c, .int .i64 f], .agg #[.int .i64 m, .int .i64 s]] w fun e w' => e = .returned (.tuple #[.int .i64 0, .int .i64 1]) ∧ Below w.heap.size w w' := by
  have h1 := fun W => encode_no k c f h W
  clear h
  go_enter Try.func15, Try.ntmps15
  go_wp2_with (first | (go_at_call 32; refine (h1 _).mono ?_; rintro e wz ⟨rfl, hz⟩))
  go_ret2
  exact ⟨rfl, by (repeat (first | exact Below.refl _ _ | assumption | refine Below.drew ?_ | refine below_drewN ?_ _ | refine balloc ?_ _ | refine Below.setCell ?_ (by first | (simp; done) | (simp; omega) | omega) _ | refine bchain (by assumption) ?_))⟩
set_option maxRecDepth 100000 in
theorem alloc_badI (b : Nat) (k c f m s : Int) (h : hvB k c f = true) (g : idB m s = false) (w : World) :
    Calls Try.prog 15 #[.pointer (some ⟨b, 0, none⟩), .agg #[.int .i64 k, .int .i64 c, .int .i64 f], .agg #[.int .i64 m, .int .i64 s]] w fun e w' => e = .returned (.tuple #[.int .i64 0, .int .i64 1]) ∧ Below w.heap.size w w' := by
  have h1 := fun W => encode_yes k c f h W
  have h2 := fun W => encodeID_no m s g W
  generalize encI k c f = x at *
  clear h g
  go_enter Try.func15, Try.ntmps15
  go_wp2_with fail
  refine (h1 _).mono ?_
  rintro e w1 ⟨rfl, hb1⟩
  have q0 : w1.cell? ⟨w.heap.size + 1, 0, none⟩ = some (.int .i64 m) := bcellv hb1 (by simp [go_sem])
  have q1 : w1.cell? ⟨w.heap.size + 1, 1, none⟩ = some (.int .i64 s) := bcellv hb1 (by simp [go_sem])
  go_wp2_with (first | (go_at_call 33; refine (h2 _).mono ?_; rintro e wz ⟨rfl, hz⟩))
  go_ret2
  exact ⟨rfl, by (repeat (first | exact Below.refl _ _ | assumption | refine Below.drew ?_ | refine below_drewN ?_ _ | refine balloc ?_ _ | refine Below.setCell ?_ (by first | (simp; done) | (simp; omega) | omega) _ | refine bchain (by assumption) ?_))⟩
theorem over_sp {W : World} {b : Nat} {bs lm : Int} {ws : List Int} {g : Option Nat} (h : SpAt W b bs lm ws g) (x : World) : SpAt (over W x) b bs lm ws g := h.below (over_below W x)
set_option maxRecDepth 100000 in
set_option maxHeartbeats 1000000 in
theorem alloc_full {w : World} {b : Nat} {bs lm : Int} {ws : List Int} {g : Option Nat} (hs : SpAt w b bs lm ws g) (hk : SpOk bs lm ws) (k c f m s : Int) (h : hvB k c f = true) (hi : idB m s = true) (hf : lm < bs + ws.length + wordsI f) :
    Calls Try.prog 15 #[.pointer (some ⟨b, 0, none⟩), .agg #[.int .i64 k, .int .i64 c, .int .i64 f], .agg #[.int .i64 m, .int .i64 s]] w fun e w' => e = .returned (.tuple #[.int .i64 0, .int .i64 8]) ∧ Below w.heap.size w w' := by
  have h1 := fun W => encode_yes k c f h W
  have h2 := fun W => encodeID_yes m s hi W
  have h3 := fun W => words_yes k c f h W
  have h4 := fun (W : World) (H : SpAt W b bs lm ws g) => top_any H hk
  obtain ⟨y0, y1, y2⟩ := wordsI_bd h
  obtain ⟨b0, b1, b2, _⟩ := hk
  generalize encI k c f = x at *
  generalize idI m s = z at *
  generalize wordsI f = y at *
  clear h hi
  have hs0 := (hs.below (balloc (balloc (Below.refl _ _) (.cells #[.int .i64 k, .int .i64 c, .int .i64 f] 29)) (.cells #[.int .i64 m, .int .i64 s] 31)))
  go_enter Try.func15, Try.ntmps15
  go_wp2_with fail
  refine (h1 _).mono ?_
  rintro e w1 ⟨rfl, hb1⟩
  have p0 : w1.cell? ⟨w.heap.size, 0, none⟩ = some (.int .i64 k) := bcellv hb1 (by simp [go_sem])
  have p1 : w1.cell? ⟨w.heap.size, 1, none⟩ = some (.int .i64 c) := bcellv hb1 (by simp [go_sem])
  have p2 : w1.cell? ⟨w.heap.size, 2, none⟩ = some (.int .i64 f) := bcellv hb1 (by simp [go_sem])
  have q0 : w1.cell? ⟨w.heap.size + 1, 0, none⟩ = some (.int .i64 m) := bcellv hb1 (by simp [go_sem])
  have q1 : w1.cell? ⟨w.heap.size + 1, 1, none⟩ = some (.int .i64 s) := bcellv hb1 (by simp [go_sem])
  have hs1 := hs0.below hb1
  go_wp2_with fail
  refine (h2 _).mono ?_
  rintro e w2 ⟨rfl, hb2⟩
  have p0 := bcellv hb2 p0
  have p1 := bcellv hb2 p1
  have p2 := bcellv hb2 p2
  have hs2 := hs1.below hb2
  clear hs hs0 hs1 q0 q1
  go_wp2_with fail
  have o0 : ∀ x, (over w2 x).cell? ⟨w.heap.size, 0, none⟩ = some (.int .i64 k) := over_cell p0
  have o1 : ∀ x, (over w2 x).cell? ⟨w.heap.size, 1, none⟩ = some (.int .i64 c) := over_cell p1
  have o2 : ∀ x, (over w2 x).cell? ⟨w.heap.size, 2, none⟩ = some (.int .i64 f) := over_cell p2
  (refine wp_region_over (by kernel_rfl) (by kernel_rfl) ?_); (repeat (go_big_quiet_step ((first | (go_at_call 14; exact calls_over (h4 _ (over_sp hs2 _))) | (go_at_call 34; exact calls_over (h3 _)))))); (refine wpQuiet_nil ?_)
  intro w3 hb3
  clear o0 o1 o2
  obtain ⟨a, cap, c0, c1, c2, hr⟩ := (hs2.below hb3).cells
  go_wp2
  go_ret2
  exact ⟨rfl, by (repeat (first | exact Below.refl _ _ | assumption | refine Below.drew ?_ | refine below_drewN ?_ _ | refine balloc ?_ _ | refine Below.setCell ?_ (by first | (simp; done) | (simp; omega) | omega) _ | refine bchain (by assumption) ?_))⟩
end Go.Proofs.Ytafailcjdkmdhaa
