/-
  The walk of DistanceSuspects.
-/
import Derived.Test.YtbkfjhbebhnijaaDtE
namespace Go.Proofs.Ytbkfjhbebhnijaa
open Go.RowKit Go.Maps Go.WideElems Go.ChangeShapes Go.MapKept
set_option linter.unusedSimpArgs false
set_option linter.unusedVariables false

set_option maxRecDepth 100000 in
set_option maxHeartbeats 8000000 in
theorem dsus_any {ep : Int} {v : Value} {l : List Stb} (w : World) (h : StbV w v l) :
    Calls Try.prog 9 #[.agg #[.int .i64 ep, v]] w fun e w' => e = .returned (.bool true) ∧ Below w.heap.size w w' := by
  have hF := fun W (H : Below w.heap.size w W) => fewstubs_any (h.below H) none 0 0
  have hA := fun W (H : Below w.heap.size w W) (h1 : l.length ≤ 20) (h2 : ∀ (i : Nat) (x : Stb), l[i]? = some x → x.ins.length ≤ 20) => suspects_any (ep := ep) (h.below H) h1 h2
  have hB := fun W (H : Below w.heap.size w W) (h1 : l.length ≤ 20) => rsuspects_any (ep := ep) (h.below H) h1
  have HA := Lib.hid hA
  have HB := Lib.hid hB
  obtain ⟨a1, c1, rfl, n1, m1, _⟩ := h
  obtain ⟨n, hn⟩ : ∃ n, l.length = n := ⟨_, rfl⟩
  simp only [hn] at hF HA HB n1 ⊢
  have HN := Lib.hid hn
  clear hn hA hB
  go_enter Try.func9, Try.ntmps9
  go_wp2_with fail
  refine (awake_any _).mono ?_
  rintro e w1 ⟨rfl, hb1⟩
  have kb := bblock hb1 (alloc_get w (.cells #[.int .i64 ep, .slice a1 n c1] 42))
  have hc1 : Below w.heap.size w w1 := by (repeat (first | exact Below.refl _ _ | assumption | refine Below.drew ?_ | refine below_drewN ?_ _ | refine balloc ?_ _ | refine Below.setCell ?_ (by first | (simp; done) | (simp; omega) | omega) _ | refine bchain (by assumption) ?_))
  have k0 : w1.cell? ⟨w.heap.size, 0, none⟩ = some (.int .i64 ep) := by rw [cell_of_block kb]; rfl
  have k1 : w1.cell? ⟨w.heap.size, 1, none⟩ = some (.slice a1 n c1) := by rw [cell_of_block kb]; rfl
  clear hb1
  go_wp2_with fail
  refine (hF _ hc1).mono ?_
  rintro e w2 ⟨b, rfl, hb, hb2⟩
  have hc2 : Below w.heap.size w w2 := by (repeat (first | exact Below.refl _ _ | assumption | refine Below.drew ?_ | refine below_drewN ?_ _ | refine balloc ?_ _ | refine Below.setCell ?_ (by first | (simp; done) | (simp; omega) | omega) _ | refine bchain (by assumption) ?_))
  have k0 := bcellv hb2 k0
  have k1 := bcellv hb2 k1
  clear hb2 hc1 hF kb
  cases b
  · clear hb
    go_wp2
    go_ret
    exact ⟨by simp, by (repeat (first | exact Below.refl _ _ | assumption | refine Below.drew ?_ | refine below_drewN ?_ _ | refine balloc ?_ _ | refine Below.setCell ?_ (by first | (simp; done) | (simp; omega) | omega) _ | refine bchain (by assumption) ?_))⟩
  · obtain ⟨z1, _, z3⟩ := hb rfl
    rw [HN.out] at z1
    have HA2 := Lib.hid (fun W H => HA.out W H z1 z3)
    have HB2 := Lib.hid (fun W H => HB.out W H z1)
    have HC2 := Lib.hid hc2
    clear hb z1 z3 HA HB
    go_wp2_with fail
    go_region_held3 (fun w' => w'.cell? ⟨w.heap.size, 0, none⟩ = some (.int .i64 ep) ∧ w'.cell? ⟨w.heap.size, 1, none⟩ = some (.slice a1 n c1)) (exact ⟨k0, k1⟩) (first
      | (go_at_call 25; refine (HA2.out _ (by (repeat (first | exact Below.refl _ _ | assumption | refine Below.drew ?_ | refine below_drewN ?_ _ | refine balloc ?_ _ | refine Below.setCell ?_ (by first | (simp; done) | (simp; omega) | omega) _ | refine bchain (by assumption) ?_)))).mono ?_; rintro e wA ⟨vA, rfl, hvA, hbA⟩; have hcA : Below w.heap.size w wA := (by (repeat (first | exact Below.refl _ _ | assumption | refine Below.drew ?_ | refine below_drewN ?_ _ | refine balloc ?_ _ | refine Below.setCell ?_ (by first | (simp; done) | (simp; omega) | omega) _ | refine bchain (by assumption) ?_))); have k0 := bcellv hbA k0; have k1 := bcellv hbA k1; (try have hvB := hvB.below hbA))
      | (go_at_call 26; refine (HB2.out _ (by (repeat (first | exact Below.refl _ _ | assumption | refine Below.drew ?_ | refine below_drewN ?_ _ | refine balloc ?_ _ | refine Below.setCell ?_ (by first | (simp; done) | (simp; omega) | omega) _ | refine bchain (by assumption) ?_)))).mono ?_; rintro e wB ⟨vB', rfl, hvB, hbB⟩; have hcB : Below w.heap.size w wB := (by (repeat (first | exact Below.refl _ _ | assumption | refine Below.drew ?_ | refine below_drewN ?_ _ | refine balloc ?_ _ | refine Below.setCell ?_ (by first | (simp; done) | (simp; omega) | omega) _ | refine bchain (by assumption) ?_))); have k0 := bcellv hbB k0; have k1 := bcellv hbB k1; (try have hvA := hvA.below hbB))
      | (go_at_call 24; refine (samestubs_any hvA hvB).mono ?_; rintro e wC ⟨rfl, hbC⟩; have k0 := bcellv hbC k0; have k1 := bcellv hbC k1))
    all_goals go_wp2
    all_goals go_ret
    all_goals exact ⟨by simp, by (repeat (first | exact Below.refl _ _ | assumption | refine Below.drew ?_ | refine below_drewN ?_ _ | refine balloc ?_ _ | refine Below.setCell ?_ (by first | (simp; done) | (simp; omega) | omega) _ | refine bchain (by assumption) ?_))⟩
end Go.Proofs.Ytbkfjhbebhnijaa
