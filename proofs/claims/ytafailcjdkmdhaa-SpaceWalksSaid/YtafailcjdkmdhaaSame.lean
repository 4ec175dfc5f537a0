/-
  refmeshlaw06.step at every operation, and refmeshlaw06.same.
-/
import Derived.Test.YtafailcjdkmdhaaStep3
namespace Go.Proofs.Ytafailcjdkmdhaa
open Go.RowKit
set_option linter.unusedSimpArgs false
set_option linter.unusedVariables false

theorem step_any {w : World} {b : Nat} {v : Value} {bs lm : Int} {ws : List Int} {g gm : Option Nat} (hp : PairAt w b v bs lm ws g gm) (kd k c f m s x u : Int) (hu : U64 u) :
    Calls Try.prog 17 #[.pointer (some ⟨b, 0, none⟩), v, .agg #[.int .u8 kd, .int .i64 k, .int .i64 c, .int .i64 f, .int .i64 m, .int .i64 s, .int .i64 x, .int .u64 u]] w (StepPost w b bs lm g gm) := by
  by_cases h0 : kd = 0
  · subst h0; exact step_alloc0 hp k c f m s x u
  by_cases h1 : kd = 1
  · subst h1; exact step_alloc1 hp k c f m s x u
  by_cases h2 : kd = 2
  · subst h2
    by_cases hx : x ≤ 1000
    · exact step_at2 hp k c f m s x u hx hu
    · exact step_high2 hp k c f m s x u (by omega)
  by_cases h3 : kd = 3
  · subst h3
    by_cases hx : x < 0
    · exact step_obj_a hp k c f m s x u hx
    · by_cases hl : x % (((objA bs ws).length : Int) + 1) < ((objA bs ws).length : Int)
      · exact step_obj_b hp k c f m s x u (by omega) hl
      · exact step_obj_c hp k c f m s x u (by omega) hl
  by_cases h4 : kd = 4
  · subst h4
    by_cases hx : x ≤ 1000
    · exact step_at4 hp k c f m s x u hx hu
    · exact step_high4 hp k c f m s x u (by omega)
  exact step_other hp k c f m s x u kd (by simpa using h0) (by simpa using h1) (by simpa using h2) (by simpa using h3) (by simpa using h4)

set_option maxRecDepth 100000 in
set_option maxHeartbeats 2000000 in
theorem same_any {w : World} {b : Nat} {v : Value} {bs lm : Int} {ws : List Int} {g gm : Option Nat} (hs : SpAt w b bs lm ws g) (hm : MdAt w v bs lm ws gm) (hk : SpOk bs lm ws) :
    Calls Try.prog 28 #[.pointer (some ⟨b, 0, none⟩), v] w fun e w' => e = .returned (.bool true) ∧ Below w.heap.size w w' := by
  have cB := fun (W : World) (H : SpAt W b bs lm ws g) => base_any H
  have cT := fun (W : World) (H : SpAt W b bs lm ws g) => top_any H hk
  have cL := fun (W : World) (H : SpAt W b bs lm ws g) (i : Nat) (hi : i < ws.length) => load_yes H hk i hi
  have cO := fun (W : World) (H : SpAt W b bs lm ws g) => objects_any H hk
  have cC := fun (W : World) (H : SpAt W b bs lm ws g) => check_any H hk
  have rT := fun (W : World) (H : MdAt W v bs lm ws gm) => rtop_any H hk
  have rW := fun (W : World) (H : MdAt W v bs lm ws gm) => rwalk_any H hk
  have rC := fun (W : World) (H : MdAt W v bs lm ws gm) => rcheck_any H hk
  have hsb : ∀ W, Below w.heap.size w W → SpAt W b bs lm ws g := fun W h => hs.below h
  have hmb : ∀ W, Below w.heap.size w W → MdAt W v bs lm ws gm := fun W h => hm.below h
  obtain ⟨b0, b1, b2, _⟩ := hk
  obtain ⟨A, cap, rfl, hr⟩ := hm
  have cp := hr.1
  generalize chkI ws = ck at *
  generalize objA bs ws = zs at *
  generalize bs + ((stopAt ws 0 : Nat) : Int) = st at *
  generalize hn : ws.length = n at *
  have HN := Lib.hid hn
  clear hs hn
  go_enter Try.func28, Try.ntmps28
  go_wp2_with fail
  have hb0 : Below w.heap.size w (w.alloc (.cells #[.int .i64 bs, .int .i64 lm, .slice A n cap] 43)) := balloc (Below.refl _ _) _
  have k0 : (w.alloc (.cells #[.int .i64 bs, .int .i64 lm, .slice A n cap] 43)).heap[w.heap.size]? = some (.cells #[.int .i64 bs, .int .i64 lm, .slice A n cap] 43 (0, 0)) := alloc_get _ _
  obtain ⟨w1, hw1⟩ : ∃ w1, w.alloc (.cells #[.int .i64 bs, .int .i64 lm, .slice A n cap] 43) = w1 := ⟨_, rfl⟩
  rw [hw1] at hb0 k0 ⊢
  clear hw1
  have hv : ∀ x, SpAt (over w1 x) b bs lm ws g := fun x => hsb _ (bchain (over_below w1 x) hb0)
  have hv2 : ∀ x, MdAt (over w1 x) (.agg #[.int .i64 bs, .int .i64 lm, .slice A n cap]) bs lm ws gm := fun x => hmb _ (bchain (over_below w1 x) hb0)
  have o0 : ∀ x, (over w1 x).cell? ⟨w.heap.size, 0, none⟩ = some (.int .i64 bs) := over_cell (by rw [cell_of_block k0]; rfl)
  have o1 : ∀ x, (over w1 x).cell? ⟨w.heap.size, 1, none⟩ = some (.int .i64 lm) := over_cell (by rw [cell_of_block k0]; rfl)
  have o2 : ∀ x, (over w1 x).cell? ⟨w.heap.size, 2, none⟩ = some (.slice A n cap) := over_cell (by rw [cell_of_block k0]; rfl)
  (refine wp_region_over (by kernel_rfl) (by kernel_rfl) ?_); (repeat (go_big_quiet_step ((first | (go_at_call 43; exact calls_over (cB _ (hv _))) | (go_at_call 14; exact calls_over (cT _ (hv _))) | (go_at_call 41; exact calls_over (rT _ (hv2 _))))))); (refine wpQuiet_nil ?_)
  intro w2 hb2
  have k0 := bblock hb2 k0
  have hbw2 := bchain hb2 hb0
  clear o0 o1 o2 hv hv2 cB cT rT hb2 hb0
  go_wp2_with fail
  go_loopw [5] (fun p wr => ∃ t : Nat, t ≤ n ∧ p = .int .i64 t ∧ wr.heap[w.heap.size]? = some (.cells #[.int .i64 bs, .int .i64 lm, .slice A n cap] 43 (0, 0)) ∧ Below w.heap.size w wr) (fun p _ => n - natOf p)
  case atStart => exact ⟨0, Nat.zero_le _, rfl, k0, hbw2⟩
  case round =>
    obtain ⟨t, ht, rfl, k0, hbr⟩ := hrel
    clear hbw2
    have k0_0 : wr.cell? ⟨w.heap.size, 0, none⟩ = some (.int .i64 bs) := by rw [cell_of_block k0]; rfl
    have k0_1 : wr.cell? ⟨w.heap.size, 1, none⟩ = some (.int .i64 lm) := by rw [cell_of_block k0]; rfl
    have k0_2 : wr.cell? ⟨w.heap.size, 2, none⟩ = some (.slice A n cap) := by rw [cell_of_block k0]; rfl
    by_cases hlt : t < n
    · have hl := cL _ (hsb _ hbr) t hlt
      obtain ⟨G, rfl, rfl, qw, _⟩ := (hr.keep (fun G o e ho => (hbr.block G (Array.getElem?_eq_some_iff.1 ho).1).trans ho)).word (i := t) (by rw [HN.out]; exact hlt)
      generalize ws.getD t 0 = y at *
      have s1 : ((t : Int)).toNat = t := by omega
      clear cL cO cC rW rC
      go_wp2_with fail
      refine hl.mono ?_
      rintro e w3 ⟨rfl, hb3⟩
      have k0 := bblock hb3 k0
      have qw := bcellv hb3 qw
      have hbw3 := bchain hb3 hbr
      clear k0_0 k0_1 k0_2 hl
      have k0_0 : w3.cell? ⟨w.heap.size, 0, none⟩ = some (.int .i64 bs) := by rw [cell_of_block k0]; rfl
      have k0_1 : w3.cell? ⟨w.heap.size, 1, none⟩ = some (.int .i64 lm) := by rw [cell_of_block k0]; rfl
      have k0_2 : w3.cell? ⟨w.heap.size, 2, none⟩ = some (.slice (some ⟨G, 0, none⟩) n cap) := by rw [cell_of_block k0]; rfl
      go_wp2
      go_roundw
      case rel => exact ⟨t + 1, by omega, by go_num, k0, hbw3⟩
      case measure => simp [natOf]; omega
    · clear cL
      go_wp2_with fail
      refine (rW _ (hmb _ hbr)).mono ?_
      rintro e w3 ⟨vl, rfl, hrow, hb3⟩
      have iv := IntsV.of_row hrow
      have k0 := bblock hb3 k0
      have hbw3 := bchain hb3 hbr
      obtain ⟨w4, hw4⟩ : ∃ w4, w3 = w4 := ⟨_, rfl⟩
      subst hw4
      clear k0_0 k0_1 k0_2 hrow rW hbr hb3
      have k0_0 : w3.cell? ⟨w.heap.size, 0, none⟩ = some (.int .i64 bs) := by rw [cell_of_block k0]; rfl
      have k0_1 : w3.cell? ⟨w.heap.size, 1, none⟩ = some (.int .i64 lm) := by rw [cell_of_block k0]; rfl
      have k0_2 : w3.cell? ⟨w.heap.size, 2, none⟩ = some (.slice A n cap) := by rw [cell_of_block k0]; rfl
      have hbd : Below w.heap.size w w3.drew := hbw3.drew
      have ivd : IntsV w3.drew vl zs := iv
      obtain ⟨a2, c2, rfl, n2, m2, r2⟩ := id iv
      clear iv n2 m2 r2 k0
      go_wp2_with fail
      go_region_held3 (fun w' => w'.cell? ⟨w.heap.size, 0, none⟩ = some (.int .i64 bs) ∧ w'.cell? ⟨w.heap.size, 1, none⟩ = some (.int .i64 lm) ∧ w'.cell? ⟨w.heap.size, 2, none⟩ = some (.slice A n cap)) (exact ⟨k0_0, k0_1, k0_2⟩) (first
        | (go_at_call 22; refine (cO _ (hsb _ hbd)).mono ?_; rintro e u1 ⟨v1, rfl, hrow1, hc1⟩; have k0_0 := bcellv hc1 (show w3.drew.cell? _ = _ from k0_0); have k0_1 := bcellv hc1 (show w3.drew.cell? _ = _ from k0_1); have k0_2 := bcellv hc1 (show w3.drew.cell? _ = _ from k0_2); have iv1 := IntsV.of_row hrow1; have iv2 := ivd.below hc1; have hbu1 := bchain hc1 hbd)
        | (go_at_call 21; refine (ints_any iv1 iv2).mono ?_; rintro e u2 ⟨rfl, hc2⟩; have k0_0 := bcellv hc2 k0_0; have k0_1 := bcellv hc2 k0_1; have k0_2 := bcellv hc2 k0_2; have hbu2 := bchain hc2 hbu1)
        | (go_at_call 23; refine (cC _ (hsb _ (by (repeat (first | exact Below.refl _ _ | assumption | refine Below.drew ?_ | refine below_drewN ?_ _ | refine balloc ?_ _ | refine Below.setCell ?_ (by first | (simp; done) | (simp; omega) | omega) _ | refine bchain (by assumption) ?_))))).mono ?_; rintro e u3 ⟨rfl, hc3⟩; have k0_0 := bcellv hc3 k0_0; have k0_1 := bcellv hc3 k0_1; have k0_2 := bcellv hc3 k0_2)
        | (go_at_call 44; refine (rC _ (hmb _ (by (repeat (first | exact Below.refl _ _ | assumption | refine Below.drew ?_ | refine below_drewN ?_ _ | refine balloc ?_ _ | refine Below.setCell ?_ (by first | (simp; done) | (simp; omega) | omega) _ | refine bchain (by assumption) ?_))))).mono ?_; rintro e u4 ⟨rfl, hc4⟩; have k0_0 := bcellv hc4 k0_0; have k0_1 := bcellv hc4 k0_1; have k0_2 := bcellv hc4 k0_2))
      all_goals (go_wp2; go_ret; exact ⟨rfl, by (repeat (first | exact Below.refl _ _ | assumption | refine Below.drew ?_ | refine below_drewN ?_ _ | refine balloc ?_ _ | refine Below.setCell ?_ (by first | (simp; done) | (simp; omega) | omega) _ | refine bchain (by assumption) ?_))⟩)
end Go.Proofs.Ytafailcjdkmdhaa
