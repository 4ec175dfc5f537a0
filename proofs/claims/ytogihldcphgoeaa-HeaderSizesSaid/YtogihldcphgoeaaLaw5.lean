/-
  The statements about headers: each Go function of package refmeshlaw05 returns true, and the memory that was there is as it was.
-/
import Derived.Test.YtogihldcphgoeaaHdr5
import Derived.Test.YtogihldcphgoeaaKn
import Derived.Deep.RegionWith
namespace Go.Proofs.Ytogihldcphgoeaa
open Go.RowKit
set_option linter.unusedSimpArgs false
set_option linter.unusedVariables false
theorem and3_dec {n : Int} (hn : U64 n) (h : decB n = true) : bits BinOp.and IntKind.u64 n 3 = 3 := by
  have h1 := (decB_iff.1 h)
  have h2 := encI_bd h1.1
  rw [h1.2] at h2
  have h3 := bits_mask .u64 64 (by decide) u64_wraps 2 (by decide) n (by omega) (by omega)
  simpa [h2.2.2] using h3
theorem idI_ne {m s m2 s2 : Int} (h : idB m s = true) (g : idB m2 s2 = true) (hne : ¬ (m = m2 ∧ s = s2)) : ¬ idI m s = idI m2 s2 := by
  have h1 := idB_iff.1 h
  have h2 := idB_iff.1 g
  unfold idI
  omega

theorem awake5 (w : World) : Calls Try.prog 10 #[] w fun e w' => e = .returned (.bool true) ∧ Below w.heap.size w w' := by
  have e1 : encI 0 3 4 = 67109635 := by decide
  have e2 : idI 2 17 = 562949953421329 := by decide
  have e3 : wordsI 4 = 6 := by decide
  have h1 := fun W => encode_yes 0 3 4 (by decide) W
  have h2 := fun W => encodeID_yes 2 17 (by decide) W
  have h3 := fun W => words_yes 0 3 4 (by decide) W
  rw [e1] at h1
  rw [e2] at h2
  rw [e3] at h3
  clear e1 e2 e3
  go_enter Try.func10, Try.ntmps10
  go_wp2_with (first | (go_at_call 11; refine (h1 _).mono ?_; rintro e wz ⟨rfl, hz⟩) | (go_at_call 20; refine (h2 _).mono ?_; rintro e wz ⟨rfl, hz⟩) | (go_at_call 15; refine (h3 _).mono ?_; rintro e wz ⟨rfl, hz⟩))
  go_ret
  exact ⟨rfl, by (repeat (first | exact Below.refl _ _ | assumption | refine Below.drew ?_ | refine below_drewN ?_ _ | refine balloc ?_ _ | refine Below.setCell ?_ (by first | (simp; done) | (simp; omega) | omega) _ | refine bchain (by assumption) ?_))⟩

set_option maxRecDepth 100000 in
theorem headerEncodes_yes (k c f : Int) (h : hvB k c f = true) (w : World) :
    Calls Try.prog 3 #[.agg #[.int .i64 k, .int .i64 c, .int .i64 f]] w fun e w' => e = .returned (.bool true) ∧ Below w.heap.size w w' := by
  have h1 := fun W => encode_yes k c f h W
  have h2 := fun W => rencode_yes k c f h W
  have h3 := fun W => words_yes k c f h W
  have h4 := fun W => rwords_yes k c f h W
  have h5 := fun W => valid_any k c f W
  have h6 := fun W => rvalid_any k c f W
  simp only [h] at h5 h6
  clear h
  generalize encI k c f = x at *
  generalize wordsI f = y at *
  go_enter Try.func3, Try.ntmps3
  go_wp2_with (first | (go_at_call 10; refine (awake5 _).mono ?_; rintro e wz ⟨rfl, hz⟩; have q0 : wz.cell? ⟨w.heap.size, 0, none⟩ = some (.int .i64 k) := bcellv hz (by first | assumption | (simp [go_sem, World.cell?_alloc_past]; done)); have q1 : wz.cell? ⟨w.heap.size, 1, none⟩ = some (.int .i64 c) := bcellv hz (by first | assumption | (simp [go_sem, World.cell?_alloc_past]; done)); have q2 : wz.cell? ⟨w.heap.size, 2, none⟩ = some (.int .i64 f) := bcellv hz (by first | assumption | (simp [go_sem, World.cell?_alloc_past]; done))) | (go_at_call 11; refine (h1 _).mono ?_; rintro e wz ⟨rfl, hz⟩; have q0 : wz.cell? ⟨w.heap.size, 0, none⟩ = some (.int .i64 k) := bcellv hz (by first | assumption | (simp [go_sem, World.cell?_alloc_past]; done)); have q1 : wz.cell? ⟨w.heap.size, 1, none⟩ = some (.int .i64 c) := bcellv hz (by first | assumption | (simp [go_sem, World.cell?_alloc_past]; done)); have q2 : wz.cell? ⟨w.heap.size, 2, none⟩ = some (.int .i64 f) := bcellv hz (by first | assumption | (simp [go_sem, World.cell?_alloc_past]; done))) | (go_at_call 12; refine (h2 _).mono ?_; rintro e wz ⟨rfl, hz⟩; have q0 : wz.cell? ⟨w.heap.size, 0, none⟩ = some (.int .i64 k) := bcellv hz (by first | assumption | (simp [go_sem, World.cell?_alloc_past]; done)); have q1 : wz.cell? ⟨w.heap.size, 1, none⟩ = some (.int .i64 c) := bcellv hz (by first | assumption | (simp [go_sem, World.cell?_alloc_past]; done)); have q2 : wz.cell? ⟨w.heap.size, 2, none⟩ = some (.int .i64 f) := bcellv hz (by first | assumption | (simp [go_sem, World.cell?_alloc_past]; done))))
  have o0 : ∀ x, (over wz x).cell? ⟨w.heap.size, 0, none⟩ = some (.int .i64 k) := over_cell (by first | assumption | (simp [go_sem, World.cell?_alloc_past]; done))
  have o1 : ∀ x, (over wz x).cell? ⟨w.heap.size, 1, none⟩ = some (.int .i64 c) := over_cell (by first | assumption | (simp [go_sem, World.cell?_alloc_past]; done))
  have o2 : ∀ x, (over wz x).cell? ⟨w.heap.size, 2, none⟩ = some (.int .i64 f) := over_cell (by first | assumption | (simp [go_sem, World.cell?_alloc_past]; done))
  (refine wp_region_over (by kernel_rfl) (by kernel_rfl) ?_); (repeat (go_big_quiet_step ((first | (go_at_call 13; exact calls_over (h5 _)) | (go_at_call 14; exact calls_over (h6 _)) | (go_at_call 15; exact calls_over (h3 _)) | (go_at_call 16; exact calls_over (h4 _)))))); (refine wpQuiet_nil ?_)
  intro w3 hb3
  go_wp2
  go_ret
  exact ⟨rfl, by (repeat (first | exact Below.refl _ _ | assumption | refine Below.drew ?_ | refine below_drewN ?_ _ | refine balloc ?_ _ | refine Below.setCell ?_ (by first | (simp; done) | (simp; omega) | omega) _ | refine bchain (by assumption) ?_))⟩

set_option maxRecDepth 100000 in
theorem headerEncodes_no (k c f : Int) (h : hvB k c f = false) (w : World) :
    Calls Try.prog 3 #[.agg #[.int .i64 k, .int .i64 c, .int .i64 f]] w fun e w' => e = .returned (.bool true) ∧ Below w.heap.size w w' := by
  have h1 := fun W => encode_no k c f h W
  have h2 := fun W => rencode_no k c f h W
  have h3 := fun W => words_no k c f h W
  have h4 := fun W => rwords_no k c f h W
  have h5 := fun W => valid_any k c f W
  have h6 := fun W => rvalid_any k c f W
  simp only [h] at h5 h6
  clear h
  generalize encI k c f = x at *
  generalize wordsI f = y at *
  go_enter Try.func3, Try.ntmps3
  go_wp2_with (first | (go_at_call 10; refine (awake5 _).mono ?_; rintro e wz ⟨rfl, hz⟩; have q0 : wz.cell? ⟨w.heap.size, 0, none⟩ = some (.int .i64 k) := bcellv hz (by first | assumption | (simp [go_sem, World.cell?_alloc_past]; done)); have q1 : wz.cell? ⟨w.heap.size, 1, none⟩ = some (.int .i64 c) := bcellv hz (by first | assumption | (simp [go_sem, World.cell?_alloc_past]; done)); have q2 : wz.cell? ⟨w.heap.size, 2, none⟩ = some (.int .i64 f) := bcellv hz (by first | assumption | (simp [go_sem, World.cell?_alloc_past]; done))) | (go_at_call 11; refine (h1 _).mono ?_; rintro e wz ⟨rfl, hz⟩; have q0 : wz.cell? ⟨w.heap.size, 0, none⟩ = some (.int .i64 k) := bcellv hz (by first | assumption | (simp [go_sem, World.cell?_alloc_past]; done)); have q1 : wz.cell? ⟨w.heap.size, 1, none⟩ = some (.int .i64 c) := bcellv hz (by first | assumption | (simp [go_sem, World.cell?_alloc_past]; done)); have q2 : wz.cell? ⟨w.heap.size, 2, none⟩ = some (.int .i64 f) := bcellv hz (by first | assumption | (simp [go_sem, World.cell?_alloc_past]; done))) | (go_at_call 12; refine (h2 _).mono ?_; rintro e wz ⟨rfl, hz⟩; have q0 : wz.cell? ⟨w.heap.size, 0, none⟩ = some (.int .i64 k) := bcellv hz (by first | assumption | (simp [go_sem, World.cell?_alloc_past]; done)); have q1 : wz.cell? ⟨w.heap.size, 1, none⟩ = some (.int .i64 c) := bcellv hz (by first | assumption | (simp [go_sem, World.cell?_alloc_past]; done)); have q2 : wz.cell? ⟨w.heap.size, 2, none⟩ = some (.int .i64 f) := bcellv hz (by first | assumption | (simp [go_sem, World.cell?_alloc_past]; done))))
  have o0 : ∀ x, (over wz x).cell? ⟨w.heap.size, 0, none⟩ = some (.int .i64 k) := over_cell (by first | assumption | (simp [go_sem, World.cell?_alloc_past]; done))
  have o1 : ∀ x, (over wz x).cell? ⟨w.heap.size, 1, none⟩ = some (.int .i64 c) := over_cell (by first | assumption | (simp [go_sem, World.cell?_alloc_past]; done))
  have o2 : ∀ x, (over wz x).cell? ⟨w.heap.size, 2, none⟩ = some (.int .i64 f) := over_cell (by first | assumption | (simp [go_sem, World.cell?_alloc_past]; done))
  (refine wp_region_over (by kernel_rfl) (by kernel_rfl) ?_); (repeat (go_big_quiet_step ((first | (go_at_call 13; exact calls_over (h5 _)) | (go_at_call 14; exact calls_over (h6 _)) | (go_at_call 15; exact calls_over (h3 _)) | (go_at_call 16; exact calls_over (h4 _)))))); (refine wpQuiet_nil ?_)
  intro w3 hb3
  go_wp2
  go_ret
  exact ⟨rfl, by (repeat (first | exact Below.refl _ _ | assumption | refine Below.drew ?_ | refine below_drewN ?_ _ | refine balloc ?_ _ | refine Below.setCell ?_ (by first | (simp; done) | (simp; omega) | omega) _ | refine bchain (by assumption) ?_))⟩
set_option maxRecDepth 100000 in
theorem headerDecodes_same (n k : Int) (hn : U64 n) (h : decB n = true) (hk : k = 3 ∨ k = 4) (w : World) :
    Calls Try.prog 8 #[.int .u64 n, .int .i64 k] w fun e w' => e = .returned (.bool true) ∧ Below w.heap.size w w' := by
  have h1 := fun W => decode_yes n hn h W
  have h2 := fun W => rdecode_yes n hn h W
  have h3 := fun W => change_yes n k hn h hk W
  have h4 := fun W => rchange_yes n k hn h hk W
  generalize decK n = ka at *
  generalize decC n = ca at *
  generalize decF n = fa at *
  generalize encI k ca fa = x at *
  clear hn h hk
  go_enter Try.func8, Try.ntmps8
  go_wp2_with fail
  refine (awake5 _).mono ?_
  rintro e w1 ⟨rfl, hb1⟩
  go_wp2_with fail
  refine (h1 _).mono ?_
  rintro e w2 ⟨rfl, hb2⟩
  go_wp2_with fail
  refine (h2 _).mono ?_
  rintro e w3 ⟨rfl, hb3⟩
  have sz3_0 : w2.heap.size < w3.heap.size := by have := hb3.size; (try simp at this); omega
  have q3_0_0 : w3.cell? ⟨w2.heap.size, 0, none⟩ = some (.int .i64 ka) := bcellv hb3 (by first | assumption | (simp [*, go_sem]; done))
  have q3_0_1 : w3.cell? ⟨w2.heap.size, 1, none⟩ = some (.int .i64 ca) := bcellv hb3 (by first | assumption | (simp [*, go_sem]; done))
  have q3_0_2 : w3.cell? ⟨w2.heap.size, 2, none⟩ = some (.int .i64 fa) := bcellv hb3 (by first | assumption | (simp [*, go_sem]; done))
  go_wp2_with fail
  refine (h3 _).mono ?_
  rintro e w4 ⟨rfl, hb4⟩
  have sz4_0 : w2.heap.size < w4.heap.size := by have := hb4.size; (try simp at this); omega
  have q4_0_0 : w4.cell? ⟨w2.heap.size, 0, none⟩ = some (.int .i64 ka) := bcellv hb4 (by first | assumption | (simp [*, go_sem]; done))
  have q4_0_1 : w4.cell? ⟨w2.heap.size, 1, none⟩ = some (.int .i64 ca) := bcellv hb4 (by first | assumption | (simp [*, go_sem]; done))
  have q4_0_2 : w4.cell? ⟨w2.heap.size, 2, none⟩ = some (.int .i64 fa) := bcellv hb4 (by first | assumption | (simp [*, go_sem]; done))
  have sz4_1 : w3.heap.size < w4.heap.size := by have := hb4.size; (try simp at this); omega
  have q4_1_0 : w4.cell? ⟨w3.heap.size, 0, none⟩ = some (.int .i64 ka) := bcellv hb4 (by first | assumption | (simp [*, go_sem]; done))
  have q4_1_1 : w4.cell? ⟨w3.heap.size, 1, none⟩ = some (.int .i64 ca) := bcellv hb4 (by first | assumption | (simp [*, go_sem]; done))
  have q4_1_2 : w4.cell? ⟨w3.heap.size, 2, none⟩ = some (.int .i64 fa) := bcellv hb4 (by first | assumption | (simp [*, go_sem]; done))
  go_wp2_with fail
  refine (h4 _).mono ?_
  rintro e w5 ⟨rfl, hb5⟩
  have sz5_0 : w2.heap.size < w5.heap.size := by have := hb5.size; (try simp at this); omega
  have q5_0_0 : w5.cell? ⟨w2.heap.size, 0, none⟩ = some (.int .i64 ka) := bcellv hb5 (by first | assumption | (simp [*, go_sem]; done))
  have q5_0_1 : w5.cell? ⟨w2.heap.size, 1, none⟩ = some (.int .i64 ca) := bcellv hb5 (by first | assumption | (simp [*, go_sem]; done))
  have q5_0_2 : w5.cell? ⟨w2.heap.size, 2, none⟩ = some (.int .i64 fa) := bcellv hb5 (by first | assumption | (simp [*, go_sem]; done))
  have sz5_1 : w3.heap.size < w5.heap.size := by have := hb5.size; (try simp at this); omega
  have q5_1_0 : w5.cell? ⟨w3.heap.size, 0, none⟩ = some (.int .i64 ka) := bcellv hb5 (by first | assumption | (simp [*, go_sem]; done))
  have q5_1_1 : w5.cell? ⟨w3.heap.size, 1, none⟩ = some (.int .i64 ca) := bcellv hb5 (by first | assumption | (simp [*, go_sem]; done))
  have q5_1_2 : w5.cell? ⟨w3.heap.size, 2, none⟩ = some (.int .i64 fa) := bcellv hb5 (by first | assumption | (simp [*, go_sem]; done))
  go_wp2
  go_ret
  exact ⟨rfl, by (repeat (first | exact Below.refl _ _ | assumption | refine Below.drew ?_ | refine below_drewN ?_ _ | refine balloc ?_ _ | refine Below.setCell ?_ (by first | (simp; done) | (simp; omega) | omega) _ | refine bchain (by assumption) ?_))⟩
set_option maxRecDepth 100000 in
theorem headerDecodes_arg (n k : Int) (hn : U64 n) (h : decB n = true) (g3 : k ≠ 3) (g4 : k ≠ 4) (w : World) :
    Calls Try.prog 8 #[.int .u64 n, .int .i64 k] w fun e w' => e = .returned (.bool true) ∧ Below w.heap.size w w' := by
  have h1 := fun W => decode_yes n hn h W
  have h2 := fun W => rdecode_yes n hn h W
  have h3 := fun W => change_arg n k hn h g3 g4 W
  have h4 := fun W => rchange_arg n k hn h g3 g4 W
  generalize decK n = ka at *
  generalize decC n = ca at *
  generalize decF n = fa at *
  clear hn h g3 g4
  go_enter Try.func8, Try.ntmps8
  go_wp2_with fail
  refine (awake5 _).mono ?_
  rintro e w1 ⟨rfl, hb1⟩
  go_wp2_with fail
  refine (h1 _).mono ?_
  rintro e w2 ⟨rfl, hb2⟩
  go_wp2_with fail
  refine (h2 _).mono ?_
  rintro e w3 ⟨rfl, hb3⟩
  have sz3_0 : w2.heap.size < w3.heap.size := by have := hb3.size; (try simp at this); omega
  have q3_0_0 : w3.cell? ⟨w2.heap.size, 0, none⟩ = some (.int .i64 ka) := bcellv hb3 (by first | assumption | (simp [*, go_sem]; done))
  have q3_0_1 : w3.cell? ⟨w2.heap.size, 1, none⟩ = some (.int .i64 ca) := bcellv hb3 (by first | assumption | (simp [*, go_sem]; done))
  have q3_0_2 : w3.cell? ⟨w2.heap.size, 2, none⟩ = some (.int .i64 fa) := bcellv hb3 (by first | assumption | (simp [*, go_sem]; done))
  go_wp2_with fail
  refine (h3 _).mono ?_
  rintro e w4 ⟨rfl, hb4⟩
  have sz4_0 : w2.heap.size < w4.heap.size := by have := hb4.size; (try simp at this); omega
  have q4_0_0 : w4.cell? ⟨w2.heap.size, 0, none⟩ = some (.int .i64 ka) := bcellv hb4 (by first | assumption | (simp [*, go_sem]; done))
  have q4_0_1 : w4.cell? ⟨w2.heap.size, 1, none⟩ = some (.int .i64 ca) := bcellv hb4 (by first | assumption | (simp [*, go_sem]; done))
  have q4_0_2 : w4.cell? ⟨w2.heap.size, 2, none⟩ = some (.int .i64 fa) := bcellv hb4 (by first | assumption | (simp [*, go_sem]; done))
  have sz4_1 : w3.heap.size < w4.heap.size := by have := hb4.size; (try simp at this); omega
  have q4_1_0 : w4.cell? ⟨w3.heap.size, 0, none⟩ = some (.int .i64 ka) := bcellv hb4 (by first | assumption | (simp [*, go_sem]; done))
  have q4_1_1 : w4.cell? ⟨w3.heap.size, 1, none⟩ = some (.int .i64 ca) := bcellv hb4 (by first | assumption | (simp [*, go_sem]; done))
  have q4_1_2 : w4.cell? ⟨w3.heap.size, 2, none⟩ = some (.int .i64 fa) := bcellv hb4 (by first | assumption | (simp [*, go_sem]; done))
  go_wp2_with fail
  refine (h4 _).mono ?_
  rintro e w5 ⟨rfl, hb5⟩
  have sz5_0 : w2.heap.size < w5.heap.size := by have := hb5.size; (try simp at this); omega
  have q5_0_0 : w5.cell? ⟨w2.heap.size, 0, none⟩ = some (.int .i64 ka) := bcellv hb5 (by first | assumption | (simp [*, go_sem]; done))
  have q5_0_1 : w5.cell? ⟨w2.heap.size, 1, none⟩ = some (.int .i64 ca) := bcellv hb5 (by first | assumption | (simp [*, go_sem]; done))
  have q5_0_2 : w5.cell? ⟨w2.heap.size, 2, none⟩ = some (.int .i64 fa) := bcellv hb5 (by first | assumption | (simp [*, go_sem]; done))
  have sz5_1 : w3.heap.size < w5.heap.size := by have := hb5.size; (try simp at this); omega
  have q5_1_0 : w5.cell? ⟨w3.heap.size, 0, none⟩ = some (.int .i64 ka) := bcellv hb5 (by first | assumption | (simp [*, go_sem]; done))
  have q5_1_1 : w5.cell? ⟨w3.heap.size, 1, none⟩ = some (.int .i64 ca) := bcellv hb5 (by first | assumption | (simp [*, go_sem]; done))
  have q5_1_2 : w5.cell? ⟨w3.heap.size, 2, none⟩ = some (.int .i64 fa) := bcellv hb5 (by first | assumption | (simp [*, go_sem]; done))
  go_wp2
  go_ret
  exact ⟨rfl, by (repeat (first | exact Below.refl _ _ | assumption | refine Below.drew ?_ | refine below_drewN ?_ _ | refine balloc ?_ _ | refine Below.setCell ?_ (by first | (simp; done) | (simp; omega) | omega) _ | refine bchain (by assumption) ?_))⟩
set_option maxRecDepth 100000 in
theorem headerDecodes_no (n k : Int) (hn : U64 n) (h : decB n = false) (w : World) :
    Calls Try.prog 8 #[.int .u64 n, .int .i64 k] w fun e w' => e = .returned (.bool true) ∧ Below w.heap.size w w' := by
  have h1 := fun W => decode_no n hn h W
  have h2 := fun W => rdecode_no n hn h W
  have h3 := fun W => change_no n k hn h W
  have h4 := fun W => rchange_no n k hn h W
  clear hn h
  go_enter Try.func8, Try.ntmps8
  go_wp2_with fail
  refine (awake5 _).mono ?_
  rintro e w1 ⟨rfl, hb1⟩
  go_wp2_with fail
  refine (h1 _).mono ?_
  rintro e w2 ⟨rfl, hb2⟩
  go_wp2_with fail
  refine (h2 _).mono ?_
  rintro e w3 ⟨rfl, hb3⟩
  have sz3_0 : w2.heap.size < w3.heap.size := by have := hb3.size; (try simp at this); omega
  have q3_0_0 : w3.cell? ⟨w2.heap.size, 0, none⟩ = some (.int .i64 0) := bcellv hb3 (by first | assumption | (simp [*, go_sem]; done))
  have q3_0_1 : w3.cell? ⟨w2.heap.size, 1, none⟩ = some (.int .i64 0) := bcellv hb3 (by first | assumption | (simp [*, go_sem]; done))
  have q3_0_2 : w3.cell? ⟨w2.heap.size, 2, none⟩ = some (.int .i64 0) := bcellv hb3 (by first | assumption | (simp [*, go_sem]; done))
  go_wp2_with fail
  refine (h3 _).mono ?_
  rintro e w4 ⟨rfl, hb4⟩
  have sz4_0 : w2.heap.size < w4.heap.size := by have := hb4.size; (try simp at this); omega
  have q4_0_0 : w4.cell? ⟨w2.heap.size, 0, none⟩ = some (.int .i64 0) := bcellv hb4 (by first | assumption | (simp [*, go_sem]; done))
  have q4_0_1 : w4.cell? ⟨w2.heap.size, 1, none⟩ = some (.int .i64 0) := bcellv hb4 (by first | assumption | (simp [*, go_sem]; done))
  have q4_0_2 : w4.cell? ⟨w2.heap.size, 2, none⟩ = some (.int .i64 0) := bcellv hb4 (by first | assumption | (simp [*, go_sem]; done))
  have sz4_1 : w3.heap.size < w4.heap.size := by have := hb4.size; (try simp at this); omega
  have q4_1_0 : w4.cell? ⟨w3.heap.size, 0, none⟩ = some (.int .i64 0) := bcellv hb4 (by first | assumption | (simp [*, go_sem]; done))
  have q4_1_1 : w4.cell? ⟨w3.heap.size, 1, none⟩ = some (.int .i64 0) := bcellv hb4 (by first | assumption | (simp [*, go_sem]; done))
  have q4_1_2 : w4.cell? ⟨w3.heap.size, 2, none⟩ = some (.int .i64 0) := bcellv hb4 (by first | assumption | (simp [*, go_sem]; done))
  go_wp2_with fail
  refine (h4 _).mono ?_
  rintro e w5 ⟨rfl, hb5⟩
  have sz5_0 : w2.heap.size < w5.heap.size := by have := hb5.size; (try simp at this); omega
  have q5_0_0 : w5.cell? ⟨w2.heap.size, 0, none⟩ = some (.int .i64 0) := bcellv hb5 (by first | assumption | (simp [*, go_sem]; done))
  have q5_0_1 : w5.cell? ⟨w2.heap.size, 1, none⟩ = some (.int .i64 0) := bcellv hb5 (by first | assumption | (simp [*, go_sem]; done))
  have q5_0_2 : w5.cell? ⟨w2.heap.size, 2, none⟩ = some (.int .i64 0) := bcellv hb5 (by first | assumption | (simp [*, go_sem]; done))
  have sz5_1 : w3.heap.size < w5.heap.size := by have := hb5.size; (try simp at this); omega
  have q5_1_0 : w5.cell? ⟨w3.heap.size, 0, none⟩ = some (.int .i64 0) := bcellv hb5 (by first | assumption | (simp [*, go_sem]; done))
  have q5_1_1 : w5.cell? ⟨w3.heap.size, 1, none⟩ = some (.int .i64 0) := bcellv hb5 (by first | assumption | (simp [*, go_sem]; done))
  have q5_1_2 : w5.cell? ⟨w3.heap.size, 2, none⟩ = some (.int .i64 0) := bcellv hb5 (by first | assumption | (simp [*, go_sem]; done))
  go_wp2
  go_ret
  exact ⟨rfl, by (repeat (first | exact Below.refl _ _ | assumption | refine Below.drew ?_ | refine below_drewN ?_ _ | refine balloc ?_ _ | refine Below.setCell ?_ (by first | (simp; done) | (simp; omega) | omega) _ | refine bchain (by assumption) ?_))⟩
set_option maxRecDepth 100000 in
theorem headerIdentities_yes_yes (m s n : Int) (hn : U64 n) (h : idB m s = true) (g : didB n = true) (w : World) :
    Calls Try.prog 6 #[.agg #[.int .i64 m, .int .i64 s], .int .u64 n] w fun e w' => e = .returned (.bool true) ∧ Below w.heap.size w w' := by
  have h1 := fun W => encodeID_yes m s h W
  have h2 := fun W => rencodeID_yes m s h W
  have h3 := fun W => decodeID_yes n hn g W
  have h4 := fun W => rdecodeID_yes n hn g W
  generalize idI m s = x at *
  generalize didM n = y at *
  generalize didS n = z at *
  clear hn h g
  go_enter Try.func6, Try.ntmps6
  go_wp2_with fail
  refine (awake5 _).mono ?_
  rintro e w1 ⟨rfl, hb1⟩
  have sz1_0 : w.heap.size < w1.heap.size := by have := hb1.size; (try simp at this); omega
  have q1_0_0 : w1.cell? ⟨w.heap.size, 0, none⟩ = some (.int .i64 m) := bcellv hb1 (by first | assumption | (simp [*, go_sem]; done))
  have q1_0_1 : w1.cell? ⟨w.heap.size, 1, none⟩ = some (.int .i64 s) := bcellv hb1 (by first | assumption | (simp [*, go_sem]; done))
  go_wp2_with fail
  refine (h1 _).mono ?_
  rintro e w2 ⟨rfl, hb2⟩
  have sz2_0 : w.heap.size < w2.heap.size := by have := hb2.size; (try simp at this); omega
  have q2_0_0 : w2.cell? ⟨w.heap.size, 0, none⟩ = some (.int .i64 m) := bcellv hb2 (by first | assumption | (simp [*, go_sem]; done))
  have q2_0_1 : w2.cell? ⟨w.heap.size, 1, none⟩ = some (.int .i64 s) := bcellv hb2 (by first | assumption | (simp [*, go_sem]; done))
  go_wp2_with fail
  refine (h2 _).mono ?_
  rintro e w3 ⟨rfl, hb3⟩
  have sz3_0 : w.heap.size < w3.heap.size := by have := hb3.size; (try simp at this); omega
  have q3_0_0 : w3.cell? ⟨w.heap.size, 0, none⟩ = some (.int .i64 m) := bcellv hb3 (by first | assumption | (simp [*, go_sem]; done))
  have q3_0_1 : w3.cell? ⟨w.heap.size, 1, none⟩ = some (.int .i64 s) := bcellv hb3 (by first | assumption | (simp [*, go_sem]; done))
  go_wp2_with fail
  refine (h3 _).mono ?_
  rintro e w4 ⟨rfl, hb4⟩
  have sz4_0 : w.heap.size < w4.heap.size := by have := hb4.size; (try simp at this); omega
  have q4_0_0 : w4.cell? ⟨w.heap.size, 0, none⟩ = some (.int .i64 m) := bcellv hb4 (by first | assumption | (simp [*, go_sem]; done))
  have q4_0_1 : w4.cell? ⟨w.heap.size, 1, none⟩ = some (.int .i64 s) := bcellv hb4 (by first | assumption | (simp [*, go_sem]; done))
  go_wp2_with fail
  refine (h4 _).mono ?_
  rintro e w5 ⟨rfl, hb5⟩
  have sz5_0 : w.heap.size < w5.heap.size := by have := hb5.size; (try simp at this); omega
  have q5_0_0 : w5.cell? ⟨w.heap.size, 0, none⟩ = some (.int .i64 m) := bcellv hb5 (by first | assumption | (simp [*, go_sem]; done))
  have q5_0_1 : w5.cell? ⟨w.heap.size, 1, none⟩ = some (.int .i64 s) := bcellv hb5 (by first | assumption | (simp [*, go_sem]; done))
  go_wp2
  go_ret
  exact ⟨rfl, by (repeat (first | exact Below.refl _ _ | assumption | refine Below.drew ?_ | refine below_drewN ?_ _ | refine balloc ?_ _ | refine Below.setCell ?_ (by first | (simp; done) | (simp; omega) | omega) _ | refine bchain (by assumption) ?_))⟩
set_option maxRecDepth 100000 in
theorem headerIdentities_yes_no (m s n : Int) (hn : U64 n) (h : idB m s = true) (g : didB n = false) (w : World) :
    Calls Try.prog 6 #[.agg #[.int .i64 m, .int .i64 s], .int .u64 n] w fun e w' => e = .returned (.bool true) ∧ Below w.heap.size w w' := by
  have h1 := fun W => encodeID_yes m s h W
  have h2 := fun W => rencodeID_yes m s h W
  have h3 := fun W => decodeID_no n hn g W
  have h4 := fun W => rdecodeID_no n hn g W
  generalize idI m s = x at *
  generalize didM n = y at *
  generalize didS n = z at *
  clear hn h g
  go_enter Try.func6, Try.ntmps6
  go_wp2_with fail
  refine (awake5 _).mono ?_
  rintro e w1 ⟨rfl, hb1⟩
  have sz1_0 : w.heap.size < w1.heap.size := by have := hb1.size; (try simp at this); omega
  have q1_0_0 : w1.cell? ⟨w.heap.size, 0, none⟩ = some (.int .i64 m) := bcellv hb1 (by first | assumption | (simp [*, go_sem]; done))
  have q1_0_1 : w1.cell? ⟨w.heap.size, 1, none⟩ = some (.int .i64 s) := bcellv hb1 (by first | assumption | (simp [*, go_sem]; done))
  go_wp2_with fail
  refine (h1 _).mono ?_
  rintro e w2 ⟨rfl, hb2⟩
  have sz2_0 : w.heap.size < w2.heap.size := by have := hb2.size; (try simp at this); omega
  have q2_0_0 : w2.cell? ⟨w.heap.size, 0, none⟩ = some (.int .i64 m) := bcellv hb2 (by first | assumption | (simp [*, go_sem]; done))
  have q2_0_1 : w2.cell? ⟨w.heap.size, 1, none⟩ = some (.int .i64 s) := bcellv hb2 (by first | assumption | (simp [*, go_sem]; done))
  go_wp2_with fail
  refine (h2 _).mono ?_
  rintro e w3 ⟨rfl, hb3⟩
  have sz3_0 : w.heap.size < w3.heap.size := by have := hb3.size; (try simp at this); omega
  have q3_0_0 : w3.cell? ⟨w.heap.size, 0, none⟩ = some (.int .i64 m) := bcellv hb3 (by first | assumption | (simp [*, go_sem]; done))
  have q3_0_1 : w3.cell? ⟨w.heap.size, 1, none⟩ = some (.int .i64 s) := bcellv hb3 (by first | assumption | (simp [*, go_sem]; done))
  go_wp2_with fail
  refine (h3 _).mono ?_
  rintro e w4 ⟨rfl, hb4⟩
  have sz4_0 : w.heap.size < w4.heap.size := by have := hb4.size; (try simp at this); omega
  have q4_0_0 : w4.cell? ⟨w.heap.size, 0, none⟩ = some (.int .i64 m) := bcellv hb4 (by first | assumption | (simp [*, go_sem]; done))
  have q4_0_1 : w4.cell? ⟨w.heap.size, 1, none⟩ = some (.int .i64 s) := bcellv hb4 (by first | assumption | (simp [*, go_sem]; done))
  go_wp2_with fail
  refine (h4 _).mono ?_
  rintro e w5 ⟨rfl, hb5⟩
  have sz5_0 : w.heap.size < w5.heap.size := by have := hb5.size; (try simp at this); omega
  have q5_0_0 : w5.cell? ⟨w.heap.size, 0, none⟩ = some (.int .i64 m) := bcellv hb5 (by first | assumption | (simp [*, go_sem]; done))
  have q5_0_1 : w5.cell? ⟨w.heap.size, 1, none⟩ = some (.int .i64 s) := bcellv hb5 (by first | assumption | (simp [*, go_sem]; done))
  go_wp2
  go_ret
  exact ⟨rfl, by (repeat (first | exact Below.refl _ _ | assumption | refine Below.drew ?_ | refine below_drewN ?_ _ | refine balloc ?_ _ | refine Below.setCell ?_ (by first | (simp; done) | (simp; omega) | omega) _ | refine bchain (by assumption) ?_))⟩
set_option maxRecDepth 100000 in
theorem headerIdentities_no_yes (m s n : Int) (hn : U64 n) (h : idB m s = false) (g : didB n = true) (w : World) :
    Calls Try.prog 6 #[.agg #[.int .i64 m, .int .i64 s], .int .u64 n] w fun e w' => e = .returned (.bool true) ∧ Below w.heap.size w w' := by
  have h1 := fun W => encodeID_no m s h W
  have h2 := fun W => rencodeID_no m s h W
  have h3 := fun W => decodeID_yes n hn g W
  have h4 := fun W => rdecodeID_yes n hn g W
  generalize idI m s = x at *
  generalize didM n = y at *
  generalize didS n = z at *
  clear hn h g
  go_enter Try.func6, Try.ntmps6
  go_wp2_with fail
  refine (awake5 _).mono ?_
  rintro e w1 ⟨rfl, hb1⟩
  have sz1_0 : w.heap.size < w1.heap.size := by have := hb1.size; (try simp at this); omega
  have q1_0_0 : w1.cell? ⟨w.heap.size, 0, none⟩ = some (.int .i64 m) := bcellv hb1 (by first | assumption | (simp [*, go_sem]; done))
  have q1_0_1 : w1.cell? ⟨w.heap.size, 1, none⟩ = some (.int .i64 s) := bcellv hb1 (by first | assumption | (simp [*, go_sem]; done))
  go_wp2_with fail
  refine (h1 _).mono ?_
  rintro e w2 ⟨rfl, hb2⟩
  have sz2_0 : w.heap.size < w2.heap.size := by have := hb2.size; (try simp at this); omega
  have q2_0_0 : w2.cell? ⟨w.heap.size, 0, none⟩ = some (.int .i64 m) := bcellv hb2 (by first | assumption | (simp [*, go_sem]; done))
  have q2_0_1 : w2.cell? ⟨w.heap.size, 1, none⟩ = some (.int .i64 s) := bcellv hb2 (by first | assumption | (simp [*, go_sem]; done))
  go_wp2_with fail
  refine (h2 _).mono ?_
  rintro e w3 ⟨rfl, hb3⟩
  have sz3_0 : w.heap.size < w3.heap.size := by have := hb3.size; (try simp at this); omega
  have q3_0_0 : w3.cell? ⟨w.heap.size, 0, none⟩ = some (.int .i64 m) := bcellv hb3 (by first | assumption | (simp [*, go_sem]; done))
  have q3_0_1 : w3.cell? ⟨w.heap.size, 1, none⟩ = some (.int .i64 s) := bcellv hb3 (by first | assumption | (simp [*, go_sem]; done))
  go_wp2_with fail
  refine (h3 _).mono ?_
  rintro e w4 ⟨rfl, hb4⟩
  have sz4_0 : w.heap.size < w4.heap.size := by have := hb4.size; (try simp at this); omega
  have q4_0_0 : w4.cell? ⟨w.heap.size, 0, none⟩ = some (.int .i64 m) := bcellv hb4 (by first | assumption | (simp [*, go_sem]; done))
  have q4_0_1 : w4.cell? ⟨w.heap.size, 1, none⟩ = some (.int .i64 s) := bcellv hb4 (by first | assumption | (simp [*, go_sem]; done))
  go_wp2_with fail
  refine (h4 _).mono ?_
  rintro e w5 ⟨rfl, hb5⟩
  have sz5_0 : w.heap.size < w5.heap.size := by have := hb5.size; (try simp at this); omega
  have q5_0_0 : w5.cell? ⟨w.heap.size, 0, none⟩ = some (.int .i64 m) := bcellv hb5 (by first | assumption | (simp [*, go_sem]; done))
  have q5_0_1 : w5.cell? ⟨w.heap.size, 1, none⟩ = some (.int .i64 s) := bcellv hb5 (by first | assumption | (simp [*, go_sem]; done))
  go_wp2
  go_ret
  exact ⟨rfl, by (repeat (first | exact Below.refl _ _ | assumption | refine Below.drew ?_ | refine below_drewN ?_ _ | refine balloc ?_ _ | refine Below.setCell ?_ (by first | (simp; done) | (simp; omega) | omega) _ | refine bchain (by assumption) ?_))⟩
set_option maxRecDepth 100000 in
theorem headerIdentities_no_no (m s n : Int) (hn : U64 n) (h : idB m s = false) (g : didB n = false) (w : World) :
    Calls Try.prog 6 #[.agg #[.int .i64 m, .int .i64 s], .int .u64 n] w fun e w' => e = .returned (.bool true) ∧ Below w.heap.size w w' := by
  have h1 := fun W => encodeID_no m s h W
  have h2 := fun W => rencodeID_no m s h W
  have h3 := fun W => decodeID_no n hn g W
  have h4 := fun W => rdecodeID_no n hn g W
  generalize idI m s = x at *
  generalize didM n = y at *
  generalize didS n = z at *
  clear hn h g
  go_enter Try.func6, Try.ntmps6
  go_wp2_with fail
  refine (awake5 _).mono ?_
  rintro e w1 ⟨rfl, hb1⟩
  have sz1_0 : w.heap.size < w1.heap.size := by have := hb1.size; (try simp at this); omega
  have q1_0_0 : w1.cell? ⟨w.heap.size, 0, none⟩ = some (.int .i64 m) := bcellv hb1 (by first | assumption | (simp [*, go_sem]; done))
  have q1_0_1 : w1.cell? ⟨w.heap.size, 1, none⟩ = some (.int .i64 s) := bcellv hb1 (by first | assumption | (simp [*, go_sem]; done))
  go_wp2_with fail
  refine (h1 _).mono ?_
  rintro e w2 ⟨rfl, hb2⟩
  have sz2_0 : w.heap.size < w2.heap.size := by have := hb2.size; (try simp at this); omega
  have q2_0_0 : w2.cell? ⟨w.heap.size, 0, none⟩ = some (.int .i64 m) := bcellv hb2 (by first | assumption | (simp [*, go_sem]; done))
  have q2_0_1 : w2.cell? ⟨w.heap.size, 1, none⟩ = some (.int .i64 s) := bcellv hb2 (by first | assumption | (simp [*, go_sem]; done))
  go_wp2_with fail
  refine (h2 _).mono ?_
  rintro e w3 ⟨rfl, hb3⟩
  have sz3_0 : w.heap.size < w3.heap.size := by have := hb3.size; (try simp at this); omega
  have q3_0_0 : w3.cell? ⟨w.heap.size, 0, none⟩ = some (.int .i64 m) := bcellv hb3 (by first | assumption | (simp [*, go_sem]; done))
  have q3_0_1 : w3.cell? ⟨w.heap.size, 1, none⟩ = some (.int .i64 s) := bcellv hb3 (by first | assumption | (simp [*, go_sem]; done))
  go_wp2_with fail
  refine (h3 _).mono ?_
  rintro e w4 ⟨rfl, hb4⟩
  have sz4_0 : w.heap.size < w4.heap.size := by have := hb4.size; (try simp at this); omega
  have q4_0_0 : w4.cell? ⟨w.heap.size, 0, none⟩ = some (.int .i64 m) := bcellv hb4 (by first | assumption | (simp [*, go_sem]; done))
  have q4_0_1 : w4.cell? ⟨w.heap.size, 1, none⟩ = some (.int .i64 s) := bcellv hb4 (by first | assumption | (simp [*, go_sem]; done))
  go_wp2_with fail
  refine (h4 _).mono ?_
  rintro e w5 ⟨rfl, hb5⟩
  have sz5_0 : w.heap.size < w5.heap.size := by have := hb5.size; (try simp at this); omega
  have q5_0_0 : w5.cell? ⟨w.heap.size, 0, none⟩ = some (.int .i64 m) := bcellv hb5 (by first | assumption | (simp [*, go_sem]; done))
  have q5_0_1 : w5.cell? ⟨w.heap.size, 1, none⟩ = some (.int .i64 s) := bcellv hb5 (by first | assumption | (simp [*, go_sem]; done))
  go_wp2
  go_ret
  exact ⟨rfl, by (repeat (first | exact Below.refl _ _ | assumption | refine Below.drew ?_ | refine below_drewN ?_ _ | refine balloc ?_ _ | refine Below.setCell ?_ (by first | (simp; done) | (simp; omega) | omega) _ | refine bchain (by assumption) ?_))⟩
set_option maxRecDepth 100000 in
theorem headerSame_eqsame (m s : Int) (h : idB m s = true) (w : World) :
    Calls Try.prog 7 #[.agg #[.int .i64 m, .int .i64 s], .agg #[.int .i64 m, .int .i64 s]] w fun e w' => e = .returned (.bool true) ∧ Below w.heap.size w w' := by
  have h1 := fun W => encodeID_yes m s h W
  have hx := idI_bd h
  obtain ⟨e1, e2⟩ := did_id h
  have hd : didB (idI m s) = true := by unfold didB; rw [e1, e2]; exact h
  have h3 := fun W => decodeID_yes (idI m s) (U64.of (by omega) (by omega)) hd W
  have h4 := fun W => decodeID_no 0 (U64.of (by omega) (by omega)) (by decide) W
  rw [e1, e2] at h3
  have h2 := h1
  have b3 : (idI m s != 0) = true := by simp; omega
  generalize idI m s = x at *
  clear h hx e1 e2 hd 
  go_enter Try.func7, Try.ntmps7
  go_wp2_with fail
  refine (awake5 _).mono ?_
  rintro e w1 ⟨rfl, hb1⟩
  have sz1_0 : w.heap.size < w1.heap.size := by have := hb1.size; (try simp at this); omega
  have q1_0_0 : w1.cell? ⟨w.heap.size, 0, none⟩ = some (.int .i64 m) := bcellv hb1 (by first | assumption | (simp [*, go_sem]; done))
  have q1_0_1 : w1.cell? ⟨w.heap.size, 1, none⟩ = some (.int .i64 s) := bcellv hb1 (by first | assumption | (simp [*, go_sem]; done))
  have sz1_1 : w.heap.size + 1 < w1.heap.size := by have := hb1.size; (try simp at this); omega
  have q1_1_0 : w1.cell? ⟨w.heap.size + 1, 0, none⟩ = some (.int .i64 m) := bcellv hb1 (by first | assumption | (simp [*, go_sem]; done))
  have q1_1_1 : w1.cell? ⟨w.heap.size + 1, 1, none⟩ = some (.int .i64 s) := bcellv hb1 (by first | assumption | (simp [*, go_sem]; done))
  go_wp2_with fail
  refine (h1 _).mono ?_
  rintro e w2 ⟨rfl, hb2⟩
  have sz2_0 : w.heap.size < w2.heap.size := by have := hb2.size; (try simp at this); omega
  have q2_0_0 : w2.cell? ⟨w.heap.size, 0, none⟩ = some (.int .i64 m) := bcellv hb2 (by first | assumption | (simp [*, go_sem]; done))
  have q2_0_1 : w2.cell? ⟨w.heap.size, 1, none⟩ = some (.int .i64 s) := bcellv hb2 (by first | assumption | (simp [*, go_sem]; done))
  have sz2_1 : w.heap.size + 1 < w2.heap.size := by have := hb2.size; (try simp at this); omega
  have q2_1_0 : w2.cell? ⟨w.heap.size + 1, 0, none⟩ = some (.int .i64 m) := bcellv hb2 (by first | assumption | (simp [*, go_sem]; done))
  have q2_1_1 : w2.cell? ⟨w.heap.size + 1, 1, none⟩ = some (.int .i64 s) := bcellv hb2 (by first | assumption | (simp [*, go_sem]; done))
  go_wp2_with fail
  refine (h2 _).mono ?_
  rintro e w3 ⟨rfl, hb3⟩
  have sz3_0 : w.heap.size < w3.heap.size := by have := hb3.size; (try simp at this); omega
  have q3_0_0 : w3.cell? ⟨w.heap.size, 0, none⟩ = some (.int .i64 m) := bcellv hb3 (by first | assumption | (simp [*, go_sem]; done))
  have q3_0_1 : w3.cell? ⟨w.heap.size, 1, none⟩ = some (.int .i64 s) := bcellv hb3 (by first | assumption | (simp [*, go_sem]; done))
  have sz3_1 : w.heap.size + 1 < w3.heap.size := by have := hb3.size; (try simp at this); omega
  have q3_1_0 : w3.cell? ⟨w.heap.size + 1, 0, none⟩ = some (.int .i64 m) := bcellv hb3 (by first | assumption | (simp [*, go_sem]; done))
  have q3_1_1 : w3.cell? ⟨w.heap.size + 1, 1, none⟩ = some (.int .i64 s) := bcellv hb3 (by first | assumption | (simp [*, go_sem]; done))
  go_wp2_with fail
  have o0_0 : ∀ x, (over w3 x).cell? ⟨w.heap.size, 0, none⟩ = some (.int .i64 m) := over_cell (by first | assumption | (simp [*, go_sem]; done))
  have o0_1 : ∀ x, (over w3 x).cell? ⟨w.heap.size, 1, none⟩ = some (.int .i64 s) := over_cell (by first | assumption | (simp [*, go_sem]; done))
  have o1_0 : ∀ x, (over w3 x).cell? ⟨w.heap.size + 1, 0, none⟩ = some (.int .i64 m) := over_cell (by first | assumption | (simp [*, go_sem]; done))
  have o1_1 : ∀ x, (over w3 x).cell? ⟨w.heap.size + 1, 1, none⟩ = some (.int .i64 s) := over_cell (by first | assumption | (simp [*, go_sem]; done))
  (refine wp_region_over (by kernel_rfl) (by kernel_rfl) ?_)
  (repeat (go_big_quiet_step ((first | (go_at_call_of 22 x; exact calls_over (h3 _)) | (go_at_call_of 22 (Value.int IntKind.u64 0); exact calls_over (h4 _))))))
  (refine wpQuiet_nil ?_)
  intro w4 hb4
  clear o0_0
  clear o0_1
  clear o1_0
  clear o1_1
  have sz4_0 : w.heap.size < w4.heap.size := by have := hb4.size; (try simp at this); omega
  have q4_0_0 : w4.cell? ⟨w.heap.size, 0, none⟩ = some (.int .i64 m) := bcellv hb4 (by first | assumption | (simp [*, go_sem]; done))
  have q4_0_1 : w4.cell? ⟨w.heap.size, 1, none⟩ = some (.int .i64 s) := bcellv hb4 (by first | assumption | (simp [*, go_sem]; done))
  have sz4_1 : w.heap.size + 1 < w4.heap.size := by have := hb4.size; (try simp at this); omega
  have q4_1_0 : w4.cell? ⟨w.heap.size + 1, 0, none⟩ = some (.int .i64 m) := bcellv hb4 (by first | assumption | (simp [*, go_sem]; done))
  have q4_1_1 : w4.cell? ⟨w.heap.size + 1, 1, none⟩ = some (.int .i64 s) := bcellv hb4 (by first | assumption | (simp [*, go_sem]; done))
  go_wp2
  go_ret
  exact ⟨rfl, by (repeat (first | exact Below.refl _ _ | assumption | refine Below.drew ?_ | refine below_drewN ?_ _ | refine balloc ?_ _ | refine Below.setCell ?_ (by first | (simp; done) | (simp; omega) | omega) _ | refine bchain (by assumption) ?_))⟩
set_option maxRecDepth 100000 in
theorem headerSame_eqm (m s m2 s2 : Int) (h : idB m s = true) (g : idB m2 s2 = true) (hne : m ≠ m2) (w : World) :
    Calls Try.prog 7 #[.agg #[.int .i64 m, .int .i64 s], .agg #[.int .i64 m2, .int .i64 s2]] w fun e w' => e = .returned (.bool true) ∧ Below w.heap.size w w' := by
  have h1 := fun W => encodeID_yes m s h W
  have hx := idI_bd h
  obtain ⟨e1, e2⟩ := did_id h
  have hd : didB (idI m s) = true := by unfold didB; rw [e1, e2]; exact h
  have h3 := fun W => decodeID_yes (idI m s) (U64.of (by omega) (by omega)) hd W
  have h4 := fun W => decodeID_no 0 (U64.of (by omega) (by omega)) (by decide) W
  rw [e1, e2] at h3
  have h2 := fun W => encodeID_yes m2 s2 g W
  have hxy : ¬ idI m s = idI m2 s2 := idI_ne h g (by omega)
  have b1 : (idI m s == idI m2 s2) = false := by simpa using hxy
  have b2 : (m == m2) = false := by simpa using hne
  have b3 : (idI m s != 0) = true := by simp; omega
  generalize idI m s = x at *
  generalize idI m2 s2 = y at *
  clear h hx e1 e2 hd g hxy hne
  go_enter Try.func7, Try.ntmps7
  go_wp2_with fail
  refine (awake5 _).mono ?_
  rintro e w1 ⟨rfl, hb1⟩
  have sz1_0 : w.heap.size < w1.heap.size := by have := hb1.size; (try simp at this); omega
  have q1_0_0 : w1.cell? ⟨w.heap.size, 0, none⟩ = some (.int .i64 m) := bcellv hb1 (by first | assumption | (simp [*, go_sem]; done))
  have q1_0_1 : w1.cell? ⟨w.heap.size, 1, none⟩ = some (.int .i64 s) := bcellv hb1 (by first | assumption | (simp [*, go_sem]; done))
  have sz1_1 : w.heap.size + 1 < w1.heap.size := by have := hb1.size; (try simp at this); omega
  have q1_1_0 : w1.cell? ⟨w.heap.size + 1, 0, none⟩ = some (.int .i64 m2) := bcellv hb1 (by first | assumption | (simp [*, go_sem]; done))
  have q1_1_1 : w1.cell? ⟨w.heap.size + 1, 1, none⟩ = some (.int .i64 s2) := bcellv hb1 (by first | assumption | (simp [*, go_sem]; done))
  go_wp2_with fail
  refine (h1 _).mono ?_
  rintro e w2 ⟨rfl, hb2⟩
  have sz2_0 : w.heap.size < w2.heap.size := by have := hb2.size; (try simp at this); omega
  have q2_0_0 : w2.cell? ⟨w.heap.size, 0, none⟩ = some (.int .i64 m) := bcellv hb2 (by first | assumption | (simp [*, go_sem]; done))
  have q2_0_1 : w2.cell? ⟨w.heap.size, 1, none⟩ = some (.int .i64 s) := bcellv hb2 (by first | assumption | (simp [*, go_sem]; done))
  have sz2_1 : w.heap.size + 1 < w2.heap.size := by have := hb2.size; (try simp at this); omega
  have q2_1_0 : w2.cell? ⟨w.heap.size + 1, 0, none⟩ = some (.int .i64 m2) := bcellv hb2 (by first | assumption | (simp [*, go_sem]; done))
  have q2_1_1 : w2.cell? ⟨w.heap.size + 1, 1, none⟩ = some (.int .i64 s2) := bcellv hb2 (by first | assumption | (simp [*, go_sem]; done))
  go_wp2_with fail
  refine (h2 _).mono ?_
  rintro e w3 ⟨rfl, hb3⟩
  have sz3_0 : w.heap.size < w3.heap.size := by have := hb3.size; (try simp at this); omega
  have q3_0_0 : w3.cell? ⟨w.heap.size, 0, none⟩ = some (.int .i64 m) := bcellv hb3 (by first | assumption | (simp [*, go_sem]; done))
  have q3_0_1 : w3.cell? ⟨w.heap.size, 1, none⟩ = some (.int .i64 s) := bcellv hb3 (by first | assumption | (simp [*, go_sem]; done))
  have sz3_1 : w.heap.size + 1 < w3.heap.size := by have := hb3.size; (try simp at this); omega
  have q3_1_0 : w3.cell? ⟨w.heap.size + 1, 0, none⟩ = some (.int .i64 m2) := bcellv hb3 (by first | assumption | (simp [*, go_sem]; done))
  have q3_1_1 : w3.cell? ⟨w.heap.size + 1, 1, none⟩ = some (.int .i64 s2) := bcellv hb3 (by first | assumption | (simp [*, go_sem]; done))
  go_wp2_with fail
  have o0_0 : ∀ x, (over w3 x).cell? ⟨w.heap.size, 0, none⟩ = some (.int .i64 m) := over_cell (by first | assumption | (simp [*, go_sem]; done))
  have o0_1 : ∀ x, (over w3 x).cell? ⟨w.heap.size, 1, none⟩ = some (.int .i64 s) := over_cell (by first | assumption | (simp [*, go_sem]; done))
  have o1_0 : ∀ x, (over w3 x).cell? ⟨w.heap.size + 1, 0, none⟩ = some (.int .i64 m2) := over_cell (by first | assumption | (simp [*, go_sem]; done))
  have o1_1 : ∀ x, (over w3 x).cell? ⟨w.heap.size + 1, 1, none⟩ = some (.int .i64 s2) := over_cell (by first | assumption | (simp [*, go_sem]; done))
  (refine wp_region_over (by kernel_rfl) (by kernel_rfl) ?_)
  (repeat (go_big_quiet_step ((first | (go_at_call_of 22 x; exact calls_over (h3 _)) | (go_at_call_of 22 (Value.int IntKind.u64 0); exact calls_over (h4 _))))))
  (refine wpQuiet_nil ?_)
  intro w4 hb4
  clear o0_0
  clear o0_1
  clear o1_0
  clear o1_1
  have sz4_0 : w.heap.size < w4.heap.size := by have := hb4.size; (try simp at this); omega
  have q4_0_0 : w4.cell? ⟨w.heap.size, 0, none⟩ = some (.int .i64 m) := bcellv hb4 (by first | assumption | (simp [*, go_sem]; done))
  have q4_0_1 : w4.cell? ⟨w.heap.size, 1, none⟩ = some (.int .i64 s) := bcellv hb4 (by first | assumption | (simp [*, go_sem]; done))
  have sz4_1 : w.heap.size + 1 < w4.heap.size := by have := hb4.size; (try simp at this); omega
  have q4_1_0 : w4.cell? ⟨w.heap.size + 1, 0, none⟩ = some (.int .i64 m2) := bcellv hb4 (by first | assumption | (simp [*, go_sem]; done))
  have q4_1_1 : w4.cell? ⟨w.heap.size + 1, 1, none⟩ = some (.int .i64 s2) := bcellv hb4 (by first | assumption | (simp [*, go_sem]; done))
  go_wp2
  go_ret
  exact ⟨rfl, by (repeat (first | exact Below.refl _ _ | assumption | refine Below.drew ?_ | refine below_drewN ?_ _ | refine balloc ?_ _ | refine Below.setCell ?_ (by first | (simp; done) | (simp; omega) | omega) _ | refine bchain (by assumption) ?_))⟩
set_option maxRecDepth 100000 in
theorem headerSame_eqs (m s s2 : Int) (h : idB m s = true) (g : idB m s2 = true) (hne : s ≠ s2) (w : World) :
    Calls Try.prog 7 #[.agg #[.int .i64 m, .int .i64 s], .agg #[.int .i64 m, .int .i64 s2]] w fun e w' => e = .returned (.bool true) ∧ Below w.heap.size w w' := by
  have h1 := fun W => encodeID_yes m s h W
  have hx := idI_bd h
  obtain ⟨e1, e2⟩ := did_id h
  have hd : didB (idI m s) = true := by unfold didB; rw [e1, e2]; exact h
  have h3 := fun W => decodeID_yes (idI m s) (U64.of (by omega) (by omega)) hd W
  have h4 := fun W => decodeID_no 0 (U64.of (by omega) (by omega)) (by decide) W
  rw [e1, e2] at h3
  have h2 := fun W => encodeID_yes m s2 g W
  have hxy : ¬ idI m s = idI m s2 := idI_ne h g (by omega)
  have b1 : (idI m s == idI m s2) = false := by simpa using hxy
  have b2 : (s == s2) = false := by simpa using hne
  have b3 : (idI m s != 0) = true := by simp; omega
  generalize idI m s = x at *
  generalize idI m s2 = y at *
  clear h hx e1 e2 hd g hxy hne
  go_enter Try.func7, Try.ntmps7
  go_wp2_with fail
  refine (awake5 _).mono ?_
  rintro e w1 ⟨rfl, hb1⟩
  have sz1_0 : w.heap.size < w1.heap.size := by have := hb1.size; (try simp at this); omega
  have q1_0_0 : w1.cell? ⟨w.heap.size, 0, none⟩ = some (.int .i64 m) := bcellv hb1 (by first | assumption | (simp [*, go_sem]; done))
  have q1_0_1 : w1.cell? ⟨w.heap.size, 1, none⟩ = some (.int .i64 s) := bcellv hb1 (by first | assumption | (simp [*, go_sem]; done))
  have sz1_1 : w.heap.size + 1 < w1.heap.size := by have := hb1.size; (try simp at this); omega
  have q1_1_0 : w1.cell? ⟨w.heap.size + 1, 0, none⟩ = some (.int .i64 m) := bcellv hb1 (by first | assumption | (simp [*, go_sem]; done))
  have q1_1_1 : w1.cell? ⟨w.heap.size + 1, 1, none⟩ = some (.int .i64 s2) := bcellv hb1 (by first | assumption | (simp [*, go_sem]; done))
  go_wp2_with fail
  refine (h1 _).mono ?_
  rintro e w2 ⟨rfl, hb2⟩
  have sz2_0 : w.heap.size < w2.heap.size := by have := hb2.size; (try simp at this); omega
  have q2_0_0 : w2.cell? ⟨w.heap.size, 0, none⟩ = some (.int .i64 m) := bcellv hb2 (by first | assumption | (simp [*, go_sem]; done))
  have q2_0_1 : w2.cell? ⟨w.heap.size, 1, none⟩ = some (.int .i64 s) := bcellv hb2 (by first | assumption | (simp [*, go_sem]; done))
  have sz2_1 : w.heap.size + 1 < w2.heap.size := by have := hb2.size; (try simp at this); omega
  have q2_1_0 : w2.cell? ⟨w.heap.size + 1, 0, none⟩ = some (.int .i64 m) := bcellv hb2 (by first | assumption | (simp [*, go_sem]; done))
  have q2_1_1 : w2.cell? ⟨w.heap.size + 1, 1, none⟩ = some (.int .i64 s2) := bcellv hb2 (by first | assumption | (simp [*, go_sem]; done))
  go_wp2_with fail
  refine (h2 _).mono ?_
  rintro e w3 ⟨rfl, hb3⟩
  have sz3_0 : w.heap.size < w3.heap.size := by have := hb3.size; (try simp at this); omega
  have q3_0_0 : w3.cell? ⟨w.heap.size, 0, none⟩ = some (.int .i64 m) := bcellv hb3 (by first | assumption | (simp [*, go_sem]; done))
  have q3_0_1 : w3.cell? ⟨w.heap.size, 1, none⟩ = some (.int .i64 s) := bcellv hb3 (by first | assumption | (simp [*, go_sem]; done))
  have sz3_1 : w.heap.size + 1 < w3.heap.size := by have := hb3.size; (try simp at this); omega
  have q3_1_0 : w3.cell? ⟨w.heap.size + 1, 0, none⟩ = some (.int .i64 m) := bcellv hb3 (by first | assumption | (simp [*, go_sem]; done))
  have q3_1_1 : w3.cell? ⟨w.heap.size + 1, 1, none⟩ = some (.int .i64 s2) := bcellv hb3 (by first | assumption | (simp [*, go_sem]; done))
  go_wp2_with fail
  have o0_0 : ∀ x, (over w3 x).cell? ⟨w.heap.size, 0, none⟩ = some (.int .i64 m) := over_cell (by first | assumption | (simp [*, go_sem]; done))
  have o0_1 : ∀ x, (over w3 x).cell? ⟨w.heap.size, 1, none⟩ = some (.int .i64 s) := over_cell (by first | assumption | (simp [*, go_sem]; done))
  have o1_0 : ∀ x, (over w3 x).cell? ⟨w.heap.size + 1, 0, none⟩ = some (.int .i64 m) := over_cell (by first | assumption | (simp [*, go_sem]; done))
  have o1_1 : ∀ x, (over w3 x).cell? ⟨w.heap.size + 1, 1, none⟩ = some (.int .i64 s2) := over_cell (by first | assumption | (simp [*, go_sem]; done))
  (refine wp_region_over (by kernel_rfl) (by kernel_rfl) ?_)
  (repeat (go_big_quiet_step ((first | (go_at_call_of 22 x; exact calls_over (h3 _)) | (go_at_call_of 22 (Value.int IntKind.u64 0); exact calls_over (h4 _))))))
  (refine wpQuiet_nil ?_)
  intro w4 hb4
  clear o0_0
  clear o0_1
  clear o1_0
  clear o1_1
  have sz4_0 : w.heap.size < w4.heap.size := by have := hb4.size; (try simp at this); omega
  have q4_0_0 : w4.cell? ⟨w.heap.size, 0, none⟩ = some (.int .i64 m) := bcellv hb4 (by first | assumption | (simp [*, go_sem]; done))
  have q4_0_1 : w4.cell? ⟨w.heap.size, 1, none⟩ = some (.int .i64 s) := bcellv hb4 (by first | assumption | (simp [*, go_sem]; done))
  have sz4_1 : w.heap.size + 1 < w4.heap.size := by have := hb4.size; (try simp at this); omega
  have q4_1_0 : w4.cell? ⟨w.heap.size + 1, 0, none⟩ = some (.int .i64 m) := bcellv hb4 (by first | assumption | (simp [*, go_sem]; done))
  have q4_1_1 : w4.cell? ⟨w.heap.size + 1, 1, none⟩ = some (.int .i64 s2) := bcellv hb4 (by first | assumption | (simp [*, go_sem]; done))
  go_wp2
  go_ret
  exact ⟨rfl, by (repeat (first | exact Below.refl _ _ | assumption | refine Below.drew ?_ | refine below_drewN ?_ _ | refine balloc ?_ _ | refine Below.setCell ?_ (by first | (simp; done) | (simp; omega) | omega) _ | refine bchain (by assumption) ?_))⟩
set_option maxRecDepth 100000 in
theorem headerSame_yes_no (m s m2 s2 : Int) (h : idB m s = true) (g : idB m2 s2 = false) (w : World) :
    Calls Try.prog 7 #[.agg #[.int .i64 m, .int .i64 s], .agg #[.int .i64 m2, .int .i64 s2]] w fun e w' => e = .returned (.bool true) ∧ Below w.heap.size w w' := by
  have h1 := fun W => encodeID_yes m s h W
  have h2 := fun W => encodeID_no m2 s2 g W
  generalize idI m s = x at *
  generalize idI m2 s2 = y at *
  clear h g
  go_enter Try.func7, Try.ntmps7
  go_wp2_with fail
  refine (awake5 _).mono ?_
  rintro e w1 ⟨rfl, hb1⟩
  have sz1_0 : w.heap.size < w1.heap.size := by have := hb1.size; (try simp at this); omega
  have q1_0_0 : w1.cell? ⟨w.heap.size, 0, none⟩ = some (.int .i64 m) := bcellv hb1 (by first | assumption | (simp [*, go_sem]; done))
  have q1_0_1 : w1.cell? ⟨w.heap.size, 1, none⟩ = some (.int .i64 s) := bcellv hb1 (by first | assumption | (simp [*, go_sem]; done))
  have sz1_1 : w.heap.size + 1 < w1.heap.size := by have := hb1.size; (try simp at this); omega
  have q1_1_0 : w1.cell? ⟨w.heap.size + 1, 0, none⟩ = some (.int .i64 m2) := bcellv hb1 (by first | assumption | (simp [*, go_sem]; done))
  have q1_1_1 : w1.cell? ⟨w.heap.size + 1, 1, none⟩ = some (.int .i64 s2) := bcellv hb1 (by first | assumption | (simp [*, go_sem]; done))
  go_wp2_with fail
  refine (h1 _).mono ?_
  rintro e w2 ⟨rfl, hb2⟩
  have sz2_0 : w.heap.size < w2.heap.size := by have := hb2.size; (try simp at this); omega
  have q2_0_0 : w2.cell? ⟨w.heap.size, 0, none⟩ = some (.int .i64 m) := bcellv hb2 (by first | assumption | (simp [*, go_sem]; done))
  have q2_0_1 : w2.cell? ⟨w.heap.size, 1, none⟩ = some (.int .i64 s) := bcellv hb2 (by first | assumption | (simp [*, go_sem]; done))
  have sz2_1 : w.heap.size + 1 < w2.heap.size := by have := hb2.size; (try simp at this); omega
  have q2_1_0 : w2.cell? ⟨w.heap.size + 1, 0, none⟩ = some (.int .i64 m2) := bcellv hb2 (by first | assumption | (simp [*, go_sem]; done))
  have q2_1_1 : w2.cell? ⟨w.heap.size + 1, 1, none⟩ = some (.int .i64 s2) := bcellv hb2 (by first | assumption | (simp [*, go_sem]; done))
  go_wp2_with fail
  refine (h2 _).mono ?_
  rintro e w3 ⟨rfl, hb3⟩
  have sz3_0 : w.heap.size < w3.heap.size := by have := hb3.size; (try simp at this); omega
  have q3_0_0 : w3.cell? ⟨w.heap.size, 0, none⟩ = some (.int .i64 m) := bcellv hb3 (by first | assumption | (simp [*, go_sem]; done))
  have q3_0_1 : w3.cell? ⟨w.heap.size, 1, none⟩ = some (.int .i64 s) := bcellv hb3 (by first | assumption | (simp [*, go_sem]; done))
  have sz3_1 : w.heap.size + 1 < w3.heap.size := by have := hb3.size; (try simp at this); omega
  have q3_1_0 : w3.cell? ⟨w.heap.size + 1, 0, none⟩ = some (.int .i64 m2) := bcellv hb3 (by first | assumption | (simp [*, go_sem]; done))
  have q3_1_1 : w3.cell? ⟨w.heap.size + 1, 1, none⟩ = some (.int .i64 s2) := bcellv hb3 (by first | assumption | (simp [*, go_sem]; done))
  go_wp2
  go_ret
  exact ⟨rfl, by (repeat (first | exact Below.refl _ _ | assumption | refine Below.drew ?_ | refine below_drewN ?_ _ | refine balloc ?_ _ | refine Below.setCell ?_ (by first | (simp; done) | (simp; omega) | omega) _ | refine bchain (by assumption) ?_))⟩
set_option maxRecDepth 100000 in
theorem headerSame_no_yes (m s m2 s2 : Int) (h : idB m s = false) (g : idB m2 s2 = true) (w : World) :
    Calls Try.prog 7 #[.agg #[.int .i64 m, .int .i64 s], .agg #[.int .i64 m2, .int .i64 s2]] w fun e w' => e = .returned (.bool true) ∧ Below w.heap.size w w' := by
  have h1 := fun W => encodeID_no m s h W
  have h2 := fun W => encodeID_yes m2 s2 g W
  generalize idI m s = x at *
  generalize idI m2 s2 = y at *
  clear h g
  go_enter Try.func7, Try.ntmps7
  go_wp2_with fail
  refine (awake5 _).mono ?_
  rintro e w1 ⟨rfl, hb1⟩
  have sz1_0 : w.heap.size < w1.heap.size := by have := hb1.size; (try simp at this); omega
  have q1_0_0 : w1.cell? ⟨w.heap.size, 0, none⟩ = some (.int .i64 m) := bcellv hb1 (by first | assumption | (simp [*, go_sem]; done))
  have q1_0_1 : w1.cell? ⟨w.heap.size, 1, none⟩ = some (.int .i64 s) := bcellv hb1 (by first | assumption | (simp [*, go_sem]; done))
  have sz1_1 : w.heap.size + 1 < w1.heap.size := by have := hb1.size; (try simp at this); omega
  have q1_1_0 : w1.cell? ⟨w.heap.size + 1, 0, none⟩ = some (.int .i64 m2) := bcellv hb1 (by first | assumption | (simp [*, go_sem]; done))
  have q1_1_1 : w1.cell? ⟨w.heap.size + 1, 1, none⟩ = some (.int .i64 s2) := bcellv hb1 (by first | assumption | (simp [*, go_sem]; done))
  go_wp2_with fail
  refine (h1 _).mono ?_
  rintro e w2 ⟨rfl, hb2⟩
  have sz2_0 : w.heap.size < w2.heap.size := by have := hb2.size; (try simp at this); omega
  have q2_0_0 : w2.cell? ⟨w.heap.size, 0, none⟩ = some (.int .i64 m) := bcellv hb2 (by first | assumption | (simp [*, go_sem]; done))
  have q2_0_1 : w2.cell? ⟨w.heap.size, 1, none⟩ = some (.int .i64 s) := bcellv hb2 (by first | assumption | (simp [*, go_sem]; done))
  have sz2_1 : w.heap.size + 1 < w2.heap.size := by have := hb2.size; (try simp at this); omega
  have q2_1_0 : w2.cell? ⟨w.heap.size + 1, 0, none⟩ = some (.int .i64 m2) := bcellv hb2 (by first | assumption | (simp [*, go_sem]; done))
  have q2_1_1 : w2.cell? ⟨w.heap.size + 1, 1, none⟩ = some (.int .i64 s2) := bcellv hb2 (by first | assumption | (simp [*, go_sem]; done))
  go_wp2_with fail
  refine (h2 _).mono ?_
  rintro e w3 ⟨rfl, hb3⟩
  have sz3_0 : w.heap.size < w3.heap.size := by have := hb3.size; (try simp at this); omega
  have q3_0_0 : w3.cell? ⟨w.heap.size, 0, none⟩ = some (.int .i64 m) := bcellv hb3 (by first | assumption | (simp [*, go_sem]; done))
  have q3_0_1 : w3.cell? ⟨w.heap.size, 1, none⟩ = some (.int .i64 s) := bcellv hb3 (by first | assumption | (simp [*, go_sem]; done))
  have sz3_1 : w.heap.size + 1 < w3.heap.size := by have := hb3.size; (try simp at this); omega
  have q3_1_0 : w3.cell? ⟨w.heap.size + 1, 0, none⟩ = some (.int .i64 m2) := bcellv hb3 (by first | assumption | (simp [*, go_sem]; done))
  have q3_1_1 : w3.cell? ⟨w.heap.size + 1, 1, none⟩ = some (.int .i64 s2) := bcellv hb3 (by first | assumption | (simp [*, go_sem]; done))
  go_wp2
  go_ret
  exact ⟨rfl, by (repeat (first | exact Below.refl _ _ | assumption | refine Below.drew ?_ | refine below_drewN ?_ _ | refine balloc ?_ _ | refine Below.setCell ?_ (by first | (simp; done) | (simp; omega) | omega) _ | refine bchain (by assumption) ?_))⟩
set_option maxRecDepth 100000 in
theorem headerSame_no_no (m s m2 s2 : Int) (h : idB m s = false) (g : idB m2 s2 = false) (w : World) :
    Calls Try.prog 7 #[.agg #[.int .i64 m, .int .i64 s], .agg #[.int .i64 m2, .int .i64 s2]] w fun e w' => e = .returned (.bool true) ∧ Below w.heap.size w w' := by
  have h1 := fun W => encodeID_no m s h W
  have h2 := fun W => encodeID_no m2 s2 g W
  generalize idI m s = x at *
  generalize idI m2 s2 = y at *
  clear h g
  go_enter Try.func7, Try.ntmps7
  go_wp2_with fail
  refine (awake5 _).mono ?_
  rintro e w1 ⟨rfl, hb1⟩
  have sz1_0 : w.heap.size < w1.heap.size := by have := hb1.size; (try simp at this); omega
  have q1_0_0 : w1.cell? ⟨w.heap.size, 0, none⟩ = some (.int .i64 m) := bcellv hb1 (by first | assumption | (simp [*, go_sem]; done))
  have q1_0_1 : w1.cell? ⟨w.heap.size, 1, none⟩ = some (.int .i64 s) := bcellv hb1 (by first | assumption | (simp [*, go_sem]; done))
  have sz1_1 : w.heap.size + 1 < w1.heap.size := by have := hb1.size; (try simp at this); omega
  have q1_1_0 : w1.cell? ⟨w.heap.size + 1, 0, none⟩ = some (.int .i64 m2) := bcellv hb1 (by first | assumption | (simp [*, go_sem]; done))
  have q1_1_1 : w1.cell? ⟨w.heap.size + 1, 1, none⟩ = some (.int .i64 s2) := bcellv hb1 (by first | assumption | (simp [*, go_sem]; done))
  go_wp2_with fail
  refine (h1 _).mono ?_
  rintro e w2 ⟨rfl, hb2⟩
  have sz2_0 : w.heap.size < w2.heap.size := by have := hb2.size; (try simp at this); omega
  have q2_0_0 : w2.cell? ⟨w.heap.size, 0, none⟩ = some (.int .i64 m) := bcellv hb2 (by first | assumption | (simp [*, go_sem]; done))
  have q2_0_1 : w2.cell? ⟨w.heap.size, 1, none⟩ = some (.int .i64 s) := bcellv hb2 (by first | assumption | (simp [*, go_sem]; done))
  have sz2_1 : w.heap.size + 1 < w2.heap.size := by have := hb2.size; (try simp at this); omega
  have q2_1_0 : w2.cell? ⟨w.heap.size + 1, 0, none⟩ = some (.int .i64 m2) := bcellv hb2 (by first | assumption | (simp [*, go_sem]; done))
  have q2_1_1 : w2.cell? ⟨w.heap.size + 1, 1, none⟩ = some (.int .i64 s2) := bcellv hb2 (by first | assumption | (simp [*, go_sem]; done))
  go_wp2_with fail
  refine (h2 _).mono ?_
  rintro e w3 ⟨rfl, hb3⟩
  have sz3_0 : w.heap.size < w3.heap.size := by have := hb3.size; (try simp at this); omega
  have q3_0_0 : w3.cell? ⟨w.heap.size, 0, none⟩ = some (.int .i64 m) := bcellv hb3 (by first | assumption | (simp [*, go_sem]; done))
  have q3_0_1 : w3.cell? ⟨w.heap.size, 1, none⟩ = some (.int .i64 s) := bcellv hb3 (by first | assumption | (simp [*, go_sem]; done))
  have sz3_1 : w.heap.size + 1 < w3.heap.size := by have := hb3.size; (try simp at this); omega
  have q3_1_0 : w3.cell? ⟨w.heap.size + 1, 0, none⟩ = some (.int .i64 m2) := bcellv hb3 (by first | assumption | (simp [*, go_sem]; done))
  have q3_1_1 : w3.cell? ⟨w.heap.size + 1, 1, none⟩ = some (.int .i64 s2) := bcellv hb3 (by first | assumption | (simp [*, go_sem]; done))
  go_wp2
  go_ret
  exact ⟨rfl, by (repeat (first | exact Below.refl _ _ | assumption | refine Below.drew ?_ | refine below_drewN ?_ _ | refine balloc ?_ _ | refine Below.setCell ?_ (by first | (simp; done) | (simp; omega) | omega) _ | refine bchain (by assumption) ?_))⟩
set_option maxRecDepth 100000 in
theorem headerInverse_yes_yes (k c f n : Int) (hn : U64 n) (h : hvB k c f = true) (g : decB n = true) (w : World) :
    Calls Try.prog 5 #[.agg #[.int .i64 k, .int .i64 c, .int .i64 f], .int .u64 n] w fun e w' => e = .returned (.bool true) ∧ Below w.heap.size w w' := by
  have h5 := fun W => valid_any k c f W
  simp only [h] at h5
  have h1 := fun W => encode_yes k c f h W
  have h6 := fun W => decode_yes n hn g W
  have hx := encI_bd h
  obtain ⟨e1, e2, e3⟩ := dec_enc h
  have h2 := fun W => decode_yes (encI k c f) (U64.of (by omega) (by omega)) (decB_enc h) W
  rw [e1, e2, e3] at h2
  generalize encI k c f = x at *
  clear hx e1 e2 e3
  have h7 := fun W => encode_yes _ _ _ (decB_iff.1 g).1 W
  rw [(decB_iff.1 g).2] at h7
  have b1 := and3_dec hn g
  generalize decK n = ka at *
  generalize decC n = ca at *
  generalize decF n = fa at *
  clear hn h g
  go_enter Try.func5, Try.ntmps5
  go_wp2_with fail
  refine (awake5 _).mono ?_
  rintro e w1 ⟨rfl, hb1⟩
  have sz1_0 : w.heap.size < w1.heap.size := by have := hb1.size; (try simp at this); omega
  have q1_0_0 : w1.cell? ⟨w.heap.size, 0, none⟩ = some (.int .i64 k) := bcellv hb1 (by first | assumption | (simp [*, go_sem]; done))
  have q1_0_1 : w1.cell? ⟨w.heap.size, 1, none⟩ = some (.int .i64 c) := bcellv hb1 (by first | assumption | (simp [*, go_sem]; done))
  have q1_0_2 : w1.cell? ⟨w.heap.size, 2, none⟩ = some (.int .i64 f) := bcellv hb1 (by first | assumption | (simp [*, go_sem]; done))
  go_wp2_with fail
  refine (h1 _).mono ?_
  rintro e w2 ⟨rfl, hb2⟩
  have sz2_0 : w.heap.size < w2.heap.size := by have := hb2.size; (try simp at this); omega
  have q2_0_0 : w2.cell? ⟨w.heap.size, 0, none⟩ = some (.int .i64 k) := bcellv hb2 (by first | assumption | (simp [*, go_sem]; done))
  have q2_0_1 : w2.cell? ⟨w.heap.size, 1, none⟩ = some (.int .i64 c) := bcellv hb2 (by first | assumption | (simp [*, go_sem]; done))
  have q2_0_2 : w2.cell? ⟨w.heap.size, 2, none⟩ = some (.int .i64 f) := bcellv hb2 (by first | assumption | (simp [*, go_sem]; done))
  go_wp2_with fail
  refine (h2 _).mono ?_
  rintro e w3 ⟨rfl, hb3⟩
  have sz3_0 : w.heap.size < w3.heap.size := by have := hb3.size; (try simp at this); omega
  have q3_0_0 : w3.cell? ⟨w.heap.size, 0, none⟩ = some (.int .i64 k) := bcellv hb3 (by first | assumption | (simp [*, go_sem]; done))
  have q3_0_1 : w3.cell? ⟨w.heap.size, 1, none⟩ = some (.int .i64 c) := bcellv hb3 (by first | assumption | (simp [*, go_sem]; done))
  have q3_0_2 : w3.cell? ⟨w.heap.size, 2, none⟩ = some (.int .i64 f) := bcellv hb3 (by first | assumption | (simp [*, go_sem]; done))
  go_wp2_with fail
  refine (h5 _).mono ?_
  rintro e w4 ⟨rfl, hb4⟩
  have sz4_0 : w.heap.size < w4.heap.size := by have := hb4.size; (try simp at this); omega
  have q4_0_0 : w4.cell? ⟨w.heap.size, 0, none⟩ = some (.int .i64 k) := bcellv hb4 (by first | assumption | (simp [*, go_sem]; done))
  have q4_0_1 : w4.cell? ⟨w.heap.size, 1, none⟩ = some (.int .i64 c) := bcellv hb4 (by first | assumption | (simp [*, go_sem]; done))
  have q4_0_2 : w4.cell? ⟨w.heap.size, 2, none⟩ = some (.int .i64 f) := bcellv hb4 (by first | assumption | (simp [*, go_sem]; done))
  have sz4_1 : w3.heap.size < w4.heap.size := by have := hb4.size; (try simp at this); omega
  have q4_1_0 : w4.cell? ⟨w3.heap.size, 0, none⟩ = some (.int .i64 k) := bcellv hb4 (by first | assumption | (simp [*, go_sem]; done))
  have q4_1_1 : w4.cell? ⟨w3.heap.size, 1, none⟩ = some (.int .i64 c) := bcellv hb4 (by first | assumption | (simp [*, go_sem]; done))
  have q4_1_2 : w4.cell? ⟨w3.heap.size, 2, none⟩ = some (.int .i64 f) := bcellv hb4 (by first | assumption | (simp [*, go_sem]; done))
  go_wp2_with fail
  refine (h6 _).mono ?_
  rintro e w5 ⟨rfl, hb5⟩
  have sz5_0 : w.heap.size < w5.heap.size := by have := hb5.size; (try simp at this); omega
  have q5_0_0 : w5.cell? ⟨w.heap.size, 0, none⟩ = some (.int .i64 k) := bcellv hb5 (by first | assumption | (simp [*, go_sem]; done))
  have q5_0_1 : w5.cell? ⟨w.heap.size, 1, none⟩ = some (.int .i64 c) := bcellv hb5 (by first | assumption | (simp [*, go_sem]; done))
  have q5_0_2 : w5.cell? ⟨w.heap.size, 2, none⟩ = some (.int .i64 f) := bcellv hb5 (by first | assumption | (simp [*, go_sem]; done))
  have sz5_1 : w3.heap.size < w5.heap.size := by have := hb5.size; (try simp at this); omega
  have q5_1_0 : w5.cell? ⟨w3.heap.size, 0, none⟩ = some (.int .i64 k) := bcellv hb5 (by first | assumption | (simp [*, go_sem]; done))
  have q5_1_1 : w5.cell? ⟨w3.heap.size, 1, none⟩ = some (.int .i64 c) := bcellv hb5 (by first | assumption | (simp [*, go_sem]; done))
  have q5_1_2 : w5.cell? ⟨w3.heap.size, 2, none⟩ = some (.int .i64 f) := bcellv hb5 (by first | assumption | (simp [*, go_sem]; done))
  go_wp2_with fail
  refine (h7 _).mono ?_
  rintro e w6 ⟨rfl, hb6⟩
  have sz6_0 : w.heap.size < w6.heap.size := by have := hb6.size; (try simp at this); omega
  have q6_0_0 : w6.cell? ⟨w.heap.size, 0, none⟩ = some (.int .i64 k) := bcellv hb6 (by first | assumption | (simp [*, go_sem]; done))
  have q6_0_1 : w6.cell? ⟨w.heap.size, 1, none⟩ = some (.int .i64 c) := bcellv hb6 (by first | assumption | (simp [*, go_sem]; done))
  have q6_0_2 : w6.cell? ⟨w.heap.size, 2, none⟩ = some (.int .i64 f) := bcellv hb6 (by first | assumption | (simp [*, go_sem]; done))
  have sz6_1 : w3.heap.size < w6.heap.size := by have := hb6.size; (try simp at this); omega
  have q6_1_0 : w6.cell? ⟨w3.heap.size, 0, none⟩ = some (.int .i64 k) := bcellv hb6 (by first | assumption | (simp [*, go_sem]; done))
  have q6_1_1 : w6.cell? ⟨w3.heap.size, 1, none⟩ = some (.int .i64 c) := bcellv hb6 (by first | assumption | (simp [*, go_sem]; done))
  have q6_1_2 : w6.cell? ⟨w3.heap.size, 2, none⟩ = some (.int .i64 f) := bcellv hb6 (by first | assumption | (simp [*, go_sem]; done))
  have sz6_2 : w5.heap.size < w6.heap.size := by have := hb6.size; (try simp at this); omega
  have q6_2_0 : w6.cell? ⟨w5.heap.size, 0, none⟩ = some (.int .i64 ka) := bcellv hb6 (by first | assumption | (simp [*, go_sem]; done))
  have q6_2_1 : w6.cell? ⟨w5.heap.size, 1, none⟩ = some (.int .i64 ca) := bcellv hb6 (by first | assumption | (simp [*, go_sem]; done))
  have q6_2_2 : w6.cell? ⟨w5.heap.size, 2, none⟩ = some (.int .i64 fa) := bcellv hb6 (by first | assumption | (simp [*, go_sem]; done))
  go_wp2
  go_ret
  exact ⟨rfl, by (repeat (first | exact Below.refl _ _ | assumption | refine Below.drew ?_ | refine below_drewN ?_ _ | refine balloc ?_ _ | refine Below.setCell ?_ (by first | (simp; done) | (simp; omega) | omega) _ | refine bchain (by assumption) ?_))⟩
set_option maxRecDepth 100000 in
theorem headerInverse_yes_no (k c f n : Int) (hn : U64 n) (h : hvB k c f = true) (g : decB n = false) (w : World) :
    Calls Try.prog 5 #[.agg #[.int .i64 k, .int .i64 c, .int .i64 f], .int .u64 n] w fun e w' => e = .returned (.bool true) ∧ Below w.heap.size w w' := by
  have h5 := fun W => valid_any k c f W
  simp only [h] at h5
  have h1 := fun W => encode_yes k c f h W
  have h6 := fun W => decode_no n hn g W
  have hx := encI_bd h
  obtain ⟨e1, e2, e3⟩ := dec_enc h
  have h2 := fun W => decode_yes (encI k c f) (U64.of (by omega) (by omega)) (decB_enc h) W
  rw [e1, e2, e3] at h2
  generalize encI k c f = x at *
  clear hx e1 e2 e3
  clear hn h g
  go_enter Try.func5, Try.ntmps5
  go_wp2_with fail
  refine (awake5 _).mono ?_
  rintro e w1 ⟨rfl, hb1⟩
  have sz1_0 : w.heap.size < w1.heap.size := by have := hb1.size; (try simp at this); omega
  have q1_0_0 : w1.cell? ⟨w.heap.size, 0, none⟩ = some (.int .i64 k) := bcellv hb1 (by first | assumption | (simp [*, go_sem]; done))
  have q1_0_1 : w1.cell? ⟨w.heap.size, 1, none⟩ = some (.int .i64 c) := bcellv hb1 (by first | assumption | (simp [*, go_sem]; done))
  have q1_0_2 : w1.cell? ⟨w.heap.size, 2, none⟩ = some (.int .i64 f) := bcellv hb1 (by first | assumption | (simp [*, go_sem]; done))
  go_wp2_with fail
  refine (h1 _).mono ?_
  rintro e w2 ⟨rfl, hb2⟩
  have sz2_0 : w.heap.size < w2.heap.size := by have := hb2.size; (try simp at this); omega
  have q2_0_0 : w2.cell? ⟨w.heap.size, 0, none⟩ = some (.int .i64 k) := bcellv hb2 (by first | assumption | (simp [*, go_sem]; done))
  have q2_0_1 : w2.cell? ⟨w.heap.size, 1, none⟩ = some (.int .i64 c) := bcellv hb2 (by first | assumption | (simp [*, go_sem]; done))
  have q2_0_2 : w2.cell? ⟨w.heap.size, 2, none⟩ = some (.int .i64 f) := bcellv hb2 (by first | assumption | (simp [*, go_sem]; done))
  go_wp2_with fail
  refine (h2 _).mono ?_
  rintro e w3 ⟨rfl, hb3⟩
  have sz3_0 : w.heap.size < w3.heap.size := by have := hb3.size; (try simp at this); omega
  have q3_0_0 : w3.cell? ⟨w.heap.size, 0, none⟩ = some (.int .i64 k) := bcellv hb3 (by first | assumption | (simp [*, go_sem]; done))
  have q3_0_1 : w3.cell? ⟨w.heap.size, 1, none⟩ = some (.int .i64 c) := bcellv hb3 (by first | assumption | (simp [*, go_sem]; done))
  have q3_0_2 : w3.cell? ⟨w.heap.size, 2, none⟩ = some (.int .i64 f) := bcellv hb3 (by first | assumption | (simp [*, go_sem]; done))
  go_wp2_with fail
  refine (h5 _).mono ?_
  rintro e w4 ⟨rfl, hb4⟩
  have sz4_0 : w.heap.size < w4.heap.size := by have := hb4.size; (try simp at this); omega
  have q4_0_0 : w4.cell? ⟨w.heap.size, 0, none⟩ = some (.int .i64 k) := bcellv hb4 (by first | assumption | (simp [*, go_sem]; done))
  have q4_0_1 : w4.cell? ⟨w.heap.size, 1, none⟩ = some (.int .i64 c) := bcellv hb4 (by first | assumption | (simp [*, go_sem]; done))
  have q4_0_2 : w4.cell? ⟨w.heap.size, 2, none⟩ = some (.int .i64 f) := bcellv hb4 (by first | assumption | (simp [*, go_sem]; done))
  have sz4_1 : w3.heap.size < w4.heap.size := by have := hb4.size; (try simp at this); omega
  have q4_1_0 : w4.cell? ⟨w3.heap.size, 0, none⟩ = some (.int .i64 k) := bcellv hb4 (by first | assumption | (simp [*, go_sem]; done))
  have q4_1_1 : w4.cell? ⟨w3.heap.size, 1, none⟩ = some (.int .i64 c) := bcellv hb4 (by first | assumption | (simp [*, go_sem]; done))
  have q4_1_2 : w4.cell? ⟨w3.heap.size, 2, none⟩ = some (.int .i64 f) := bcellv hb4 (by first | assumption | (simp [*, go_sem]; done))
  go_wp2_with fail
  refine (h6 _).mono ?_
  rintro e w5 ⟨rfl, hb5⟩
  have sz5_0 : w.heap.size < w5.heap.size := by have := hb5.size; (try simp at this); omega
  have q5_0_0 : w5.cell? ⟨w.heap.size, 0, none⟩ = some (.int .i64 k) := bcellv hb5 (by first | assumption | (simp [*, go_sem]; done))
  have q5_0_1 : w5.cell? ⟨w.heap.size, 1, none⟩ = some (.int .i64 c) := bcellv hb5 (by first | assumption | (simp [*, go_sem]; done))
  have q5_0_2 : w5.cell? ⟨w.heap.size, 2, none⟩ = some (.int .i64 f) := bcellv hb5 (by first | assumption | (simp [*, go_sem]; done))
  have sz5_1 : w3.heap.size < w5.heap.size := by have := hb5.size; (try simp at this); omega
  have q5_1_0 : w5.cell? ⟨w3.heap.size, 0, none⟩ = some (.int .i64 k) := bcellv hb5 (by first | assumption | (simp [*, go_sem]; done))
  have q5_1_1 : w5.cell? ⟨w3.heap.size, 1, none⟩ = some (.int .i64 c) := bcellv hb5 (by first | assumption | (simp [*, go_sem]; done))
  have q5_1_2 : w5.cell? ⟨w3.heap.size, 2, none⟩ = some (.int .i64 f) := bcellv hb5 (by first | assumption | (simp [*, go_sem]; done))
  go_wp2
  go_ret
  exact ⟨rfl, by (repeat (first | exact Below.refl _ _ | assumption | refine Below.drew ?_ | refine below_drewN ?_ _ | refine balloc ?_ _ | refine Below.setCell ?_ (by first | (simp; done) | (simp; omega) | omega) _ | refine bchain (by assumption) ?_))⟩
set_option maxRecDepth 100000 in
theorem headerInverse_no_yes (k c f n : Int) (hn : U64 n) (h : hvB k c f = false) (g : decB n = true) (w : World) :
    Calls Try.prog 5 #[.agg #[.int .i64 k, .int .i64 c, .int .i64 f], .int .u64 n] w fun e w' => e = .returned (.bool true) ∧ Below w.heap.size w w' := by
  have h5 := fun W => valid_any k c f W
  simp only [h] at h5
  have h1 := fun W => encode_no k c f h W
  have h6 := fun W => decode_yes n hn g W
  have h7 := fun W => encode_yes _ _ _ (decB_iff.1 g).1 W
  rw [(decB_iff.1 g).2] at h7
  have b1 := and3_dec hn g
  generalize decK n = ka at *
  generalize decC n = ca at *
  generalize decF n = fa at *
  clear hn h g
  go_enter Try.func5, Try.ntmps5
  go_wp2_with fail
  refine (awake5 _).mono ?_
  rintro e w1 ⟨rfl, hb1⟩
  have sz1_0 : w.heap.size < w1.heap.size := by have := hb1.size; (try simp at this); omega
  have q1_0_0 : w1.cell? ⟨w.heap.size, 0, none⟩ = some (.int .i64 k) := bcellv hb1 (by first | assumption | (simp [*, go_sem]; done))
  have q1_0_1 : w1.cell? ⟨w.heap.size, 1, none⟩ = some (.int .i64 c) := bcellv hb1 (by first | assumption | (simp [*, go_sem]; done))
  have q1_0_2 : w1.cell? ⟨w.heap.size, 2, none⟩ = some (.int .i64 f) := bcellv hb1 (by first | assumption | (simp [*, go_sem]; done))
  go_wp2_with fail
  refine (h1 _).mono ?_
  rintro e w2 ⟨rfl, hb2⟩
  have sz2_0 : w.heap.size < w2.heap.size := by have := hb2.size; (try simp at this); omega
  have q2_0_0 : w2.cell? ⟨w.heap.size, 0, none⟩ = some (.int .i64 k) := bcellv hb2 (by first | assumption | (simp [*, go_sem]; done))
  have q2_0_1 : w2.cell? ⟨w.heap.size, 1, none⟩ = some (.int .i64 c) := bcellv hb2 (by first | assumption | (simp [*, go_sem]; done))
  have q2_0_2 : w2.cell? ⟨w.heap.size, 2, none⟩ = some (.int .i64 f) := bcellv hb2 (by first | assumption | (simp [*, go_sem]; done))
  go_wp2_with fail
  refine (h5 _).mono ?_
  rintro e w3 ⟨rfl, hb3⟩
  have sz3_0 : w.heap.size < w3.heap.size := by have := hb3.size; (try simp at this); omega
  have q3_0_0 : w3.cell? ⟨w.heap.size, 0, none⟩ = some (.int .i64 k) := bcellv hb3 (by first | assumption | (simp [*, go_sem]; done))
  have q3_0_1 : w3.cell? ⟨w.heap.size, 1, none⟩ = some (.int .i64 c) := bcellv hb3 (by first | assumption | (simp [*, go_sem]; done))
  have q3_0_2 : w3.cell? ⟨w.heap.size, 2, none⟩ = some (.int .i64 f) := bcellv hb3 (by first | assumption | (simp [*, go_sem]; done))
  go_wp2_with fail
  refine (h6 _).mono ?_
  rintro e w4 ⟨rfl, hb4⟩
  have sz4_0 : w.heap.size < w4.heap.size := by have := hb4.size; (try simp at this); omega
  have q4_0_0 : w4.cell? ⟨w.heap.size, 0, none⟩ = some (.int .i64 k) := bcellv hb4 (by first | assumption | (simp [*, go_sem]; done))
  have q4_0_1 : w4.cell? ⟨w.heap.size, 1, none⟩ = some (.int .i64 c) := bcellv hb4 (by first | assumption | (simp [*, go_sem]; done))
  have q4_0_2 : w4.cell? ⟨w.heap.size, 2, none⟩ = some (.int .i64 f) := bcellv hb4 (by first | assumption | (simp [*, go_sem]; done))
  go_wp2_with fail
  refine (h7 _).mono ?_
  rintro e w5 ⟨rfl, hb5⟩
  have sz5_0 : w.heap.size < w5.heap.size := by have := hb5.size; (try simp at this); omega
  have q5_0_0 : w5.cell? ⟨w.heap.size, 0, none⟩ = some (.int .i64 k) := bcellv hb5 (by first | assumption | (simp [*, go_sem]; done))
  have q5_0_1 : w5.cell? ⟨w.heap.size, 1, none⟩ = some (.int .i64 c) := bcellv hb5 (by first | assumption | (simp [*, go_sem]; done))
  have q5_0_2 : w5.cell? ⟨w.heap.size, 2, none⟩ = some (.int .i64 f) := bcellv hb5 (by first | assumption | (simp [*, go_sem]; done))
  have sz5_1 : w4.heap.size < w5.heap.size := by have := hb5.size; (try simp at this); omega
  have q5_1_0 : w5.cell? ⟨w4.heap.size, 0, none⟩ = some (.int .i64 ka) := bcellv hb5 (by first | assumption | (simp [*, go_sem]; done))
  have q5_1_1 : w5.cell? ⟨w4.heap.size, 1, none⟩ = some (.int .i64 ca) := bcellv hb5 (by first | assumption | (simp [*, go_sem]; done))
  have q5_1_2 : w5.cell? ⟨w4.heap.size, 2, none⟩ = some (.int .i64 fa) := bcellv hb5 (by first | assumption | (simp [*, go_sem]; done))
  go_wp2
  go_ret
  exact ⟨rfl, by (repeat (first | exact Below.refl _ _ | assumption | refine Below.drew ?_ | refine below_drewN ?_ _ | refine balloc ?_ _ | refine Below.setCell ?_ (by first | (simp; done) | (simp; omega) | omega) _ | refine bchain (by assumption) ?_))⟩
set_option maxRecDepth 100000 in
theorem headerInverse_no_no (k c f n : Int) (hn : U64 n) (h : hvB k c f = false) (g : decB n = false) (w : World) :
    Calls Try.prog 5 #[.agg #[.int .i64 k, .int .i64 c, .int .i64 f], .int .u64 n] w fun e w' => e = .returned (.bool true) ∧ Below w.heap.size w w' := by
  have h5 := fun W => valid_any k c f W
  simp only [h] at h5
  have h1 := fun W => encode_no k c f h W
  have h6 := fun W => decode_no n hn g W
  clear hn h g
  go_enter Try.func5, Try.ntmps5
  go_wp2_with fail
  refine (awake5 _).mono ?_
  rintro e w1 ⟨rfl, hb1⟩
  have sz1_0 : w.heap.size < w1.heap.size := by have := hb1.size; (try simp at this); omega
  have q1_0_0 : w1.cell? ⟨w.heap.size, 0, none⟩ = some (.int .i64 k) := bcellv hb1 (by first | assumption | (simp [*, go_sem]; done))
  have q1_0_1 : w1.cell? ⟨w.heap.size, 1, none⟩ = some (.int .i64 c) := bcellv hb1 (by first | assumption | (simp [*, go_sem]; done))
  have q1_0_2 : w1.cell? ⟨w.heap.size, 2, none⟩ = some (.int .i64 f) := bcellv hb1 (by first | assumption | (simp [*, go_sem]; done))
  go_wp2_with fail
  refine (h1 _).mono ?_
  rintro e w2 ⟨rfl, hb2⟩
  have sz2_0 : w.heap.size < w2.heap.size := by have := hb2.size; (try simp at this); omega
  have q2_0_0 : w2.cell? ⟨w.heap.size, 0, none⟩ = some (.int .i64 k) := bcellv hb2 (by first | assumption | (simp [*, go_sem]; done))
  have q2_0_1 : w2.cell? ⟨w.heap.size, 1, none⟩ = some (.int .i64 c) := bcellv hb2 (by first | assumption | (simp [*, go_sem]; done))
  have q2_0_2 : w2.cell? ⟨w.heap.size, 2, none⟩ = some (.int .i64 f) := bcellv hb2 (by first | assumption | (simp [*, go_sem]; done))
  go_wp2_with fail
  refine (h5 _).mono ?_
  rintro e w3 ⟨rfl, hb3⟩
  have sz3_0 : w.heap.size < w3.heap.size := by have := hb3.size; (try simp at this); omega
  have q3_0_0 : w3.cell? ⟨w.heap.size, 0, none⟩ = some (.int .i64 k) := bcellv hb3 (by first | assumption | (simp [*, go_sem]; done))
  have q3_0_1 : w3.cell? ⟨w.heap.size, 1, none⟩ = some (.int .i64 c) := bcellv hb3 (by first | assumption | (simp [*, go_sem]; done))
  have q3_0_2 : w3.cell? ⟨w.heap.size, 2, none⟩ = some (.int .i64 f) := bcellv hb3 (by first | assumption | (simp [*, go_sem]; done))
  go_wp2_with fail
  refine (h6 _).mono ?_
  rintro e w4 ⟨rfl, hb4⟩
  have sz4_0 : w.heap.size < w4.heap.size := by have := hb4.size; (try simp at this); omega
  have q4_0_0 : w4.cell? ⟨w.heap.size, 0, none⟩ = some (.int .i64 k) := bcellv hb4 (by first | assumption | (simp [*, go_sem]; done))
  have q4_0_1 : w4.cell? ⟨w.heap.size, 1, none⟩ = some (.int .i64 c) := bcellv hb4 (by first | assumption | (simp [*, go_sem]; done))
  have q4_0_2 : w4.cell? ⟨w.heap.size, 2, none⟩ = some (.int .i64 f) := bcellv hb4 (by first | assumption | (simp [*, go_sem]; done))
  go_wp2
  go_ret
  exact ⟨rfl, by (repeat (first | exact Below.refl _ _ | assumption | refine Below.drew ?_ | refine below_drewN ?_ _ | refine balloc ?_ _ | refine Below.setCell ?_ (by first | (simp; done) | (simp; omega) | omega) _ | refine bchain (by assumption) ?_))⟩
set_option maxRecDepth 100000 in
theorem headerNames_out (k j : Int) (h : nameB k = { data := #[] }) (w : World) :
    Calls Try.prog 4 #[.int .i64 k, .int .i64 j] w fun e w' => e = .returned (.bool true) ∧ Below w.heap.size w w' := by
  have h1 := fun W => kindName_any k W
  have h2 := fun W => rkindName_any k W
  have h3 := fun W => kindName_any j W
  simp only [h] at h1 h2
  clear h h3
  go_enter Try.func4, Try.ntmps4
  go_wp2_with fail
  refine (awake5 _).mono ?_
  rintro e w1 ⟨rfl, hb1⟩
  go_wp2_with fail
  refine (h1 _).mono ?_
  rintro e w2 ⟨rfl, hb2⟩
  go_wp2_with fail
  refine (h2 _).mono ?_
  rintro e w3 ⟨rfl, hb3⟩
  go_wp2
  go_ret
  exact ⟨rfl, by (repeat (first | exact Below.refl _ _ | assumption | refine Below.drew ?_ | refine below_drewN ?_ _ | refine balloc ?_ _ | refine Below.setCell ?_ (by first | (simp; done) | (simp; omega) | omega) _ | refine bchain (by assumption) ?_))⟩
set_option maxRecDepth 100000 in
theorem headerNames_eq (k j : Int) (h : ((nameB k).toList == []) = false) (g : (k == j) = true) (w : World) :
    Calls Try.prog 4 #[.int .i64 k, .int .i64 j] w fun e w' => e = .returned (.bool true) ∧ Below w.heap.size w w' := by
  have h1 := fun W => kindName_any k W
  have h2 := fun W => rkindName_any k W
  have h3 := fun W => kindName_any j W
  generalize nameB k = a at *
  clear h3
  go_enter Try.func4, Try.ntmps4
  go_wp2_with fail
  refine (awake5 _).mono ?_
  rintro e w1 ⟨rfl, hb1⟩
  go_wp2_with fail
  refine (h1 _).mono ?_
  rintro e w2 ⟨rfl, hb2⟩
  go_wp2_with fail
  refine (h2 _).mono ?_
  rintro e w3 ⟨rfl, hb3⟩
  go_wp2
  go_ret
  exact ⟨rfl, by (repeat (first | exact Below.refl _ _ | assumption | refine Below.drew ?_ | refine below_drewN ?_ _ | refine balloc ?_ _ | refine Below.setCell ?_ (by first | (simp; done) | (simp; omega) | omega) _ | refine bchain (by assumption) ?_))⟩
set_option maxRecDepth 100000 in
theorem headerNames_ne (k j : Int) (h : ((nameB k).toList == []) = false) (g : (k == j) = false) (r : ((nameB k).toList != (nameB j).toList) = true) (w : World) :
    Calls Try.prog 4 #[.int .i64 k, .int .i64 j] w fun e w' => e = .returned (.bool true) ∧ Below w.heap.size w w' := by
  have h1 := fun W => kindName_any k W
  have h2 := fun W => rkindName_any k W
  have h3 := fun W => kindName_any j W
  generalize nameB k = a at *
  generalize nameB j = b at *
  go_enter Try.func4, Try.ntmps4
  go_wp2_with fail
  refine (awake5 _).mono ?_
  rintro e w1 ⟨rfl, hb1⟩
  go_wp2_with fail
  refine (h1 _).mono ?_
  rintro e w2 ⟨rfl, hb2⟩
  go_wp2_with fail
  refine (h2 _).mono ?_
  rintro e w3 ⟨rfl, hb3⟩
  go_wp2_with fail
  refine (h3 _).mono ?_
  rintro e w4 ⟨rfl, hb4⟩
  go_wp2
  go_ret
  exact ⟨ret_bool (by simpa using r), by (repeat (first | exact Below.refl _ _ | assumption | refine Below.drew ?_ | refine below_drewN ?_ _ | refine balloc ?_ _ | refine Below.setCell ?_ (by first | (simp; done) | (simp; omega) | omega) _ | refine bchain (by assumption) ?_))⟩
end Go.Proofs.Ytogihldcphgoeaa
