/-
  The statement HeaderSizes: the walk.
-/
import Derived.Test.YtogihldcphgoeaaLaw5
import Derived.LoopTactic
namespace Go.Proofs.Ytogihldcphgoeaa
open Go.RowKit
set_option linter.unusedSimpArgs false
set_option linter.unusedVariables false
set_option maxRecDepth 100000 in
theorem headerSizes_no (k c f : Int) (h : hvB k c f = false) (w : World) :
    Calls Try.prog 9 #[.agg #[.int .i64 k, .int .i64 c, .int .i64 f]] w fun e w' => e = .returned (.bool true) ∧ Below w.heap.size w w' := by
  have h1 := fun W => encode_no k c f h W
  have h2 := fun W => words_no k c f h W
  clear h
  go_enter Try.func9, Try.ntmps9
  go_wp2_with fail
  refine (awake5 _).mono ?_
  rintro e w1 ⟨rfl, hb1⟩
  have sz1_0 : w.heap.size < w1.heap.size := by have := hb1.size; (try simp at this); omega
  have q1_0_0 : w1.cell? ⟨w.heap.size, 0, none⟩ = some (.int .i64 k) := bcellv hb1 (by first | assumption | (simp [*, go_sem]; done))
  have q1_0_1 : w1.cell? ⟨w.heap.size, 1, none⟩ = some (.int .i64 c) := bcellv hb1 (by first | assumption | (simp [*, go_sem]; done))
  have q1_0_2 : w1.cell? ⟨w.heap.size, 2, none⟩ = some (.int .i64 f) := bcellv hb1 (by first | assumption | (simp [*, go_sem]; done))
  go_wp2_with fail
  refine (h1 _).mono ?_
  rintro e w2 ⟨rfl, hb2⟩
  have sz2_0 : w.heap.size < w2.heap.size := by have := hb2.size; (try simp at this); omega
  have q2_0_0 : w2.cell? ⟨w.heap.size, 0, none⟩ = some (.int .i64 k) := bcellv hb2 (by first | assumption | (simp [*, go_sem]; done))
  have q2_0_1 : w2.cell? ⟨w.heap.size, 1, none⟩ = some (.int .i64 c) := bcellv hb2 (by first | assumption | (simp [*, go_sem]; done))
  have q2_0_2 : w2.cell? ⟨w.heap.size, 2, none⟩ = some (.int .i64 f) := bcellv hb2 (by first | assumption | (simp [*, go_sem]; done))
  go_wp2_with fail
  refine (h2 _).mono ?_
  rintro e w3 ⟨rfl, hb3⟩
  have sz3_0 : w.heap.size < w3.heap.size := by have := hb3.size; (try simp at this); omega
  have q3_0_0 : w3.cell? ⟨w.heap.size, 0, none⟩ = some (.int .i64 k) := bcellv hb3 (by first | assumption | (simp [*, go_sem]; done))
  have q3_0_1 : w3.cell? ⟨w.heap.size, 1, none⟩ = some (.int .i64 c) := bcellv hb3 (by first | assumption | (simp [*, go_sem]; done))
  have q3_0_2 : w3.cell? ⟨w.heap.size, 2, none⟩ = some (.int .i64 f) := bcellv hb3 (by first | assumption | (simp [*, go_sem]; done))
  go_wp2
  go_ret
  exact ⟨rfl, by (repeat (first | exact Below.refl _ _ | assumption | refine Below.drew ?_ | refine below_drewN ?_ _ | refine balloc ?_ _ | refine Below.setCell ?_ (by first | (simp; done) | (simp; omega) | omega) _ | refine bchain (by assumption) ?_))⟩
set_option maxRecDepth 100000 in
theorem headerSizes_yes (k c f : Int) (h : hvB k c f = true) (w : World) :
    Calls Try.prog 9 #[.agg #[.int .i64 k, .int .i64 c, .int .i64 f]] w fun e w' => e = .returned (.bool true) ∧ Below w.heap.size w w' := by
  have h1 := fun W => encode_yes k c f h W
  have h2 := fun W => words_yes k c f h W
  have hx := encI_bd h
  have hu : U64 (encI k c f) := U64.of (by omega) (by omega)
  obtain ⟨e1, e2, e3⟩ := dec_enc h
  have hB := decB_enc h
  have t3 : hvB 3 c f = true := by have := hvB_change hB (.inl rfl); rwa [e2, e3] at this
  have t4 : hvB 4 c f = true := by have := hvB_change hB (.inr rfl); rwa [e2, e3] at this
  have g3 := fun W => change_yes (encI k c f) 3 hu hB (.inl rfl) W
  have g4 := fun W => change_yes (encI k c f) 4 hu hB (.inr rfl) W
  rw [e2, e3] at g3 g4
  have hx3 := encI_bd t3
  have hx4 := encI_bd t4
  have d3 := fun W => decode_yes (encI 3 c f) (U64.of (by omega) (by omega)) (decB_enc t3) W
  have d4 := fun W => decode_yes (encI 4 c f) (U64.of (by omega) (by omega)) (decB_enc t4) W
  rw [(dec_enc t3).1, (dec_enc t3).2.1, (dec_enc t3).2.2] at d3
  rw [(dec_enc t4).1, (dec_enc t4).2.1, (dec_enc t4).2.2] at d4
  have v3 := fun W => words_yes 3 c f t3 W
  have v4 := fun W => words_yes 4 c f t4 W
  obtain ⟨y1, y2, y3⟩ := wordsI_bd h
  have f0 := (hvB_iff.1 h).2.1.2.2.1
  have f1 := (hvB_iff.1 h).2.1.2.2.2
  generalize wordsI f = y at *
  generalize encI k c f = x at *
  generalize encI 3 c f = x3 at *
  generalize encI 4 c f = x4 at *
  clear h hx hu e1 e2 e3 hB t3 t4 hx3 hx4
  go_enter Try.func9, Try.ntmps9
  go_wp2_with fail
  refine (awake5 _).mono ?_
  rintro e w1 ⟨rfl, hb1⟩
  have sz1_0 : w.heap.size < w1.heap.size := by have := hb1.size; (try simp at this); omega
  have q1_0_0 : w1.cell? ⟨w.heap.size, 0, none⟩ = some (.int .i64 k) := bcellv hb1 (by first | assumption | (simp [*, go_sem]; done))
  have q1_0_1 : w1.cell? ⟨w.heap.size, 1, none⟩ = some (.int .i64 c) := bcellv hb1 (by first | assumption | (simp [*, go_sem]; done))
  have q1_0_2 : w1.cell? ⟨w.heap.size, 2, none⟩ = some (.int .i64 f) := bcellv hb1 (by first | assumption | (simp [*, go_sem]; done))
  go_wp2_with fail
  refine (h1 _).mono ?_
  rintro e w2 ⟨rfl, hb2⟩
  have sz2_0 : w.heap.size < w2.heap.size := by have := hb2.size; (try simp at this); omega
  have q2_0_0 : w2.cell? ⟨w.heap.size, 0, none⟩ = some (.int .i64 k) := bcellv hb2 (by first | assumption | (simp [*, go_sem]; done))
  have q2_0_1 : w2.cell? ⟨w.heap.size, 1, none⟩ = some (.int .i64 c) := bcellv hb2 (by first | assumption | (simp [*, go_sem]; done))
  have q2_0_2 : w2.cell? ⟨w.heap.size, 2, none⟩ = some (.int .i64 f) := bcellv hb2 (by first | assumption | (simp [*, go_sem]; done))
  go_wp2_with fail
  refine (h2 _).mono ?_
  rintro e w3 ⟨rfl, hb3⟩
  have sz3_0 : w.heap.size < w3.heap.size := by have := hb3.size; (try simp at this); omega
  have q3_0_0 : w3.cell? ⟨w.heap.size, 0, none⟩ = some (.int .i64 k) := bcellv hb3 (by first | assumption | (simp [*, go_sem]; done))
  have q3_0_1 : w3.cell? ⟨w.heap.size, 1, none⟩ = some (.int .i64 c) := bcellv hb3 (by first | assumption | (simp [*, go_sem]; done))
  have q3_0_2 : w3.cell? ⟨w.heap.size, 2, none⟩ = some (.int .i64 f) := bcellv hb3 (by first | assumption | (simp [*, go_sem]; done))
  go_wp2_with fail
  go_loopw [28] (fun i wr => ∃ t : Nat, t ≤ 2 ∧ i = .int .i64 t ∧ Below w.heap.size w wr ∧ wr.cell? ⟨w.heap.size, 0, none⟩ = some (.int .i64 k) ∧ wr.cell? ⟨w.heap.size, 1, none⟩ = some (.int .i64 c) ∧ wr.cell? ⟨w.heap.size, 2, none⟩ = some (.int .i64 f) ∧ wr.cell? ⟨w3.heap.size, 0, none⟩ = some (.int .i64 3) ∧ wr.cell? ⟨w3.heap.size, 1, none⟩ = some (.int .i64 4) ∧ w.heap.size < wr.heap.size ∧ w3.heap.size < wr.heap.size) (fun i _ => 2 - (intOf i).toNat)
  case atStart => exact ⟨0, by omega, rfl, by (repeat (first | exact Below.refl _ _ | assumption | refine Below.drew ?_ | refine below_drewN ?_ _ | refine balloc ?_ _ | refine Below.setCell ?_ (by first | (simp; done) | (simp; omega) | omega) _ | refine bchain (by assumption) ?_)), by simp [*, go_sem], by simp [*, go_sem], by simp [*, go_sem], by simp [go_sem], by simp [go_sem], by simp; omega, by simp⟩
  case round =>
    obtain ⟨t, ht, rfl, hbr, c0, c1, c2, c3, c4, n0, n1⟩ := hrel
    have ht3 : t = 0 ∨ t = 1 ∨ t = 2 := by omega
    rcases ht3 with rfl | rfl | rfl
    · go_wp2_with fail
      refine (g3 _).mono ?_
      rintro e w4 ⟨rfl, hb4⟩
      have sz4_0 : w.heap.size < w4.heap.size := by have := hb4.size; (try simp at this); omega
      have q4_0_0 : w4.cell? ⟨w.heap.size, 0, none⟩ = some (.int .i64 k) := bcellv hb4 (by first | assumption | (simp [*, go_sem]; done))
      have q4_0_1 : w4.cell? ⟨w.heap.size, 1, none⟩ = some (.int .i64 c) := bcellv hb4 (by first | assumption | (simp [*, go_sem]; done))
      have q4_0_2 : w4.cell? ⟨w.heap.size, 2, none⟩ = some (.int .i64 f) := bcellv hb4 (by first | assumption | (simp [*, go_sem]; done))
      have sz4_1 : w3.heap.size < w4.heap.size := by have := hb4.size; (try simp at this); omega
      have q4_1_0 : w4.cell? ⟨w3.heap.size, 0, none⟩ = some (.int .i64 3) := bcellv hb4 (by first | assumption | (simp [*, go_sem]; done))
      have q4_1_1 : w4.cell? ⟨w3.heap.size, 1, none⟩ = some (.int .i64 4) := bcellv hb4 (by first | assumption | (simp [*, go_sem]; done))
      go_wp2_with fail
      refine (d3 _).mono ?_
      rintro e w5 ⟨rfl, hb5⟩
      have sz5_0 : w.heap.size < w5.heap.size := by have := hb5.size; (try simp at this); omega
      have q5_0_0 : w5.cell? ⟨w.heap.size, 0, none⟩ = some (.int .i64 k) := bcellv hb5 (by first | assumption | (simp [*, go_sem]; done))
      have q5_0_1 : w5.cell? ⟨w.heap.size, 1, none⟩ = some (.int .i64 c) := bcellv hb5 (by first | assumption | (simp [*, go_sem]; done))
      have q5_0_2 : w5.cell? ⟨w.heap.size, 2, none⟩ = some (.int .i64 f) := bcellv hb5 (by first | assumption | (simp [*, go_sem]; done))
      have sz5_1 : w3.heap.size < w5.heap.size := by have := hb5.size; (try simp at this); omega
      have q5_1_0 : w5.cell? ⟨w3.heap.size, 0, none⟩ = some (.int .i64 3) := bcellv hb5 (by first | assumption | (simp [*, go_sem]; done))
      have q5_1_1 : w5.cell? ⟨w3.heap.size, 1, none⟩ = some (.int .i64 4) := bcellv hb5 (by first | assumption | (simp [*, go_sem]; done))
      go_wp2_with fail
      refine (v3 _).mono ?_
      rintro e w6 ⟨rfl, hb6⟩
      have sz6_0 : w.heap.size < w6.heap.size := by have := hb6.size; (try simp at this); omega
      have q6_0_0 : w6.cell? ⟨w.heap.size, 0, none⟩ = some (.int .i64 k) := bcellv hb6 (by first | assumption | (simp [*, go_sem]; done))
      have q6_0_1 : w6.cell? ⟨w.heap.size, 1, none⟩ = some (.int .i64 c) := bcellv hb6 (by first | assumption | (simp [*, go_sem]; done))
      have q6_0_2 : w6.cell? ⟨w.heap.size, 2, none⟩ = some (.int .i64 f) := bcellv hb6 (by first | assumption | (simp [*, go_sem]; done))
      have sz6_1 : w3.heap.size < w6.heap.size := by have := hb6.size; (try simp at this); omega
      have q6_1_0 : w6.cell? ⟨w3.heap.size, 0, none⟩ = some (.int .i64 3) := bcellv hb6 (by first | assumption | (simp [*, go_sem]; done))
      have q6_1_1 : w6.cell? ⟨w3.heap.size, 1, none⟩ = some (.int .i64 4) := bcellv hb6 (by first | assumption | (simp [*, go_sem]; done))
      have sz6_2 : w5.heap.size < w6.heap.size := by have := hb6.size; (try simp at this); omega
      have q6_2_0 : w6.cell? ⟨w5.heap.size, 0, none⟩ = some (.int .i64 3) := bcellv hb6 (by first | assumption | (simp [*, go_sem]; done))
      have q6_2_1 : w6.cell? ⟨w5.heap.size, 1, none⟩ = some (.int .i64 c) := bcellv hb6 (by first | assumption | (simp [*, go_sem]; done))
      have q6_2_2 : w6.cell? ⟨w5.heap.size, 2, none⟩ = some (.int .i64 f) := bcellv hb6 (by first | assumption | (simp [*, go_sem]; done))
      go_wp2
      go_roundw
      case rel => exact ⟨1, by omega, rfl, by (repeat (first | exact Below.refl _ _ | assumption | refine Below.drew ?_ | refine below_drewN ?_ _ | refine balloc ?_ _ | refine Below.setCell ?_ (by first | (simp; done) | (simp; omega) | omega) _ | refine bchain (by assumption) ?_)), by assumption, by assumption, by assumption, by assumption, by assumption, by assumption, by assumption⟩
      case measure => simp [intOf]
    · go_wp2_with fail
      refine (g4 _).mono ?_
      rintro e w14 ⟨rfl, hb14⟩
      have sz14_0 : w.heap.size < w14.heap.size := by have := hb14.size; (try simp at this); omega
      have q14_0_0 : w14.cell? ⟨w.heap.size, 0, none⟩ = some (.int .i64 k) := bcellv hb14 (by first | assumption | (simp [*, go_sem]; done))
      have q14_0_1 : w14.cell? ⟨w.heap.size, 1, none⟩ = some (.int .i64 c) := bcellv hb14 (by first | assumption | (simp [*, go_sem]; done))
      have q14_0_2 : w14.cell? ⟨w.heap.size, 2, none⟩ = some (.int .i64 f) := bcellv hb14 (by first | assumption | (simp [*, go_sem]; done))
      have sz14_1 : w3.heap.size < w14.heap.size := by have := hb14.size; (try simp at this); omega
      have q14_1_0 : w14.cell? ⟨w3.heap.size, 0, none⟩ = some (.int .i64 3) := bcellv hb14 (by first | assumption | (simp [*, go_sem]; done))
      have q14_1_1 : w14.cell? ⟨w3.heap.size, 1, none⟩ = some (.int .i64 4) := bcellv hb14 (by first | assumption | (simp [*, go_sem]; done))
      go_wp2_with fail
      refine (d4 _).mono ?_
      rintro e w15 ⟨rfl, hb15⟩
      have sz15_0 : w.heap.size < w15.heap.size := by have := hb15.size; (try simp at this); omega
      have q15_0_0 : w15.cell? ⟨w.heap.size, 0, none⟩ = some (.int .i64 k) := bcellv hb15 (by first | assumption | (simp [*, go_sem]; done))
      have q15_0_1 : w15.cell? ⟨w.heap.size, 1, none⟩ = some (.int .i64 c) := bcellv hb15 (by first | assumption | (simp [*, go_sem]; done))
      have q15_0_2 : w15.cell? ⟨w.heap.size, 2, none⟩ = some (.int .i64 f) := bcellv hb15 (by first | assumption | (simp [*, go_sem]; done))
      have sz15_1 : w3.heap.size < w15.heap.size := by have := hb15.size; (try simp at this); omega
      have q15_1_0 : w15.cell? ⟨w3.heap.size, 0, none⟩ = some (.int .i64 3) := bcellv hb15 (by first | assumption | (simp [*, go_sem]; done))
      have q15_1_1 : w15.cell? ⟨w3.heap.size, 1, none⟩ = some (.int .i64 4) := bcellv hb15 (by first | assumption | (simp [*, go_sem]; done))
      go_wp2_with fail
      refine (v4 _).mono ?_
      rintro e w16 ⟨rfl, hb16⟩
      have sz16_0 : w.heap.size < w16.heap.size := by have := hb16.size; (try simp at this); omega
      have q16_0_0 : w16.cell? ⟨w.heap.size, 0, none⟩ = some (.int .i64 k) := bcellv hb16 (by first | assumption | (simp [*, go_sem]; done))
      have q16_0_1 : w16.cell? ⟨w.heap.size, 1, none⟩ = some (.int .i64 c) := bcellv hb16 (by first | assumption | (simp [*, go_sem]; done))
      have q16_0_2 : w16.cell? ⟨w.heap.size, 2, none⟩ = some (.int .i64 f) := bcellv hb16 (by first | assumption | (simp [*, go_sem]; done))
      have sz16_1 : w3.heap.size < w16.heap.size := by have := hb16.size; (try simp at this); omega
      have q16_1_0 : w16.cell? ⟨w3.heap.size, 0, none⟩ = some (.int .i64 3) := bcellv hb16 (by first | assumption | (simp [*, go_sem]; done))
      have q16_1_1 : w16.cell? ⟨w3.heap.size, 1, none⟩ = some (.int .i64 4) := bcellv hb16 (by first | assumption | (simp [*, go_sem]; done))
      have sz16_2 : w15.heap.size < w16.heap.size := by have := hb16.size; (try simp at this); omega
      have q16_2_0 : w16.cell? ⟨w15.heap.size, 0, none⟩ = some (.int .i64 4) := bcellv hb16 (by first | assumption | (simp [*, go_sem]; done))
      have q16_2_1 : w16.cell? ⟨w15.heap.size, 1, none⟩ = some (.int .i64 c) := bcellv hb16 (by first | assumption | (simp [*, go_sem]; done))
      have q16_2_2 : w16.cell? ⟨w15.heap.size, 2, none⟩ = some (.int .i64 f) := bcellv hb16 (by first | assumption | (simp [*, go_sem]; done))
      go_wp2
      go_roundw
      case rel => exact ⟨2, by omega, rfl, by (repeat (first | exact Below.refl _ _ | assumption | refine Below.drew ?_ | refine below_drewN ?_ _ | refine balloc ?_ _ | refine Below.setCell ?_ (by first | (simp; done) | (simp; omega) | omega) _ | refine bchain (by assumption) ?_)), by assumption, by assumption, by assumption, by assumption, by assumption, by assumption, by assumption⟩
      case measure => simp [intOf]
    · go_wp2
      go_ret
      exact ⟨ret_bool (by simp; try omega), by (repeat (first | exact Below.refl _ _ | assumption | refine Below.drew ?_ | refine below_drewN ?_ _ | refine balloc ?_ _ | refine Below.setCell ?_ (by first | (simp; done) | (simp; omega) | omega) _ | refine bchain (by assumption) ?_))⟩
end Go.Proofs.Ytogihldcphgoeaa
