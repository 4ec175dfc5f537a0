/-
  The contracts of packages header and refmeshref05: Decode, the identities, Change, KindName.
-/
import Derived.Test.YtafailcjdkmdhaaHdr3
namespace Go.Proofs.Ytafailcjdkmdhaa
open Go.RowKit
set_option linter.unusedSimpArgs false
set_option linter.unusedVariables false

theorem dec_bd (n : Int) : (0 ≤ n / 4 % 64 ∧ n / 4 % 64 < 64) ∧ (0 ≤ n / 256 % 65536 ∧ n / 256 % 65536 < 65536) ∧ 0 ≤ n / 16777216 % 65536 ∧ n / 16777216 % 65536 < 65536 := by omega
theorem decB_split {n : Int} (h : decB n = false) : hvB (n / 4 % 64) (n / 256 % 65536) (n / 16777216 % 65536) = false ∨ (hvB (n / 4 % 64) (n / 256 % 65536) (n / 16777216 % 65536) = true ∧ (encI (n / 4 % 64) (n / 256 % 65536) (n / 16777216 % 65536) != n) = true) := by
  unfold decB decK decC decF at h
  cases hh : hvB (n / 4 % 64) (n / 256 % 65536) (n / 16777216 % 65536)
  · exact .inl rfl
  · rw [hh] at h
    simp at h
    exact .inr ⟨rfl, by simpa using h⟩
theorem decB_join {n : Int} (h : decB n = true) : hvB (n / 4 % 64) (n / 256 % 65536) (n / 16777216 % 65536) = true ∧ (encI (n / 4 % 64) (n / 256 % 65536) (n / 16777216 % 65536) != n) = false := by
  unfold decB decK decC decF at h
  simpa using h

/-! ### header.Decode -/
set_option maxRecDepth 100000 in
theorem decode_yes (n : Int) (hn : U64 n) (h : decB n = true) (w : World) :
    Calls Try.prog 50 #[.int .u64 n] w fun e w' => e = .returned (.tuple #[.agg #[.int .i64 (decK n), .int .i64 (decC n), .int .i64 (decF n)], .int .i64 0]) ∧ Below w.heap.size w w' := by
  obtain ⟨h1, h2⟩ := decB_join h
  have n0 := hn.nonneg
  have a1 := and63 hn
  have a2 := and16c hn
  have a3 := and16f hn
  obtain ⟨⟨k0, k1⟩, ⟨c0, c1⟩, f0, f1⟩ := dec_bd n
  have hv := fun W => encode_yes _ _ _ h1 W
  clear hn h h1
  go_enter Try.func50, Try.ntmps50
  go_wp2_with (go_at_call 32; refine (hv _).mono ?_; rintro e w' ⟨rfl, hb⟩; obtain ⟨hce, hfr, hsz⟩ := bcell hb; have q0 : w'.cell? ⟨w.heap.size, 0, none⟩ = some (.int .i64 0) := bcellv hb (by simp [go_sem, World.cell?_alloc_past]); have q1 : w'.cell? ⟨w.heap.size, 1, none⟩ = some (.int .i64 0) := bcellv hb (by simp [go_sem, World.cell?_alloc_past]); have q2 : w'.cell? ⟨w.heap.size, 2, none⟩ = some (.int .i64 0) := bcellv hb (by simp [go_sem, World.cell?_alloc_past]))
  exact bodyPost_ret (v := .tuple #[.agg #[.int .i64 (n / 4 % 64), .int .i64 (n / 256 % 65536), .int .i64 (n / 16777216 % 65536)], .int .i64 0]) (by simp [results, Try.results50, go_sem, q0, q1, q2]) rfl ⟨rfl, by (repeat (first | exact Below.refl _ _ | assumption | refine Below.drew ?_ | refine below_drewN ?_ _ | refine balloc ?_ _ | refine Below.setCell ?_ (by first | (simp; done) | (simp; omega) | omega) _ | refine bchain (by assumption) ?_))⟩
set_option maxRecDepth 100000 in
theorem decode_no (n : Int) (hn : U64 n) (h : decB n = false) (w : World) :
    Calls Try.prog 50 #[.int .u64 n] w fun e w' => e = .returned (.tuple #[.agg #[.int .i64 0, .int .i64 0, .int .i64 0], .int .i64 11]) ∧ Below w.heap.size w w' := by
  have n0 := hn.nonneg
  have a1 := and63 hn
  have a2 := and16c hn
  have a3 := and16f hn
  obtain ⟨⟨k0, k1⟩, ⟨c0, c1⟩, f0, f1⟩ := dec_bd n
  rcases decB_split h with h1 | ⟨h1, h2⟩
  · have hv := fun W => encode_no _ _ _ h1 W
    clear hn h h1
    go_enter Try.func50, Try.ntmps50
    go_wp2_with (go_at_call 32; refine (hv _).mono ?_; rintro e w' ⟨rfl, hb⟩; obtain ⟨hce, hfr, hsz⟩ := bcell hb; have q0 : w'.cell? ⟨w.heap.size, 0, none⟩ = some (.int .i64 0) := bcellv hb (by simp [go_sem, World.cell?_alloc_past]); have q1 : w'.cell? ⟨w.heap.size, 1, none⟩ = some (.int .i64 0) := bcellv hb (by simp [go_sem, World.cell?_alloc_past]); have q2 : w'.cell? ⟨w.heap.size, 2, none⟩ = some (.int .i64 0) := bcellv hb (by simp [go_sem, World.cell?_alloc_past]))
    exact bodyPost_ret (v := .tuple #[.agg #[.int .i64 0, .int .i64 0, .int .i64 0], .int .i64 11]) (by simp [results, Try.results50, go_sem, q0, q1, q2]) rfl ⟨rfl, by (repeat (first | exact Below.refl _ _ | assumption | refine Below.drew ?_ | refine below_drewN ?_ _ | refine balloc ?_ _ | refine Below.setCell ?_ (by first | (simp; done) | (simp; omega) | omega) _ | refine bchain (by assumption) ?_))⟩
  · have hv := fun W => encode_yes _ _ _ h1 W
    clear hn h h1
    go_enter Try.func50, Try.ntmps50
    go_wp2_with (go_at_call 32; refine (hv _).mono ?_; rintro e w' ⟨rfl, hb⟩; obtain ⟨hce, hfr, hsz⟩ := bcell hb; have q0 : w'.cell? ⟨w.heap.size, 0, none⟩ = some (.int .i64 0) := bcellv hb (by simp [go_sem, World.cell?_alloc_past]); have q1 : w'.cell? ⟨w.heap.size, 1, none⟩ = some (.int .i64 0) := bcellv hb (by simp [go_sem, World.cell?_alloc_past]); have q2 : w'.cell? ⟨w.heap.size, 2, none⟩ = some (.int .i64 0) := bcellv hb (by simp [go_sem, World.cell?_alloc_past]))
    exact bodyPost_ret (v := .tuple #[.agg #[.int .i64 0, .int .i64 0, .int .i64 0], .int .i64 11]) (by simp [results, Try.results50, go_sem, q0, q1, q2]) rfl ⟨rfl, by (repeat (first | exact Below.refl _ _ | assumption | refine Below.drew ?_ | refine below_drewN ?_ _ | refine balloc ?_ _ | refine Below.setCell ?_ (by first | (simp; done) | (simp; omega) | omega) _ | refine bchain (by assumption) ?_))⟩

/-! ### refmeshref05.Decode -/
set_option maxRecDepth 100000 in
theorem rdecode_yes (n : Int) (hn : U64 n) (h : decB n = true) (w : World) :
    Calls Try.prog 24 #[.int .u64 n] w fun e w' => e = .returned (.tuple #[.agg #[.int .i64 (decK n), .int .i64 (decC n), .int .i64 (decF n)], .int .i64 0]) ∧ Below w.heap.size w w' := by
  obtain ⟨h1, h2⟩ := decB_join h
  have n0 := hn.nonneg
  have b1 := quo_u64 (d := 4) hn (by decide)
  have b2 := quo_u64 (d := 256) hn (by decide)
  have b3 := quo_u64 (d := 16777216) hn (by decide)
  have t1 := rem_u64 (d := 4) (e := 64) n0 (by decide)
  have t2 := rem_u64 (d := 256) (e := 65536) n0 (by decide)
  have t3 := rem_u64 (d := 16777216) (e := 65536) n0 (by decide)
  obtain ⟨⟨k0, k1⟩, ⟨c0, c1⟩, f0, f1⟩ := dec_bd n
  have hv := fun W => rencode_yes _ _ _ h1 W
  clear hn h h1
  go_enter Try.func24, Try.ntmps24
  go_wp2_with (go_at_call 39; refine (hv _).mono ?_; rintro e w' ⟨rfl, hb⟩; obtain ⟨hce, hfr, hsz⟩ := bcell hb; have q0 : w'.cell? ⟨w.heap.size, 0, none⟩ = some (.int .i64 0) := bcellv hb (by simp [go_sem, World.cell?_alloc_past]); have q1 : w'.cell? ⟨w.heap.size, 1, none⟩ = some (.int .i64 0) := bcellv hb (by simp [go_sem, World.cell?_alloc_past]); have q2 : w'.cell? ⟨w.heap.size, 2, none⟩ = some (.int .i64 0) := bcellv hb (by simp [go_sem, World.cell?_alloc_past]))
  exact bodyPost_ret (v := .tuple #[.agg #[.int .i64 (n / 4 % 64), .int .i64 (n / 256 % 65536), .int .i64 (n / 16777216 % 65536)], .int .i64 0]) (by simp [results, Try.results24, go_sem, q0, q1, q2]) rfl ⟨rfl, by (repeat (first | exact Below.refl _ _ | assumption | refine Below.drew ?_ | refine below_drewN ?_ _ | refine balloc ?_ _ | refine Below.setCell ?_ (by first | (simp; done) | (simp; omega) | omega) _ | refine bchain (by assumption) ?_))⟩
set_option maxRecDepth 100000 in
theorem rdecode_no (n : Int) (hn : U64 n) (h : decB n = false) (w : World) :
    Calls Try.prog 24 #[.int .u64 n] w fun e w' => e = .returned (.tuple #[.agg #[.int .i64 0, .int .i64 0, .int .i64 0], .int .i64 11]) ∧ Below w.heap.size w w' := by
  have n0 := hn.nonneg
  have b1 := quo_u64 (d := 4) hn (by decide)
  have b2 := quo_u64 (d := 256) hn (by decide)
  have b3 := quo_u64 (d := 16777216) hn (by decide)
  have t1 := rem_u64 (d := 4) (e := 64) n0 (by decide)
  have t2 := rem_u64 (d := 256) (e := 65536) n0 (by decide)
  have t3 := rem_u64 (d := 16777216) (e := 65536) n0 (by decide)
  obtain ⟨⟨k0, k1⟩, ⟨c0, c1⟩, f0, f1⟩ := dec_bd n
  rcases decB_split h with h1 | ⟨h1, h2⟩
  · have hv := fun W => rencode_no _ _ _ h1 W
    clear hn h h1
    go_enter Try.func24, Try.ntmps24
    go_wp2_with (go_at_call 39; refine (hv _).mono ?_; rintro e w' ⟨rfl, hb⟩; obtain ⟨hce, hfr, hsz⟩ := bcell hb; have q0 : w'.cell? ⟨w.heap.size, 0, none⟩ = some (.int .i64 0) := bcellv hb (by simp [go_sem, World.cell?_alloc_past]); have q1 : w'.cell? ⟨w.heap.size, 1, none⟩ = some (.int .i64 0) := bcellv hb (by simp [go_sem, World.cell?_alloc_past]); have q2 : w'.cell? ⟨w.heap.size, 2, none⟩ = some (.int .i64 0) := bcellv hb (by simp [go_sem, World.cell?_alloc_past]))
    exact bodyPost_ret (v := .tuple #[.agg #[.int .i64 0, .int .i64 0, .int .i64 0], .int .i64 11]) (by simp [results, Try.results24, go_sem, q0, q1, q2]) rfl ⟨rfl, by (repeat (first | exact Below.refl _ _ | assumption | refine Below.drew ?_ | refine below_drewN ?_ _ | refine balloc ?_ _ | refine Below.setCell ?_ (by first | (simp; done) | (simp; omega) | omega) _ | refine bchain (by assumption) ?_))⟩
  · have hv := fun W => rencode_yes _ _ _ h1 W
    clear hn h h1
    go_enter Try.func24, Try.ntmps24
    go_wp2_with (go_at_call 39; refine (hv _).mono ?_; rintro e w' ⟨rfl, hb⟩; obtain ⟨hce, hfr, hsz⟩ := bcell hb; have q0 : w'.cell? ⟨w.heap.size, 0, none⟩ = some (.int .i64 0) := bcellv hb (by simp [go_sem, World.cell?_alloc_past]); have q1 : w'.cell? ⟨w.heap.size, 1, none⟩ = some (.int .i64 0) := bcellv hb (by simp [go_sem, World.cell?_alloc_past]); have q2 : w'.cell? ⟨w.heap.size, 2, none⟩ = some (.int .i64 0) := bcellv hb (by simp [go_sem, World.cell?_alloc_past]))
    exact bodyPost_ret (v := .tuple #[.agg #[.int .i64 0, .int .i64 0, .int .i64 0], .int .i64 11]) (by simp [results, Try.results24, go_sem, q0, q1, q2]) rfl ⟨rfl, by (repeat (first | exact Below.refl _ _ | assumption | refine Below.drew ?_ | refine below_drewN ?_ _ | refine balloc ?_ _ | refine Below.setCell ?_ (by first | (simp; done) | (simp; omega) | omega) _ | refine bchain (by assumption) ?_))⟩

/-! ### The identities -/
theorem validID_any (m s : Int) (w : World) :
    Calls Try.prog 13 #[.agg #[.int .i64 m, .int .i64 s]] w fun e w' => e = .returned (.bool (idB m s)) ∧ Below w.heap.size w w' := by
  go_enter Try.func13, Try.ntmps13
  go_wp2
  all_goals (go_ret; refine ⟨ret_bool ?_, by (repeat (first | exact Below.refl _ _ | assumption | refine Below.drew ?_ | refine below_drewN ?_ _ | refine balloc ?_ _ | refine Below.setCell ?_ (by first | (simp; done) | (simp; omega) | omega) _ | refine bchain (by assumption) ?_))⟩; unfold idB; rw [Bool.eq_iff_iff]; simp_all; try omega)
theorem u64_hi {n : Int} (h : U64 n) : n / 281474976710656 ≤ 65535 := by
  obtain ⟨h0, h1⟩ := h
  omega
theorem id_bd {m s : Int} (h : idB m s = true) : (1 ≤ m ∧ m ≤ 8) ∧ 1 ≤ s ∧ s ≤ 1099511627775 := idB_iff.1 h
theorem encodeID_yes (m s : Int) (h : idB m s = true) (w : World) :
    Calls Try.prog 33 #[.agg #[.int .i64 m, .int .i64 s]] w fun e w' => e = .returned (.tuple #[.int .u64 (idI m s), .int .i64 0]) ∧ Below w.heap.size w w' := by
  obtain ⟨⟨m0, m1⟩, s0, s1⟩ := id_bd h
  clear h
  go_enter Try.func33, Try.ntmps33
  go_wp2
  go_ret2
  exact ⟨ret_two (by unfold idI; omega) rfl, by (repeat (first | exact Below.refl _ _ | assumption | refine Below.drew ?_ | refine below_drewN ?_ _ | refine balloc ?_ _ | refine Below.setCell ?_ (by first | (simp; done) | (simp; omega) | omega) _ | refine bchain (by assumption) ?_))⟩
theorem encodeID_no (m s : Int) (h : idB m s = false) (w : World) :
    Calls Try.prog 33 #[.agg #[.int .i64 m, .int .i64 s]] w fun e w' => e = .returned (.tuple #[.int .u64 0, .int .i64 1]) ∧ Below w.heap.size w w' := by
  have h' := idB_no.1 h
  clear h
  go_enter Try.func33, Try.ntmps33
  go_wp2
  all_goals first | (exfalso; simp_all; done) | (exfalso; omega) | (go_ret2; exact ⟨rfl, by (repeat (first | exact Below.refl _ _ | assumption | refine Below.drew ?_ | refine below_drewN ?_ _ | refine balloc ?_ _ | refine Below.setCell ?_ (by first | (simp; done) | (simp; omega) | omega) _ | refine bchain (by assumption) ?_))⟩)
theorem rencodeID_yes (m s : Int) (h : idB m s = true) (w : World) :
    Calls Try.prog 40 #[.agg #[.int .i64 m, .int .i64 s]] w fun e w' => e = .returned (.tuple #[.int .u64 (idI m s), .int .i64 0]) ∧ Below w.heap.size w w' := by
  obtain ⟨⟨m0, m1⟩, s0, s1⟩ := id_bd h
  have hv := fun W => (validID_any m s W)
  simp only [h] at hv
  clear h
  go_enter Try.func40, Try.ntmps40
  go_wp2_with (go_at_call 13; refine (hv _).mono ?_; rintro e w' ⟨rfl, hb⟩; obtain ⟨hce, hfr, hsz⟩ := bcell hb)
  go_ret2
  exact ⟨ret_two (by unfold idI; omega) rfl, by (repeat (first | exact Below.refl _ _ | assumption | refine Below.drew ?_ | refine below_drewN ?_ _ | refine balloc ?_ _ | refine Below.setCell ?_ (by first | (simp; done) | (simp; omega) | omega) _ | refine bchain (by assumption) ?_))⟩
theorem rencodeID_no (m s : Int) (h : idB m s = false) (w : World) :
    Calls Try.prog 40 #[.agg #[.int .i64 m, .int .i64 s]] w fun e w' => e = .returned (.tuple #[.int .u64 0, .int .i64 1]) ∧ Below w.heap.size w w' := by
  have hv := fun W => (validID_any m s W)
  simp only [h] at hv
  clear h
  go_enter Try.func40, Try.ntmps40
  go_wp2_with (go_at_call 13; refine (hv _).mono ?_; rintro e w' ⟨rfl, hb⟩; obtain ⟨hce, hfr, hsz⟩ := bcell hb)
  go_ret2
  exact ⟨rfl, by (repeat (first | exact Below.refl _ _ | assumption | refine Below.drew ?_ | refine below_drewN ?_ _ | refine balloc ?_ _ | refine Below.setCell ?_ (by first | (simp; done) | (simp; omega) | omega) _ | refine bchain (by assumption) ?_))⟩

theorem decodeID_yes (n : Int) (hn : U64 n) (h : didB n = true) (w : World) :
    Calls Try.prog 51 #[.int .u64 n] w fun e w' => e = .returned (.agg #[.int .i64 (didM n), .int .i64 (didS n)]) ∧ Below w.heap.size w w' := by
  unfold didB at h
  unfold didM didS at *
  have n0 := hn.nonneg
  have bd := id_bd h
  have s0 : 0 ≤ n % 281474976710656 := by omega
  have s1 : n % 281474976710656 < 281474976710656 := by omega
  have m1 : n / 281474976710656 ≤ 8 := by omega
  have m0 : 0 ≤ n / 281474976710656 := by omega
  have a1 := and48 hn
  have hv := fun W => encodeID_yes _ _ h W
  clear hn h bd
  go_enter Try.func51, Try.ntmps51
  go_wp2_with (go_at_call 33; refine (hv _).mono ?_; rintro e w' ⟨rfl, hb⟩; obtain ⟨hce, hfr, hsz⟩ := bcell hb; have q0 : w'.cell? ⟨w.heap.size, 0, none⟩ = some (.int .i64 0) := bcellv hb (by simp [go_sem, World.cell?_alloc_past]); have q1 : w'.cell? ⟨w.heap.size, 1, none⟩ = some (.int .i64 0) := bcellv hb (by simp [go_sem, World.cell?_alloc_past]))
  exact bodyPost_ret (v := .agg #[.int .i64 (n / 281474976710656), .int .i64 (n % 281474976710656)]) (by simp [results, Try.results51, go_sem, q0, q1]) rfl ⟨rfl, by (repeat (first | exact Below.refl _ _ | assumption | refine Below.drew ?_ | refine below_drewN ?_ _ | refine balloc ?_ _ | refine Below.setCell ?_ (by first | (simp; done) | (simp; omega) | omega) _ | refine bchain (by assumption) ?_))⟩
theorem decodeID_no (n : Int) (hn : U64 n) (h : didB n = false) (w : World) :
    Calls Try.prog 51 #[.int .u64 n] w fun e w' => e = .returned (.agg #[.int .i64 0, .int .i64 0]) ∧ Below w.heap.size w w' := by
  unfold didB at h
  unfold didM didS at *
  have n0 := hn.nonneg
  have s0 : 0 ≤ n % 281474976710656 := by omega
  have s1 : n % 281474976710656 < 281474976710656 := by omega
  have m1 := u64_hi hn
  have m0 : 0 ≤ n / 281474976710656 := by omega
  have a1 := and48 hn
  have hv := fun W => encodeID_no _ _ h W
  clear hn h
  go_enter Try.func51, Try.ntmps51
  go_wp2_with (go_at_call 33; refine (hv _).mono ?_; rintro e w' ⟨rfl, hb⟩; obtain ⟨hce, hfr, hsz⟩ := bcell hb; have q0 : w'.cell? ⟨w.heap.size, 0, none⟩ = some (.int .i64 0) := bcellv hb (by simp [go_sem, World.cell?_alloc_past]); have q1 : w'.cell? ⟨w.heap.size, 1, none⟩ = some (.int .i64 0) := bcellv hb (by simp [go_sem, World.cell?_alloc_past]))
  exact bodyPost_ret (v := .agg #[.int .i64 0, .int .i64 0]) (by simp [results, Try.results51, go_sem, q0, q1]) rfl ⟨rfl, by (repeat (first | exact Below.refl _ _ | assumption | refine Below.drew ?_ | refine below_drewN ?_ _ | refine balloc ?_ _ | refine Below.setCell ?_ (by first | (simp; done) | (simp; omega) | omega) _ | refine bchain (by assumption) ?_))⟩

theorem rdecodeID_yes (n : Int) (hn : U64 n) (h : didB n = true) (w : World) :
    Calls Try.prog 25 #[.int .u64 n] w fun e w' => e = .returned (.agg #[.int .i64 (didM n), .int .i64 (didS n)]) ∧ Below w.heap.size w w' := by
  unfold didB at h
  unfold didM didS at *
  have n0 := hn.nonneg
  have bd := id_bd h
  have s0 : 0 ≤ n % 281474976710656 := by omega
  have s1 : n % 281474976710656 < 281474976710656 := by omega
  have m1 : n / 281474976710656 ≤ 8 := by omega
  have m0 : 0 ≤ n / 281474976710656 := by omega
  have b1 := quo_u64 (d := 281474976710656) hn (by decide)
  have hv := fun W => validID_any (n / 281474976710656) (n % 281474976710656) W
  simp only [h] at hv
  clear hn h bd
  go_enter Try.func25, Try.ntmps25
  go_wp2_with (go_at_call 13; refine (hv _).mono ?_; rintro e w' ⟨rfl, hb⟩; obtain ⟨hce, hfr, hsz⟩ := bcell hb; have q0 : w'.cell? ⟨w.heap.size, 0, none⟩ = some (.int .i64 0) := bcellv hb (by simp [go_sem, World.cell?_alloc_past]); have q1 : w'.cell? ⟨w.heap.size, 1, none⟩ = some (.int .i64 0) := bcellv hb (by simp [go_sem, World.cell?_alloc_past]))
  exact bodyPost_ret (v := .agg #[.int .i64 (n / 281474976710656), .int .i64 (n % 281474976710656)]) (by simp [results, Try.results25, go_sem, q0, q1]) rfl ⟨rfl, by (repeat (first | exact Below.refl _ _ | assumption | refine Below.drew ?_ | refine below_drewN ?_ _ | refine balloc ?_ _ | refine Below.setCell ?_ (by first | (simp; done) | (simp; omega) | omega) _ | refine bchain (by assumption) ?_))⟩
theorem rdecodeID_no (n : Int) (hn : U64 n) (h : didB n = false) (w : World) :
    Calls Try.prog 25 #[.int .u64 n] w fun e w' => e = .returned (.agg #[.int .i64 0, .int .i64 0]) ∧ Below w.heap.size w w' := by
  unfold didB at h
  unfold didM didS at *
  have n0 := hn.nonneg
  have s0 : 0 ≤ n % 281474976710656 := by omega
  have s1 : n % 281474976710656 < 281474976710656 := by omega
  have m1 := u64_hi hn
  have m0 : 0 ≤ n / 281474976710656 := by omega
  have b1 := quo_u64 (d := 281474976710656) hn (by decide)
  have hv := fun W => validID_any (n / 281474976710656) (n % 281474976710656) W
  simp only [h] at hv
  clear hn h
  go_enter Try.func25, Try.ntmps25
  go_wp2_with (go_at_call 13; refine (hv _).mono ?_; rintro e w' ⟨rfl, hb⟩; obtain ⟨hce, hfr, hsz⟩ := bcell hb; have q0 : w'.cell? ⟨w.heap.size, 0, none⟩ = some (.int .i64 0) := bcellv hb (by simp [go_sem, World.cell?_alloc_past]); have q1 : w'.cell? ⟨w.heap.size, 1, none⟩ = some (.int .i64 0) := bcellv hb (by simp [go_sem, World.cell?_alloc_past]))
  exact bodyPost_ret (v := .agg #[.int .i64 0, .int .i64 0]) (by simp [results, Try.results25, go_sem, q0, q1]) rfl ⟨rfl, by (repeat (first | exact Below.refl _ _ | assumption | refine Below.drew ?_ | refine below_drewN ?_ _ | refine balloc ?_ _ | refine Below.setCell ?_ (by first | (simp; done) | (simp; omega) | omega) _ | refine bchain (by assumption) ?_))⟩
end Go.Proofs.Ytafailcjdkmdhaa
