/-
  The statement SpaceClones: the walk.
-/
import Derived.Test.YtafailcjdkmdhaaAddr
import Derived.Deep.DeepCutAuto
import Derived.BigRegion
namespace Go.Proofs.Ytafailcjdkmdhaa
open Go.RowKit
set_option linter.unusedSimpArgs false
set_option linter.unusedVariables false

/-- Two pairs that share nothing that is written. -/
structure Apart (T1 B1 : Nat) (g1 gm1 : Option Nat) (T2 B2 : Nat) (g2 gm2 : Option Nat) : Prop where
  tt : T1 ≠ T2
  tb : T1 ≠ B2
  bt : B1 ≠ T2
  bb : B1 ≠ B2
  a1 : ∀ G, g1 = some G → G ≠ T2 ∧ G ≠ B2 ∧ g2 ≠ some G
  m1 : ∀ G, gm1 = some G → G ≠ T2 ∧ G ≠ B2 ∧ g2 ≠ some G
  a2 : ∀ G, g2 = some G → G ≠ T1 ∧ G ≠ B1 ∧ g1 ≠ some G
  m2 : ∀ G, gm2 = some G → G ≠ T1 ∧ G ≠ B1 ∧ g1 ≠ some G
theorem Apart.symm {T1 B1 : Nat} {g1 gm1 : Option Nat} {T2 B2 : Nat} {g2 gm2 : Option Nat} (h : Apart T1 B1 g1 gm1 T2 B2 g2 gm2) : Apart T2 B2 g2 gm2 T1 B1 g1 gm1 := ⟨h.tt.symm, h.bt.symm, h.tb.symm, h.bb.symm, h.a2, h.m2, h.a1, h.m1⟩
theorem two_step {w0 T1 B1 T2 B2 : Nat} {wr W : World} {A1 A2 A' : Option Addr} {n1 c1 n2 c2 n' c' : Nat} {bs lm : Int} {ws1 ws2 ws' : List Int} {g1 gm1 g2 gm2 g' gm' : Option Nat} (h1 : PairIn w0 T1 B1 wr A1 n1 c1 bs lm ws1 g1 gm1) (h2 : PairIn w0 T2 B2 wr A2 n2 c2 bs lm ws2 g2 gm2) (ha : Apart T1 B1 g1 gm1 T2 B2 g2 gm2)
    (hP : PairIn w0 T1 B1 W A' n' c' bs lm ws' g' gm') (hM : Mods (TS T1 B1 g1) wr W) (hg : ∀ G, g' = some G → g1 = some G ∨ wr.heap.size ≤ G) (hgm : ∀ G, gm' = some G → gm1 = some G ∨ wr.heap.size ≤ G) :
    PairIn w0 T2 B2 W A2 n2 c2 bs lm ws2 g2 gm2 ∧ Apart T1 B1 g' gm' T2 B2 g2 gm2 := by
  obtain ⟨l1, l2, l3, l4⟩ := h2.lt
  refine ⟨h2.mods hM ?_ ?_ ?_ ?_, ⟨ha.tt, ha.tb, ha.bt, ha.bb, fun G e => ?_, fun G e => ?_, fun G e => ?_, fun G e => ?_⟩⟩
  · rintro (h | h | h)
    · exact ha.tt h.symm
    · exact ha.bt h.symm
    · exact (ha.a1 _ h).1 rfl
  · rintro (h | h | h)
    · exact ha.tb h.symm
    · exact ha.bb h.symm
    · exact (ha.a1 _ h).2.1 rfl
  · rintro G e (h | h | h)
    · exact (ha.a2 G e).1 h
    · exact (ha.a2 G e).2.1 h
    · exact (ha.a2 G e).2.2 h
  · rintro G e (h | h | h)
    · exact (ha.m2 G e).1 h
    · exact (ha.m2 G e).2.1 h
    · exact (ha.m2 G e).2.2 h
  · rcases hg G e with h | h
    · exact ha.a1 G h
    · exact ⟨by omega, by omega, fun e' => by have := l3 G e'; omega⟩
  · rcases hgm G e with h | h
    · exact ha.m1 G h
    · exact ⟨by omega, by omega, fun e' => by have := l3 G e'; omega⟩
  · refine ⟨(ha.a2 G e).1, (ha.a2 G e).2.1, fun e' => ?_⟩
    rcases hg G e' with h | h
    · exact (ha.a2 G e).2.2 h
    · have := l3 G e; omega
  · refine ⟨(ha.m2 G e).1, (ha.m2 G e).2.1, fun e' => ?_⟩
    rcases hg G e' with h | h
    · exact (ha.m2 G e).2.2 h
    · have := l4 G e; omega
/-- A pair and its copy. -/
def TwoIn (w : World) (T B : Nat) (t10 t11 : Value) (W : World) : Prop :=
  ∃ (B2 T2 : Nat) (A A2 : Option Addr) (n cp n2 cp2 : Nat) (ws ws2 : List Int) (g gm g2 gm2 : Option Nat), t10 = .pointer (some ⟨B2, 0, none⟩) ∧ t11 = .pointer (some ⟨T2, 0, none⟩) ∧
    PairIn w.heap.size T B W A n cp 20 100000 ws g gm ∧ PairIn w.heap.size T2 B2 W A2 n2 cp2 20 100000 ws2 g2 gm2 ∧ Apart T B g gm T2 B2 g2 gm2 ∧ Below w.heap.size w W
/-- Behind the copy: the two are the same. -/
def CopyIn (w : World) (T B : Nat) (A : Option Addr) (n cp : Nat) (ws : List Int) (g gm : Option Nat) (t10 t11 : Value) (W : World) : Prop :=
  ∃ (B2 T2 : Nat) (g2 : Option Nat), t10 = .pointer (some ⟨B2, 0, none⟩) ∧ t11 = .pointer (some ⟨T2, 0, none⟩) ∧
    PairIn w.heap.size T B W A n cp 20 100000 ws g gm ∧ PairIn w.heap.size T2 B2 W A n cp 20 100000 ws g2 gm ∧ Apart T B g gm T2 B2 g2 gm ∧ Below w.heap.size w W
theorem copy_in {w wr W : World} {T B B2 T2 : Nat} {A : Option Addr} {n cp : Nat} {ws : List Int} {g gm g2 : Option Nat} (hP : PairIn w.heap.size T B wr A n cp 20 100000 ws g gm) (hbr : Below w.heap.size w wr) (hb : Below wr.heap.size wr W)
    (hs : SpAt W B2 20 100000 ws g2) (hB2 : wr.heap.size ≤ B2) (hg2 : ∀ G, g2 = some G → wr.heap.size ≤ G) (hT2 : wr.heap.size ≤ T2) (hTB : T2 ≠ B2) (hTg : ∀ G, g2 = some G → G ≠ T2) (hbox : W.heap[T2]? = some (.cells #[.int .i64 20, .int .i64 100000, .slice A n cp] 43 (0, 0))) :
    CopyIn w T B A n cp ws g gm (.pointer (some ⟨B2, 0, none⟩)) (.pointer (some ⟨T2, 0, none⟩)) W := by
  obtain ⟨l1, l2, l3, l4⟩ := hP.lt
  have hz := hbr.size
  have hPW := hP.below hb
  refine ⟨B2, T2, g2, rfl, rfl, hPW, ⟨hP.len, ⟨hs, hPW.pair.md, hP.pair.ok, fun G e => not_sps (by have := l4 G e; omega) (fun G' e' => by have := l4 G e; have := hg2 G' e'; omega)⟩, hbox, fun G e => ⟨by have := hg2 G e; omega, hTg G e⟩, fun G e => ⟨(hP.gmT G e).1, by have := l4 G e; omega⟩, by omega, by omega, hTB⟩, ?_, hbr.trans (hb.mono hz)⟩
  refine ⟨by omega, by omega, by omega, by omega, fun G e => ?_, fun G e => ?_, fun G e => ?_, fun G e => ?_⟩
  · have := l3 G e; exact ⟨by omega, by omega, fun e' => by have := hg2 G e'; omega⟩
  · have := l4 G e; exact ⟨by omega, by omega, fun e' => by have := hg2 G e'; omega⟩
  · have := hg2 G e; exact ⟨by omega, by omega, fun e' => by have := l3 G e'; omega⟩
  · exact ⟨(hP.gmT G e).2, fun h => hP.pair.ap G e (.inl h), fun h => hP.pair.ap G e (.inr h)⟩

set_option maxRecDepth 100000 in
set_option maxHeartbeats 4000000 in
theorem clones_wide (a1 a2 a3 : Option Addr) (n1 n2 n3 c1 c2 c3 : Nat) (h63 : n1 ≤ 9223372036854775807 ∧ n2 ≤ 9223372036854775807 ∧ n3 ≤ 9223372036854775807) (hw : 30 < n1 ∨ 30 < n2 ∨ 30 < n3) (w : World) :
    Calls Try.prog 8 #[.slice a1 n1 c1, .slice a2 n2 c2, .slice a3 n3 c3] w fun e w' => e = .returned (.bool true) ∧ Below w.heap.size w w' := by
  have h1 := fun W => wide_any a1 n1 c1 h63.1 W
  have h2 := fun W => wide_any a2 n2 c2 h63.2.1 W
  have h3 := fun W => wide_any a3 n3 c3 h63.2.2 W
  clear h63
  cases d1 : decide (30 < n1)
  · cases d2 : decide (30 < n2)
    · have d3 : decide (30 < n3) = true := by simp at *; omega
      rw [d1] at h1
      rw [d2] at h2
      rw [d3] at h3
      clear d1 d2 d3 hw
      go_enter Try.func8, Try.ntmps8
      go_wp2_with (first | (go_at_call 9; refine (awake6 _).mono ?_; rintro e wz ⟨rfl, hz⟩) | (go_at_call 10; refine (h1 _).mono ?_; rintro e wz ⟨rfl, hz⟩) | (go_at_call 10; refine (h2 _).mono ?_; rintro e wz ⟨rfl, hz⟩) | (go_at_call 10; refine (h3 _).mono ?_; rintro e wz ⟨rfl, hz⟩))
      go_ret
      exact ⟨rfl, by (repeat (first | exact Below.refl _ _ | assumption | refine Below.drew ?_ | refine below_drewN ?_ _ | refine balloc ?_ _ | refine Below.setCell ?_ (by first | (simp; done) | (simp; omega) | omega) _ | refine bchain (by assumption) ?_))⟩
    · rw [d1] at h1
      rw [d2] at h2
      clear d1 d2 hw h3
      go_enter Try.func8, Try.ntmps8
      go_wp2_with (first | (go_at_call 9; refine (awake6 _).mono ?_; rintro e wz ⟨rfl, hz⟩) | (go_at_call 10; refine (h1 _).mono ?_; rintro e wz ⟨rfl, hz⟩) | (go_at_call 10; refine (h2 _).mono ?_; rintro e wz ⟨rfl, hz⟩))
      go_ret
      exact ⟨rfl, by (repeat (first | exact Below.refl _ _ | assumption | refine Below.drew ?_ | refine below_drewN ?_ _ | refine balloc ?_ _ | refine Below.setCell ?_ (by first | (simp; done) | (simp; omega) | omega) _ | refine bchain (by assumption) ?_))⟩
  · rw [d1] at h1
    clear d1 hw h2 h3
    go_enter Try.func8, Try.ntmps8
    go_wp2_with (first | (go_at_call 9; refine (awake6 _).mono ?_; rintro e wz ⟨rfl, hz⟩) | (go_at_call 10; refine (h1 _).mono ?_; rintro e wz ⟨rfl, hz⟩))
    go_ret
    exact ⟨rfl, by (repeat (first | exact Below.refl _ _ | assumption | refine Below.drew ?_ | refine below_drewN ?_ _ | refine balloc ?_ _ | refine Below.setCell ?_ (by first | (simp; done) | (simp; omega) | omega) _ | refine bchain (by assumption) ?_))⟩

set_option maxRecDepth 100000 in
set_option maxHeartbeats 8000000 in
theorem clones_walk (a1 a2 a3 : Option Addr) (l1 l2 l3 : List Op6) (c1 c2 c3 : Nat) (hc1 : l1.length ≤ c1) (hc2 : l2.length ≤ c2) (hc3 : l3.length ≤ c3) (hq1 : c1 ≤ 9223372036854775807) (hq2 : c2 ≤ 9223372036854775807) (hq3 : c3 ≤ 9223372036854775807) (w : World) (hl1 : Ops6 w a1 l1) (hl2 : Ops6 w a2 l2) (hl3 : Ops6 w a3 l3) :
    Calls Try.prog 8 #[.slice a1 l1.length c1, .slice a2 l2.length c2, .slice a3 l3.length c3] w fun e w' => e = .returned (.bool true) ∧ Below w.heap.size w w' := by
  by_cases hw : 30 < l1.length ∨ 30 < l2.length ∨ 30 < l3.length
  · exact clones_wide a1 a2 a3 _ _ _ c1 c2 c3 (by omega) hw w
  have h1 := fun W => wide_any a1 l1.length c1 (by omega) W
  have h2 := fun W => wide_any a2 l2.length c2 (by omega) W
  have h3 := fun W => wide_any a3 l3.length c3 (by omega) W
  rw [show decide (30 < l1.length) = false by simp; omega] at h1
  rw [show decide (30 < l2.length) = false by simp; omega] at h2
  rw [show decide (30 < l3.length) = false by simp; omega] at h3
  have hn1 : l1.length ≤ 30 := by omega
  have hn2 : l2.length ≤ 30 := by omega
  have hn3 : l3.length ≤ 30 := by omega
  have n1 := fun W => new_any 20 100000 W
  have n2 := fun W => rnew_any 20 100000 W
  rw [show max (20 : Int) 0 = 20 by decide, show newLm 20 100000 = 100000 by decide] at n1 n2
  have hk0 : SpOk 20 100000 [] := ⟨by omega, by simp, by omega, by simp⟩
  clear hw
  go_enter Try.func8, Try.ntmps8
  go_wp2_with fail
  refine (awake6 _).mono ?_
  rintro e w1 ⟨rfl, hb1'⟩
  go_wp2_with fail
  refine (h1 _).mono ?_
  rintro e w11 ⟨rfl, hb11'⟩
  go_wp2_with fail
  refine (h2 _).mono ?_
  rintro e w12 ⟨rfl, hb12'⟩
  go_wp2_with fail
  refine (h3 _).mono ?_
  rintro e w2 ⟨rfl, hb2'⟩
  go_wp2_with fail
  refine (n1 _).mono ?_
  rintro e w3 ⟨rfl, hw3⟩
  have hs3 := spNew w2 20 100000
  rw [hw3] at hs3
  have hb3' : Below w2.heap.size w2 w3 := by rw [← hw3]; exact balloc (Below.refl _ _) _
  go_wp2_with fail
  refine (n2 _).mono ?_
  rintro e w4 ⟨⟨v4, rfl, hm4⟩, hb4'⟩
  obtain ⟨A4, cap4, rfl, hr4⟩ := hm4
  have hm4 : MdAt w4 (.agg #[.int .i64 20, .int .i64 100000, .slice A4 0 cap4]) 20 100000 [] none := ⟨A4, cap4, rfl, hr4⟩
  have hs4 := hs3.below hb4'
  have hbw4 : Below w.heap.size w w4 := by (repeat (first | exact Below.refl _ _ | assumption | refine Below.drew ?_ | refine below_drewN ?_ _ | refine balloc ?_ _ | refine Below.setCell ?_ (by first | (simp; done) | (simp; omega) | omega) _ | refine bchain (by assumption) ?_))
  have hw2 : w.heap.size ≤ w2.heap.size := (by (repeat (first | exact Below.refl _ _ | assumption | refine Below.drew ?_ | refine below_drewN ?_ _ | refine balloc ?_ _ | refine Below.setCell ?_ (by first | (simp; done) | (simp; omega) | omega) _ | refine bchain (by assumption) ?_)) : Below w.heap.size w w2).size
  have hlt4 : w2.heap.size < w4.heap.size := hs4.lt
  have hP : PairIn w.heap.size w4.heap.size w2.heap.size (w4.alloc (.cells #[.int .i64 20, .int .i64 100000, .slice A4 0 cap4] 43)) A4 0 cap4 20 100000 [] none none :=
    ⟨rfl, ⟨hs4.below (balloc (Below.refl _ _) _), hm4.below (balloc (Below.refl _ _) _), hk0, fun G e => by cases e⟩, alloc_get _ _, fun G e => (by cases e), fun G e => (by cases e), hw2, by omega, by omega⟩
  have hbw5 : Below w.heap.size w (w4.alloc (.cells #[.int .i64 20, .int .i64 100000, .slice A4 0 cap4] 43)) := balloc hbw4 _
  clear hw3 n1 n2 h1 h2 h3 hb3' hb2' hb1' hb11' hb12' hb4' hs3 hs4 hm4 hr4 hk0 hbw4
  simp only [List.length_nil]
  generalize w2.heap.size = B at *
  go_wp2_with fail
  generalize w4.heap.size = T at *
  go_loopw [9] (fun i wr => ∃ (t : Nat) (A : Option Addr) (n cp : Nat) (ws : List Int) (g gm : Option Nat), t ≤ l1.length ∧ i = .int .i64 t ∧ PairIn w.heap.size T B wr A n cp 20 100000 ws g gm ∧ Below w.heap.size w wr) (fun i _ => l1.length - intOf i)
  case atStart => exact ⟨0, _, _, _, _, _, _, Nat.zero_le _, rfl, hP, hbw5⟩
  case round =>
    obtain ⟨t, A, n, cp, ws, g, gm, ht, rfl, hP, hbr⟩ := hrel
    clear hbw5
    by_cases hlt : t < l1.length
    · clear hl2 hl3 hc2 hc3 hq2 hq3 hn2 hn3
      obtain ⟨b, off, o, rfl, ho, hbl, hou, c0, c1, c2, c3, c4, c5, c6, c7⟩ := (hl1.below (B := 0) hbr).get hlt
      obtain ⟨kd, k, c, f, m, s, oa, ou⟩ := o
      simp only at hou c0 c1 c2 c3 c4 c5 c6 c7
      obtain ⟨t0, t1, t2, t3⟩ := hP.cells
      have hst6 := step_in hP.drew kd k c f m s oa ou hou
      have s1 : ((t : Int)).toNat = t := by omega
      clear ho hl1
      go_wp2_with fail
      go_region_with (first | (go_at_call 17; refine hst6.mono ?_; rintro e w6 ⟨A6, n6, cap6, ws6, g6, gm6, rfl, hm6, hP6, hM6, hg6, hgm6⟩; have tb := mblock hm6 (show wr.drew.heap[T]? = _ from hP.box) hP.nT; have u0 : w6.cell? ⟨T, 0, none⟩ = some (.int .i64 20) := (by rw [cell_of_block tb]; rfl); have u1 : w6.cell? ⟨T, 1, none⟩ = some (.int .i64 100000) := (by rw [cell_of_block tb]; rfl); have u2 : w6.cell? ⟨T, 2, none⟩ = some (.slice A n cp) := (by rw [cell_of_block tb]; rfl); have u3 : ∀ i, w6.frozen? ⟨T, i, none⟩ = false := frozen_of_block tb; clear t0 t1 t2 t3 tb hm6))
      all_goals
        have hbn : Below w.heap.size w (((w6.setCell ⟨T, 0, none⟩ (.int .i64 20)).setCell ⟨T, 1, none⟩ (.int .i64 100000)).setCell ⟨T, 2, none⟩ (.slice A6 n6 cap6)) := (hbr.drew).trans (hM6.below hbr.size (TS_ge hP.hT hP.hB (fun G e => (hP.gT G e).1)))
        clear u0 u1 u2 u3 hM6 hst6 c0 c1 c2 c3 c4 c5 c6 c7
        go_wp2
        go_roundw
        case rel => exact ⟨t + 1, A6, n6, cap6, ws6, g6, gm6, by omega, by go_num, hP6, hbn⟩
        case measure => simp [intOf]; omega
    · clear hl1
      obtain ⟨t0, t1, t2, t3⟩ := hP.cells
      have hcl := space_clone hP.drew.pair.sp hP.pair.ok
      have hcl2 := fun o => space_clone (hP.drew.below (balloc (Below.refl _ _) o)).pair.sp hP.pair.ok
      have hTl := hP.lt.1
      have hT1 : T ≠ wr.heap.size := by omega
      have hT2 : wr.heap.size ≠ T := by omega
      go_upto_region 12 with (fail)
      go_cut [10, 11] (fun t10 t11 W => CopyIn w T B A n cp ws g gm t10 t11 W)
      case first =>
        go_region_held3 (fun w' => w'.cell? ⟨T, 0, none⟩ = some (.int .i64 20) ∧ w'.cell? ⟨T, 1, none⟩ = some (.int .i64 100000) ∧ w'.cell? ⟨T, 2, none⟩ = some (.slice A n cp)) (first | exact ⟨t0, t1, t2⟩ | go_keep) (first
          | (go_at_call 30; refine hcl.mono ?_; rintro e w6 ⟨B2, g2, rfl, hs6, hB2, hg2, hb6⟩; have t0 := bcellv hb6 (show wr.drew.cell? _ = _ from t0); have t1 := bcellv hb6 (show wr.drew.cell? _ = _ from t1); have t2 := bcellv hb6 (show wr.drew.cell? _ = _ from t2))
          | (go_at_call 30; refine (hcl2 _).mono ?_; rintro e w6 ⟨B2, g2, rfl, hs6, hB2, hg2, hb6⟩; have hx : w6.heap[wr.heap.size]? = some (.cells #[.int .i64 0, .int .i64 0, .slice none 0 0] 43 (0, 0)) := bblock hb6 (alloc_get wr.drew _); have x0 : w6.cell? ⟨wr.heap.size, 0, none⟩ = some (.int .i64 0) := (by rw [cell_of_block hx]; rfl); have x1 : w6.cell? ⟨wr.heap.size, 1, none⟩ = some (.int .i64 0) := (by rw [cell_of_block hx]; rfl); have x2 : w6.cell? ⟨wr.heap.size, 2, none⟩ = some (.slice none 0 0) := (by rw [cell_of_block hx]; rfl); have x3 : ∀ i, w6.frozen? ⟨wr.heap.size, i, none⟩ = false := frozen_of_block hx; have t0 := bcellv hb6 (show (wr.drew.alloc _).cell? _ = _ from bcellv (balloc (Below.refl _ wr.drew) _) t0); have t1 := bcellv hb6 (show (wr.drew.alloc _).cell? _ = _ from bcellv (balloc (Below.refl _ wr.drew) _) t1); have t2 := bcellv hb6 (show (wr.drew.alloc _).cell? _ = _ from bcellv (balloc (Below.refl _ wr.drew) _) t2)))
        · go_wp2_with fail
          go_meet
          clear hcl hcl2
          have l6 := hs6.lt
          have g6 := hs6.glt
          exact copy_in hP hbr (balloc (bchain hb6 (Below.refl _ _).drew) _) (hs6.below (balloc (Below.refl _ _) _)) hB2 hg2 hb6.size (by omega) (fun G e => by have := g6 G e; omega) (alloc_get _ _)
        · go_wp2_with fail
          go_meet
          clear hcl hcl2
          have l6 : wr.heap.size + 1 ≤ B2 := by simpa using hB2
          have g6 : ∀ G, g2 = some G → wr.heap.size + 1 ≤ G := fun G e => by simpa using hg2 G e
          have hM : Mods (fun k => k = wr.heap.size) w6 (((w6.setCell ⟨wr.heap.size, 0, none⟩ (.int .i64 20)).setCell ⟨wr.heap.size, 1, none⟩ (.int .i64 100000)).setCell ⟨wr.heap.size, 2, none⟩ (.slice A n cp)) :=
            (((Mods.refl (fun k => k = wr.heap.size) w6).setCell (p := ⟨wr.heap.size, 0, none⟩) (.inl rfl) _).setCell (p := ⟨wr.heap.size, 1, none⟩) (.inl rfl) _).setCell (p := ⟨wr.heap.size, 2, none⟩) (.inl rfl) _
          have hb66 : Below wr.heap.size wr w6 := bchain hb6 (balloc (Below.refl _ wr).drew _)
          exact copy_in hP hbr (((hb66.setCell (p := ⟨wr.heap.size, 0, none⟩) (Nat.le_refl _) _).setCell (p := ⟨wr.heap.size, 1, none⟩) (Nat.le_refl _) _).setCell (p := ⟨wr.heap.size, 2, none⟩) (Nat.le_refl _) _) (hs6.mods hM (by omega) (fun G e => by have := g6 G e; omega)) (by omega) (fun G e => by have := g6 G e; omega) (Nat.le_refl _) (by omega) (fun G e => by have := g6 G e; omega) (heap_put3 hx)
      case rest =>
        obtain ⟨B2, T2, g2, rfl, rfl, hP1, hP2, hA, hbc⟩ := hcut
        have hsm := same_any hP2.pair.sp hP1.pair.md hP1.pair.ok
        obtain ⟨t0, t1, t2, t3⟩ := hP1.cells
        clear hP hcl hcl2 hTl hT1 hT2
        go_wp2_with fail
        refine hsm.mono ?_
        rintro e w7 ⟨rfl, hb7⟩
        have hP1 := hP1.below hb7
        have hP2 := hP2.below hb7
        have hbc := bchain hb7 hbc
        clear hsm t0 t1 t2 t3 hb7
        go_wp2_with fail
        go_loopw [12] (fun i wr => ∃ (t : Nat) (A A2 : Option Addr) (n cp n2 cp2 : Nat) (ws ws2 : List Int) (g gm g2 gm2 : Option Nat), t ≤ max l2.length l3.length ∧ i = .int .i64 t ∧ PairIn w.heap.size T B wr A n cp 20 100000 ws g gm ∧ PairIn w.heap.size T2 B2 wr A2 n2 cp2 20 100000 ws2 g2 gm2 ∧ Apart T B g gm T2 B2 g2 gm2 ∧ Below w.heap.size w wr) (fun i _ => max l2.length l3.length - intOf i)
        case atStart => exact ⟨0, _, _, _, _, _, _, _, _, _, _, _, _, Nat.zero_le _, rfl, hP1, hP2, hA, hbc⟩
        case round =>
          obtain ⟨t, A, A2, n, cp, n2, cp2, ws, ws2, g, gm, g2, gm2, ht, rfl, hP1, hP2, hA, hbr⟩ := hrel
          clear hbc
          have s1 : ((t : Int)).toNat = t := by omega
          by_cases lt2 : t < l2.length
          · by_cases lt3 : t < l3.length
            · clear hc2 hc3 hq2 hq3
              obtain ⟨b, off, o, rfl, ho, hbl, hou, c0, c1, c2, c3, c4, c5, c6, c7⟩ := (hl2.below (B := 0) hbr).get lt2
              obtain ⟨kd, k, c, f, m, s, oa, ou⟩ := o
              simp only at hou c0 c1 c2 c3 c4 c5 c6 c7
              obtain ⟨t0, t1, t2, t3⟩ := hP1.cells
              have hst6 := step_in hP1.drew kd k c f m s oa ou hou
              clear ho
              go_wp2_with fail
              go_region_with (first | (go_at_call 17; refine hst6.mono ?_; rintro e w6 ⟨A6, n6, cap6, ws6, g6, gm6, rfl, hm6, hP6, hM6, hg6, hgm6⟩; have tb := mblock hm6 (show wr.drew.heap[T]? = _ from hP1.box) hP1.nT; have u0 : w6.cell? ⟨T, 0, none⟩ = some (.int .i64 20) := (by rw [cell_of_block tb]; rfl); have u1 : w6.cell? ⟨T, 1, none⟩ = some (.int .i64 100000) := (by rw [cell_of_block tb]; rfl); have u2 : w6.cell? ⟨T, 2, none⟩ = some (.slice A n cp) := (by rw [cell_of_block tb]; rfl); have u3 : ∀ i, w6.frozen? ⟨T, i, none⟩ = false := frozen_of_block tb; clear t0 t1 t2 t3 tb hm6))
              all_goals
                obtain ⟨hP2x, hAx⟩ := two_step hP1.drew hP2.drew hA hP6 hM6 hg6 hgm6
                have hbn : Below w.heap.size w (((w6.setCell ⟨T, 0, none⟩ (.int .i64 20)).setCell ⟨T, 1, none⟩ (.int .i64 100000)).setCell ⟨T, 2, none⟩ (.slice A6 n6 cap6)) := (hbr.drew).trans (hM6.below hbr.size (TS_ge hP1.hT hP1.hB (fun G e => (hP1.gT G e).1)))
                obtain ⟨wx, hwx⟩ : ∃ wx, (((w6.setCell ⟨T, 0, none⟩ (.int .i64 20)).setCell ⟨T, 1, none⟩ (.int .i64 100000)).setCell ⟨T, 2, none⟩ (.slice A6 n6 cap6)) = wx := ⟨_, rfl⟩
                rw [hwx] at hP6 hP2x hbn ⊢
                clear u0 u1 u2 u3 hM6 hst6 c0 c1 c2 c3 c4 c5 c6 c7 hwx hg6 hgm6 hP1 hP2 hA
                obtain ⟨bz, offz, oz, rfl, ho, hblz, hou, c0, c1, c2, c3, c4, c5, c6, c7⟩ := (hl3.below (B := 0) hbn).get lt3
                obtain ⟨kd, k, c, f, m, s, oa, ou⟩ := oz
                simp only at hou c0 c1 c2 c3 c4 c5 c6 c7
                obtain ⟨t0, t1, t2, t3⟩ := hP2x.cells
                have hst7 := step_in hP2x.drew kd k c f m s oa ou hou
                clear ho
                go_wp2_with fail
                go_region_with (first | (go_at_call 17; refine hst7.mono ?_; rintro e w7 ⟨A7, n7, cap7, ws7, g7, gm7, rfl, hm7, hP7, hM7, hg7, hgm7⟩; have tb := mblock hm7 (show wx.drew.heap[T2]? = _ from hP2x.box) hP2x.nT; have u0 : w7.cell? ⟨T2, 0, none⟩ = some (.int .i64 20) := (by rw [cell_of_block tb]; rfl); have u1 : w7.cell? ⟨T2, 1, none⟩ = some (.int .i64 100000) := (by rw [cell_of_block tb]; rfl); have u2 : w7.cell? ⟨T2, 2, none⟩ = some (.slice A2 n2 cp2) := (by rw [cell_of_block tb]; rfl); have u3 : ∀ i, w7.frozen? ⟨T2, i, none⟩ = false := frozen_of_block tb; clear t0 t1 t2 t3 tb hm7))
                all_goals
                  obtain ⟨hP1x, hAy⟩ := two_step hP2x.drew hP6.drew hAx.symm hP7 hM7 hg7 hgm7
                  have hbn7 : Below w.heap.size w (((w7.setCell ⟨T2, 0, none⟩ (.int .i64 20)).setCell ⟨T2, 1, none⟩ (.int .i64 100000)).setCell ⟨T2, 2, none⟩ (.slice A7 n7 cap7)) := (hbn.drew).trans (hM7.below hbn.size (TS_ge hP2x.hT hP2x.hB (fun G e => (hP2x.gT G e).1)))
                  clear u0 u1 u2 u3 hM7 hst7 c0 c1 c2 c3 c4 c5 c6 c7
                  go_wp2
                  go_roundw
                  case rel => exact ⟨t + 1, _, _, _, _, _, _, _, _, _, _, _, _, by omega, by go_num, hP1x, hP7, hAy.symm, hbn7⟩
                  case measure => simp [intOf]; omega
            · have hno : ¬ t < l3.length := lt3
              clear hc2 hc3 hq2 hq3
              obtain ⟨b, off, o, rfl, ho, hbl, hou, c0, c1, c2, c3, c4, c5, c6, c7⟩ := (hl2.below (B := 0) hbr).get lt2
              obtain ⟨kd, k, c, f, m, s, oa, ou⟩ := o
              simp only at hou c0 c1 c2 c3 c4 c5 c6 c7
              obtain ⟨t0, t1, t2, t3⟩ := hP1.cells
              have hst6 := step_in hP1.drew kd k c f m s oa ou hou
              clear ho
              go_wp2_with fail
              go_region_with (first | (go_at_call 17; refine hst6.mono ?_; rintro e w6 ⟨A6, n6, cap6, ws6, g6, gm6, rfl, hm6, hP6, hM6, hg6, hgm6⟩; have tb := mblock hm6 (show wr.drew.heap[T]? = _ from hP1.box) hP1.nT; have u0 : w6.cell? ⟨T, 0, none⟩ = some (.int .i64 20) := (by rw [cell_of_block tb]; rfl); have u1 : w6.cell? ⟨T, 1, none⟩ = some (.int .i64 100000) := (by rw [cell_of_block tb]; rfl); have u2 : w6.cell? ⟨T, 2, none⟩ = some (.slice A n cp) := (by rw [cell_of_block tb]; rfl); have u3 : ∀ i, w6.frozen? ⟨T, i, none⟩ = false := frozen_of_block tb; clear t0 t1 t2 t3 tb hm6))
              all_goals
                obtain ⟨hQ, hAx⟩ := two_step hP1.drew hP2.drew hA hP6 hM6 hg6 hgm6
                have hbn : Below w.heap.size w (((w6.setCell ⟨T, 0, none⟩ (.int .i64 20)).setCell ⟨T, 1, none⟩ (.int .i64 100000)).setCell ⟨T, 2, none⟩ (.slice A6 n6 cap6)) := (hbr.drew).trans (hM6.below hbr.size (TS_ge hP1.hT hP1.hB (fun G e => (hP1.gT G e).1)))
                clear u0 u1 u2 u3 hM6 hst6 c0 c1 c2 c3 c4 c5 c6 c7
                go_wp2
                go_roundw
                case rel => exact ⟨t + 1, _, _, _, _, _, _, _, _, _, _, _, _, by omega, by go_num, hP6, hQ, hAx, hbn⟩
                case measure => simp [intOf]; omega
          · have hno : ¬ t < l2.length := lt2
            by_cases lt3 : t < l3.length
            · clear hc2 hc3 hq2 hq3
              obtain ⟨b, off, o, rfl, ho, hbl, hou, c0, c1, c2, c3, c4, c5, c6, c7⟩ := (hl3.below (B := 0) hbr).get lt3
              obtain ⟨kd, k, c, f, m, s, oa, ou⟩ := o
              simp only at hou c0 c1 c2 c3 c4 c5 c6 c7
              obtain ⟨t0, t1, t2, t3⟩ := hP2.cells
              have hst6 := step_in hP2.drew kd k c f m s oa ou hou
              clear ho
              go_wp2_with fail
              go_region_with (first | (go_at_call 17; refine hst6.mono ?_; rintro e w6 ⟨A6, n6, cap6, ws6, g6, gm6, rfl, hm6, hP6, hM6, hg6, hgm6⟩; have tb := mblock hm6 (show wr.drew.heap[T2]? = _ from hP2.box) hP2.nT; have u0 : w6.cell? ⟨T2, 0, none⟩ = some (.int .i64 20) := (by rw [cell_of_block tb]; rfl); have u1 : w6.cell? ⟨T2, 1, none⟩ = some (.int .i64 100000) := (by rw [cell_of_block tb]; rfl); have u2 : w6.cell? ⟨T2, 2, none⟩ = some (.slice A2 n2 cp2) := (by rw [cell_of_block tb]; rfl); have u3 : ∀ i, w6.frozen? ⟨T2, i, none⟩ = false := frozen_of_block tb; clear t0 t1 t2 t3 tb hm6))
              all_goals
                obtain ⟨hQ, hAx⟩ := two_step hP2.drew hP1.drew hA.symm hP6 hM6 hg6 hgm6
                have hbn : Below w.heap.size w (((w6.setCell ⟨T2, 0, none⟩ (.int .i64 20)).setCell ⟨T2, 1, none⟩ (.int .i64 100000)).setCell ⟨T2, 2, none⟩ (.slice A6 n6 cap6)) := (hbr.drew).trans (hM6.below hbr.size (TS_ge hP2.hT hP2.hB (fun G e => (hP2.gT G e).1)))
                clear u0 u1 u2 u3 hM6 hst6 c0 c1 c2 c3 c4 c5 c6 c7
                go_wp2
                go_roundw
                case rel => exact ⟨t + 1, _, _, _, _, _, _, _, _, _, _, _, _, by omega, by go_num, hQ, hP6, hAx.symm, hbn⟩
                case measure => simp [intOf]; omega
            · clear hl2 hl3
              have hs1 := same_any hP1.pair.sp hP1.pair.md hP1.pair.ok
              have hs2 := fun (W : World) (H : PairIn w.heap.size T2 B2 W A2 n2 cp2 20 100000 ws2 g2 gm2) => same_any H.pair.sp H.pair.md H.pair.ok
              obtain ⟨t0, t1, t2, t3⟩ := hP1.cells
              go_wp2_with fail
              refine hs1.mono ?_
              rintro e w8 ⟨rfl, hb8⟩
              have hP2 := hP2.below hb8
              obtain ⟨v0, v1, v2, v3⟩ := hP2.cells
              clear t0 t1 t2 t3 hs1
              go_wp2_with fail
              refine (hs2 _ hP2).mono ?_
              rintro e w9 ⟨rfl, hb9⟩
              go_wp2
              go_ret
              exact ⟨rfl, by (repeat (first | exact Below.refl _ _ | assumption | refine Below.drew ?_ | refine below_drewN ?_ _ | refine balloc ?_ _ | refine Below.setCell ?_ (by first | (simp; done) | (simp; omega) | omega) _ | refine bchain (by assumption) ?_))⟩
end Go.Proofs.Ytafailcjdkmdhaa
