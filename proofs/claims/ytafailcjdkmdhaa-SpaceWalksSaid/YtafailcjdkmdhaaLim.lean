/-
  The statement SpaceLimits: the walk.
-/
import Derived.Test.YtafailcjdkmdhaaSp6
import Derived.LoopTactic
import Derived.StillTailTactics
namespace Go.Proofs.Ytafailcjdkmdhaa
open Go.RowKit
set_option linter.unusedSimpArgs false
set_option linter.unusedVariables false

/-- An operation that came in. -/
structure Op6 where
  kd : Int
  k : Int
  c : Int
  f : Int
  m : Int
  s : Int
  a : Int
  u : Int
instance : Inhabited Op6 := ⟨⟨0, 0, 0, 0, 0, 0, 0, 0⟩⟩
/-- The operations that a slice holds: nothing where it is empty. -/
def Ops6 (w : World) (a : Option Addr) (l : List Op6) : Prop :=
  l = [] ∨ ∃ b off : Nat, a = some ⟨b, off, none⟩ ∧ b < w.heap.size ∧ ∀ i o, l[i]? = some o →
    w.cell? ⟨b, off + i * 8, none⟩ = some (.int .u8 o.kd) ∧ w.cell? ⟨b, off + i * 8 + 1, none⟩ = some (.int .i64 o.k) ∧ w.cell? ⟨b, off + i * 8 + 1 + 1, none⟩ = some (.int .i64 o.c) ∧ w.cell? ⟨b, off + i * 8 + 1 + 2, none⟩ = some (.int .i64 o.f) ∧
    w.cell? ⟨b, off + i * 8 + 4, none⟩ = some (.int .i64 o.m) ∧ w.cell? ⟨b, off + i * 8 + 4 + 1, none⟩ = some (.int .i64 o.s) ∧ w.cell? ⟨b, off + i * 8 + 6, none⟩ = some (.int .i64 o.a) ∧ w.cell? ⟨b, off + i * 8 + 7, none⟩ = some (.int .u64 o.u) ∧ U64 o.u
theorem Ops6.below {w w' : World} {a : Option Addr} {l : List Op6} {B : Nat} (h : Ops6 w a l) (hb : Below w.heap.size w w') : Ops6 w' a l := by
  rcases h with h | ⟨b, off, rfl, hb', h⟩
  · exact .inl h
  · refine .inr ⟨b, off, rfl, Nat.lt_of_lt_of_le hb' hb.size, fun i o hi => ?_⟩
    obtain ⟨h0, h1, h2, h3, h4, h5, h6, h7, h8⟩ := h i o hi
    exact ⟨bcellv hb h0, bcellv hb h1, bcellv hb h2, bcellv hb h3, bcellv hb h4, bcellv hb h5, bcellv hb h6, bcellv hb h7, h8⟩
theorem wide_any (a : Option Addr) (n c : Nat) (hn : n ≤ 9223372036854775807) (w : World) : Calls Try.prog 10 #[.slice a n c] w fun e w' => e = .returned (.bool (decide (30 < n))) ∧ Below w.heap.size w w' := by
  go_enter Try.func10, Try.ntmps10
  go_wp2
  go_ret
  exact ⟨ret_bool (by rw [Bool.eq_iff_iff]; simp; try omega), by (repeat (first | exact Below.refl _ _ | assumption | refine Below.drew ?_ | refine below_drewN ?_ _ | refine balloc ?_ _ | refine Below.setCell ?_ (by first | (simp; done) | (simp; omega) | omega) _ | refine bchain (by assumption) ?_))⟩

set_option maxRecDepth 100000 in
set_option maxHeartbeats 1000000 in
theorem limits_walk (a : Option Addr) (l : List Op6) (cap : Nat) (lm : Int) (hcap : l.length ≤ cap) (hc63 : cap ≤ 9223372036854775807) (w : World) (hl : Ops6 w a l) :
    Calls Try.prog 3 #[.slice a l.length cap, .int .i64 lm] w fun e w' => e = .returned (.bool true) ∧ Below w.heap.size w w' := by
  by_cases hw : 30 < l.length
  · have h1 := fun W => wide_any a l.length cap (by omega) W
    have hd : decide (30 < l.length) = true := by simpa using hw
    rw [hd] at h1
    clear hl hw hd
    generalize l.length = n at *
    go_enter Try.func3, Try.ntmps3
    go_wp2_with (first | (go_at_call 9; refine (awake6 _).mono ?_; rintro e wz ⟨rfl, hz⟩) | (go_at_call 10; refine (h1 _).mono ?_; rintro e wz ⟨rfl, hz⟩))
    go_ret
    exact ⟨rfl, by (repeat (first | exact Below.refl _ _ | assumption | refine Below.drew ?_ | refine below_drewN ?_ _ | refine balloc ?_ _ | refine Below.setCell ?_ (by first | (simp; done) | (simp; omega) | omega) _ | refine bchain (by assumption) ?_))⟩
  have h1 := fun W => wide_any a l.length cap (by omega) W
  have hn : l.length ≤ 30 := by omega
  have hd : decide (30 < l.length) = false := by simpa using hw
  rw [hd] at h1
  clear hw hd
  by_cases hlm : 2000 < lm
  · clear hl
    generalize l.length = n at *
    go_enter Try.func3, Try.ntmps3
    go_wp2_with (first | (go_at_call 9; refine (awake6 _).mono ?_; rintro e wz ⟨rfl, hz⟩) | (go_at_call 10; refine (h1 _).mono ?_; rintro e wz ⟨rfl, hz⟩))
    go_ret
    exact ⟨rfl, by (repeat (first | exact Below.refl _ _ | assumption | refine Below.drew ?_ | refine below_drewN ?_ _ | refine balloc ?_ _ | refine Below.setCell ?_ (by first | (simp; done) | (simp; omega) | omega) _ | refine bchain (by assumption) ?_))⟩
  have n1 := fun W => new_any 50 lm W
  rw [show max (50 : Int) 0 = 50 by decide] at n1
  obtain ⟨lm', hlm'⟩ : ∃ lm', lm' = newLm 50 lm := ⟨_, rfl⟩
  rw [← hlm'] at n1
  have y0 : 50 ≤ lm' ∧ lm ≤ lm' ∧ lm' ≤ 2000 ∧ (50 < lm → lm' = lm) ∧ (lm ≤ 50 → lm' = 50) := by rw [hlm']; unfold newLm; omega
  clear hlm'
  obtain ⟨y1, y2, y3, y4⟩ := y0
  have Y4 := Lib.hid y4
  clear y4
  go_enter Try.func3, Try.ntmps3
  go_wp2_with fail
  refine (awake6 _).mono ?_
  rintro e w1 ⟨rfl, hb1⟩
  go_wp2_with fail
  refine (h1 _).mono ?_
  rintro e w2 ⟨rfl, hb2⟩
  go_wp2_with fail
  refine (n1 _).mono ?_
  rintro e w3 ⟨rfl, hw3⟩
  have hs3 := sp_new w2 50 lm'
  rw [hw3] at hs3
  have hb3 : Below w2.heap.size w2 w3 := by rw [← hw3]; exact balloc (Below.refl _ _) _
  have hb : Below w.heap.size w w3 := by (repeat (first | exact Below.refl _ _ | assumption | refine Below.drew ?_ | refine below_drewN ?_ _ | refine balloc ?_ _ | refine Below.setCell ?_ (by first | (simp; done) | (simp; omega) | omega) _ | refine bchain (by assumption) ?_))
  have hB : w.heap.size ≤ w2.heap.size := by have := hb1.size; have := hb2.size; omega
  have hk3 : SpOk 50 lm' [] := ⟨by omega, by simpa using y1, by omega, by simp⟩
  clear hw3 n1 h1 hb3 hb2 hb1
  generalize w2.heap.size = B at *
  go_wp2_with fail
  go_loopw [6] (fun i wr => ∃ (t : Nat) (ws : List Int) (g : Option Nat), t ≤ l.length ∧ i = .int .i64 t ∧ SpAt wr B 50 lm' ws g ∧ SpOk 50 lm' ws ∧ (∀ G, g = some G → w.heap.size ≤ G) ∧ Below w.heap.size w wr) (fun i _ => l.length - (intOf i).toNat)
  case atStart => exact ⟨0, [], none, Nat.zero_le _, rfl, hs3, hk3, none_ge, hb⟩
  case round =>
    obtain ⟨t, ws, g, ht, rfl, hs, hk, hg, hbr⟩ := hrel
    clear hs3 hb hk3
    by_cases hlt : t < l.length
    · have hl' := hl.below (B := 0) hbr
      obtain ⟨o, ho⟩ : ∃ o, l[t]? = some o := ⟨_, List.getElem?_eq_getElem hlt⟩
      have hl0 := hl
      rcases hl' with h0 | ⟨b, off, rfl, _, hc⟩
      · simp [h0] at hlt
      have hbw : b < w.heap.size := by
        rcases hl0 with h0 | ⟨b', off', e', hb', _⟩
        · simp [h0] at hlt
        · cases e'; exact hb'
      clear hl0
      obtain ⟨_, c1, c2, c3, c4, c5, _, _, _⟩ := hc t o ho
      clear hc ho hl
      obtain ⟨kd, k, c, f, m, s, oa, ou⟩ := o
      simp only at c1 c2 c3 c4 c5
      have ht1 := fun (W : World) (H : SpAt W B 50 lm' ws g) => top_any H hk
      have hv1 := fun W => validID_any m s W
      cases h : hvB k c f
      · have hw1 := fun W => rwords_no k c f h W
        have ha1 := fun W => alloc_badH B k c f m s h W
        clear h
        go_wp2_with fail
        refine (hw1 _).mono ?_
        rintro e v1 ⟨rfl, hb1⟩
        have hs1 := hs.below hb1
        have c1 := bcellv hb1 c1
        have c2 := bcellv hb1 c2
        have c3 := bcellv hb1 c3
        have c4 := bcellv hb1 c4
        have c5 := bcellv hb1 c5
        go_wp2_with fail
        refine (ht1 _ hs1).mono ?_
        rintro e v2 ⟨rfl, hb2⟩
        have hs2 := hs1.below hb2
        have c1 := bcellv hb2 c1
        have c2 := bcellv hb2 c2
        have c3 := bcellv hb2 c3
        have c4 := bcellv hb2 c4
        have c5 := bcellv hb2 c5
        have hs3 : SpAt v2.drew B 50 lm' ws g := hs2
        go_wp2_with fail
        go_region_held3 (fun w' => w'.cell? ⟨b, off + t * 8 + 1, none⟩ = some (.int .i64 k) ∧ w'.cell? ⟨b, off + t * 8 + 1 + 1, none⟩ = some (.int .i64 c) ∧ w'.cell? ⟨b, off + t * 8 + 1 + 2, none⟩ = some (.int .i64 f) ∧ w'.cell? ⟨b, off + t * 8 + 4, none⟩ = some (.int .i64 m) ∧ w'.cell? ⟨b, off + t * 8 + 4 + 1, none⟩ = some (.int .i64 s)) (exact ⟨c1, c2, c3, c4, c5⟩) (first | (go_at_call 15; refine (ha1 _).mono ?_; rintro e v3 ⟨rfl, hb3⟩; have hs4 := hs3.below hb3; have c1 := bcellv hb3 (show v2.drew.cell? _ = _ from c1); have c2 := bcellv hb3 (show v2.drew.cell? _ = _ from c2); have c3 := bcellv hb3 (show v2.drew.cell? _ = _ from c3); have c4 := bcellv hb3 (show v2.drew.cell? _ = _ from c4); have c5 := bcellv hb3 (show v2.drew.cell? _ = _ from c5)))
        clear c1 c2 c3 c4 c5
        go_wp2_with fail
        refine (ht1 _ hs4).mono ?_
        rintro e v4 ⟨rfl, hb5⟩
        have hs5 := hs4.below hb5
        clear hs hs1 hs2 hs3 hs4
        go_wp2
        go_roundw
        case rel => exact ⟨t + 1, ws, g, by omega, by go_num, hs5, hk, hg, by (repeat (first | exact Below.refl _ _ | assumption | refine Below.drew ?_ | refine below_drewN ?_ _ | refine balloc ?_ _ | refine Below.setCell ?_ (by first | (simp; done) | (simp; omega) | omega) _ | refine bchain (by assumption) ?_))⟩
        case measure => simp [intOf]; omega
      cases hi : idB m s
      · have hw1 := fun W => rwords_yes k c f h W
        have ha1 := fun W => alloc_badI B k c f m s h hi W
        rw [hi] at hv1
        obtain ⟨y5, y6, y7⟩ := wordsI_bd h
        generalize wordsI f = y at *
        clear h hi
        go_wp2_with fail
        refine (hw1 _).mono ?_
        rintro e v1 ⟨rfl, hb1⟩
        have hs1 := hs.below hb1
        have c1 := bcellv hb1 c1
        have c2 := bcellv hb1 c2
        have c3 := bcellv hb1 c3
        have c4 := bcellv hb1 c4
        have c5 := bcellv hb1 c5
        go_wp2_with fail
        refine (hv1 _).mono ?_
        rintro e v1' ⟨rfl, hb1'⟩
        have hs1 := hs1.below hb1'
        have c1 := bcellv hb1' c1
        have c2 := bcellv hb1' c2
        have c3 := bcellv hb1' c3
        have c4 := bcellv hb1' c4
        have c5 := bcellv hb1' c5
        go_wp2_with fail
        refine (ht1 _ hs1).mono ?_
        rintro e v2 ⟨rfl, hb2⟩
        have hs2 := hs1.below hb2
        have c1 := bcellv hb2 c1
        have c2 := bcellv hb2 c2
        have c3 := bcellv hb2 c3
        have c4 := bcellv hb2 c4
        have c5 := bcellv hb2 c5
        have hs3 : SpAt v2.drew B 50 lm' ws g := hs2
        go_wp2_with fail
        go_region_held3 (fun w' => w'.cell? ⟨b, off + t * 8 + 1, none⟩ = some (.int .i64 k) ∧ w'.cell? ⟨b, off + t * 8 + 1 + 1, none⟩ = some (.int .i64 c) ∧ w'.cell? ⟨b, off + t * 8 + 1 + 2, none⟩ = some (.int .i64 f) ∧ w'.cell? ⟨b, off + t * 8 + 4, none⟩ = some (.int .i64 m) ∧ w'.cell? ⟨b, off + t * 8 + 4 + 1, none⟩ = some (.int .i64 s)) (exact ⟨c1, c2, c3, c4, c5⟩) (first | (go_at_call 15; refine (ha1 _).mono ?_; rintro e v3 ⟨rfl, hb3⟩; have hs4 := hs3.below hb3; have c1 := bcellv hb3 (show v2.drew.cell? _ = _ from c1); have c2 := bcellv hb3 (show v2.drew.cell? _ = _ from c2); have c3 := bcellv hb3 (show v2.drew.cell? _ = _ from c3); have c4 := bcellv hb3 (show v2.drew.cell? _ = _ from c4); have c5 := bcellv hb3 (show v2.drew.cell? _ = _ from c5)))
        clear c1 c2 c3 c4 c5
        go_wp2_with fail
        refine (ht1 _ hs4).mono ?_
        rintro e v4 ⟨rfl, hb5⟩
        have hs5 := hs4.below hb5
        clear hs hs1 hs2 hs3 hs4
        go_wp2
        go_roundw
        case rel => exact ⟨t + 1, ws, g, by omega, by go_num, hs5, hk, hg, by (repeat (first | exact Below.refl _ _ | assumption | refine Below.drew ?_ | refine below_drewN ?_ _ | refine balloc ?_ _ | refine Below.setCell ?_ (by first | (simp; done) | (simp; omega) | omega) _ | refine bchain (by assumption) ?_))⟩
        case measure => simp [intOf]; omega
      by_cases hfit : lm' < 50 + (ws.length : Int) + wordsI f
      · have hw1 := fun W => rwords_yes k c f h W
        rw [hi] at hv1
        obtain ⟨y5, y6, y7⟩ := wordsI_bd h
        have ha1 := fun (W : World) (H : SpAt W B 50 lm' ws g) => alloc_full H hk k c f m s h hi hfit
        have hb0 := hk.top
        have hov : lm < 50 + (ws.length : Int) + wordsI f := by omega
        generalize wordsI f = y at *
        clear h hi
        go_wp2_with fail
        refine (hw1 _).mono ?_
        rintro e v1 ⟨rfl, hb1⟩
        have hs1 := hs.below hb1
        have c1 := bcellv hb1 c1
        have c2 := bcellv hb1 c2
        have c3 := bcellv hb1 c3
        have c4 := bcellv hb1 c4
        have c5 := bcellv hb1 c5
        go_wp2_with fail
        refine (hv1 _).mono ?_
        rintro e v1' ⟨rfl, hb1'⟩
        have hs1 := hs1.below hb1'
        have c1 := bcellv hb1' c1
        have c2 := bcellv hb1' c2
        have c3 := bcellv hb1' c3
        have c4 := bcellv hb1' c4
        have c5 := bcellv hb1' c5
        go_wp2_with fail
        refine (ht1 _ hs1).mono ?_
        rintro e v2 ⟨rfl, hb2⟩
        have hs2 := hs1.below hb2
        have c1 := bcellv hb2 c1
        have c2 := bcellv hb2 c2
        have c3 := bcellv hb2 c3
        have c4 := bcellv hb2 c4
        have c5 := bcellv hb2 c5
        have hs3 : SpAt v2.drew B 50 lm' ws g := hs2
        go_wp2_with fail
        go_region_held3 (fun w' => w'.cell? ⟨b, off + t * 8 + 1, none⟩ = some (.int .i64 k) ∧ w'.cell? ⟨b, off + t * 8 + 1 + 1, none⟩ = some (.int .i64 c) ∧ w'.cell? ⟨b, off + t * 8 + 1 + 2, none⟩ = some (.int .i64 f) ∧ w'.cell? ⟨b, off + t * 8 + 4, none⟩ = some (.int .i64 m) ∧ w'.cell? ⟨b, off + t * 8 + 4 + 1, none⟩ = some (.int .i64 s)) (exact ⟨c1, c2, c3, c4, c5⟩) (first | (go_at_call 15; refine (ha1 _ hs3).mono ?_; rintro e v3 ⟨rfl, hb3⟩; have hs4 := hs3.below hb3; have c1 := bcellv hb3 (show v2.drew.cell? _ = _ from c1); have c2 := bcellv hb3 (show v2.drew.cell? _ = _ from c2); have c3 := bcellv hb3 (show v2.drew.cell? _ = _ from c3); have c4 := bcellv hb3 (show v2.drew.cell? _ = _ from c4); have c5 := bcellv hb3 (show v2.drew.cell? _ = _ from c5)))
        clear c1 c2 c3 c4 c5
        go_wp2_with fail
        refine (ht1 _ hs4).mono ?_
        rintro e v4 ⟨rfl, hb5⟩
        have hs5 := hs4.below hb5
        clear hs hs1 hs2 hs3 hs4
        go_wp2
        go_roundw
        case rel => exact ⟨t + 1, ws, g, by omega, by go_num, hs5, hk, hg, by (repeat (first | exact Below.refl _ _ | assumption | refine Below.drew ?_ | refine below_drewN ?_ _ | refine balloc ?_ _ | refine Below.setCell ?_ (by first | (simp; done) | (simp; omega) | omega) _ | refine bchain (by assumption) ?_))⟩
        case measure => simp [intOf]; omega
      · have hw1 := fun W => rwords_yes k c f h W
        rw [hi] at hv1
        obtain ⟨y5, y6, y7⟩ := wordsI_bd h
        have ha1 := fun (W : World) (H : SpAt W B 50 lm' ws g) => alloc_ok H hk k c f m s h hi (by omega)
        have hk' := hk.grow h hi (show 50 + (ws.length : Int) + wordsI f ≤ lm' by omega)
        have hnl := newObj_len (m := m) (s := s) h
        have hb0 := hk.top
        have hbS : ¬ SpS B g b := not_sps (by omega) (fun G h => by have := hg G h; omega)
        have hov : 50 + (ws.length : Int) + wordsI f ≤ lm := by
          by_cases h50 : 50 < lm
          · have := Y4.out.1 h50; omega
          · have := Y4.out.2 (by omega); omega
        generalize wordsI f = y at *
        clear h hi hfit
        go_wp2_with fail
        refine (hw1 _).mono ?_
        rintro e v1 ⟨rfl, hb1⟩
        have hs1 := hs.below hb1
        have c1 := bcellv hb1 c1
        have c2 := bcellv hb1 c2
        have c3 := bcellv hb1 c3
        have c4 := bcellv hb1 c4
        have c5 := bcellv hb1 c5
        go_wp2_with fail
        refine (hv1 _).mono ?_
        rintro e v1' ⟨rfl, hb1'⟩
        have hs1 := hs1.below hb1'
        have c1 := bcellv hb1' c1
        have c2 := bcellv hb1' c2
        have c3 := bcellv hb1' c3
        have c4 := bcellv hb1' c4
        have c5 := bcellv hb1' c5
        go_wp2_with fail
        refine (ht1 _ hs1).mono ?_
        rintro e v2 ⟨rfl, hb2⟩
        have hs2 := hs1.below hb2
        have c1 := bcellv hb2 c1
        have c2 := bcellv hb2 c2
        have c3 := bcellv hb2 c3
        have c4 := bcellv hb2 c4
        have c5 := bcellv hb2 c5
        have hs3 : SpAt v2.drew B 50 lm' ws g := hs2
        go_wp2_with fail
        go_region_held3 (fun w' => w'.cell? ⟨b, off + t * 8 + 1, none⟩ = some (.int .i64 k) ∧ w'.cell? ⟨b, off + t * 8 + 1 + 1, none⟩ = some (.int .i64 c) ∧ w'.cell? ⟨b, off + t * 8 + 1 + 2, none⟩ = some (.int .i64 f) ∧ w'.cell? ⟨b, off + t * 8 + 4, none⟩ = some (.int .i64 m) ∧ w'.cell? ⟨b, off + t * 8 + 4 + 1, none⟩ = some (.int .i64 s)) (exact ⟨c1, c2, c3, c4, c5⟩) (first | (go_at_call 15; refine (ha1 _ hs3).mono ?_; rintro e v3 ⟨rfl, g', hs4, hm4, hg4⟩; have hbv : Below w.heap.size w v2.drew := (by (repeat (first | exact Below.refl _ _ | assumption | refine Below.drew ?_ | refine below_drewN ?_ _ | refine balloc ?_ _ | refine Below.setCell ?_ (by first | (simp; done) | (simp; omega) | omega) _ | refine bchain (by assumption) ?_))); have hb4 : Below w.heap.size w v3 := hbv.trans (hm4.below hbv.size (sps_ge hB hg)); have hG : ∀ G, g' = some G → w.heap.size ≤ G := later hg4 hg hbv.size; have hnb : ¬ SpS B g b := hbS; have c1 := mcell hm4 (show v2.drew.cell? _ = _ from c1) hnb; have c2 := mcell hm4 (show v2.drew.cell? _ = _ from c2) hnb; have c3 := mcell hm4 (show v2.drew.cell? _ = _ from c3) hnb; have c4 := mcell hm4 (show v2.drew.cell? _ = _ from c4) hnb; have c5 := mcell hm4 (show v2.drew.cell? _ = _ from c5) hnb))
        have ht2 := top_any hs4 hk'
        rw [List.length_append, Int.natCast_add, hnl, ← Int.add_assoc] at ht2
        clear hnl
        clear c1 c2 c3 c4 c5
        go_wp2_with fail
        refine ht2.mono ?_
        rintro e v4 ⟨rfl, hb5⟩
        have hs5 := hs4.below hb5
        clear hs hs1 hs2 hs3 hs4
        go_wp2
        go_roundw
        case rel => exact ⟨t + 1, ws ++ newObj k c f m s, g', by omega, by go_num, hs5, hk', hG, by (repeat (first | exact Below.refl _ _ | assumption | refine Below.drew ?_ | refine below_drewN ?_ _ | refine balloc ?_ _ | refine Below.setCell ?_ (by first | (simp; done) | (simp; omega) | omega) _ | refine bchain (by assumption) ?_))⟩
        case measure => simp [intOf]; omega
    · go_wp2
      go_ret
      exact ⟨rfl, by (repeat (first | exact Below.refl _ _ | assumption | refine Below.drew ?_ | refine below_drewN ?_ _ | refine balloc ?_ _ | refine Below.setCell ?_ (by first | (simp; done) | (simp; omega) | omega) _ | refine bchain (by assumption) ?_))⟩
end Go.Proofs.Ytafailcjdkmdhaa
