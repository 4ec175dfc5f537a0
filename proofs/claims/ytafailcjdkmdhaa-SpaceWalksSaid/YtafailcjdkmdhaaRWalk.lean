/-
  refmeshref06.Walk: the same places as the space's own walk.
-/
import Derived.Test.YtafailcjdkmdhaaRef6
import Derived.BigQuiet
import Derived.Maps.AppendAt
import Derived.RangeFuncBox
namespace Go.Proofs.Ytafailcjdkmdhaa
open Go.RowKit
set_option linter.unusedSimpArgs false
set_option linter.unusedVariables false

theorem szB_false {ws : List Int} {i : Nat} (h : ¬ (i + 2 ≤ ws.length ∧ decB (ws.getD i 0) = true ∧ didB (ws.getD (i + 1) 0) = true ∧ i + (wordsI (decF (ws.getD i 0))).toNat ≤ ws.length)) : szB ws i = false := by
  rw [Bool.eq_false_iff]
  exact fun hh => h (szB_iff.1 hh)
theorem two_ret {v v' : Value} {x y : Int} (h : v = v') (g : x = y) : Ending.returned (.tuple #[v, .int .i64 x]) = .returned (.tuple #[v', .int .i64 y]) := by rw [h, g]

theorem row_below {A B : World} {N : Nat} {e : TypeId} {sz : Nat} {v : Value} {n : Nat} {xs : List Value} (h : A.ownsRow N e sz v n xs) (hb : Below A.heap.size A B) : B.ownsRow N e sz v n xs := by
  refine h.kept (grown_of hb) ?_
  cases hvb : v.ownBlock with
  | none => exact .inl rfl
  | some x => exact .inr (by simp)
theorem row_base {A : World} {N B : Nat} {e : TypeId} {sz : Nat} {v : Value} {n : Nat} {xs : List Value} (h : A.ownsRow N e sz v n xs) (hB : B ≤ N) : A.ownsRow B e sz v n xs := by
  obtain ⟨h1, h2⟩ := h
  refine ⟨h1, ?_⟩
  rcases h2 with h2 | ⟨g, c, cur, hv, hg, h3⟩
  · exact .inl h2
  · exact .inr ⟨g, c, cur, hv, Nat.le_trans hB hg, h3⟩
set_option maxRecDepth 100000 in
set_option maxHeartbeats 2000000 in
theorem rwalk_any {w : World} {v : Value} {bs lm : Int} {ws : List Int} {g : Option Nat} (h : MdAt w v bs lm ws g) (hk : SpOk bs lm ws) :
    Calls Try.prog 36 #[v] w fun e w' => ∃ v', e = .returned (.tuple #[v', .int .i64 (bs + (stopAt ws 0 : Nat))]) ∧ w'.ownsRow w.heap.size 3 1 v' (objA bs ws).length ((objA bs ws).map (Value.int .i64)) ∧ Below w.heap.size w w' := by
  obtain ⟨i0, hi, hz0, hz1, hz2⟩ := info_parts int_info
  obtain ⟨a, cap, rfl, hr⟩ := h
  have b0 := hk.b0
  have b1 := hk.top
  have b2 := hk.lm1
  have hml : maxLen = 9223372036854775807 := rfl
  have hr0 := hr
  obtain ⟨n, hn⟩ : ∃ n, ws.length = n := ⟨_, rfl⟩
  rw [hn] at b1 ⊢
  have cp := hr.1
  rw [hn] at cp
  go_enter Try.func36, Try.ntmps36
  go_wp2_with fail
  go_loopw [4, 5] (fun p q wr => ∃ (i : Nat) (pre : List Nat), q = .int .i64 i ∧ i ≤ n ∧ pre.length ≤ i ∧ objs ws 0 = pre ++ objs ws i ∧ stopAt ws 0 = stopAt ws i ∧ wr.ownsRow (w.heap.size + 1) 3 1 p pre.length ((pre.map (fun j : Nat => bs + (j : Int))).map (Value.int .i64)) ∧ (∃ g' cap', p = .slice (some ⟨g', 0, none⟩) pre.length cap') ∧
      wr.cell? ⟨w.heap.size, 0, none⟩ = some (.int .i64 bs) ∧ wr.cell? ⟨w.heap.size, 2, none⟩ = some (.slice a n cap) ∧ Below w.heap.size w wr) (fun p q wr => n - natOf q)
  case atStart =>
    refine ⟨0, [], rfl, Nat.zero_le _, Nat.le_refl _, rfl, rfl, ?_, ⟨_, _, rfl⟩, by simp [go_sem], by simp [go_sem], by (repeat (first | exact Below.refl _ _ | assumption | refine Below.drew ?_ | refine below_drewN ?_ _ | refine balloc ?_ _ | refine Below.setCell ?_ (by first | (simp; done) | (simp; omega) | omega) _ | refine bchain (by assumption) ?_))⟩
    have := World.ownsRow_made (w.alloc (.cells #[.int .i64 bs, .int .i64 lm,   .slice a n cap] 43)) (base := w.heap.size + 1) (e := 3) (size := 1) #[] 0 (by simp) (Nat.zero_le _) rfl
    rw [World.size_alloc] at this
    exact this
  case round =>
    obtain ⟨i, pre, rfl, hin, hpi, hob, hst, hown, ⟨g', cap', rfl⟩, k0, k2, hbr⟩ := hrel
    have hrr : RowAt wr a cap ws g := hr0.keep (fun _ _ _ ho => (hbr.block _ (Array.getElem?_eq_some_iff.1 ho).1).trans ho)
    have hg' := (hown.lt g' rfl).1
    by_cases h0 : i + 1 < n
    · obtain ⟨G, rfl, rfl, q, _⟩ := hrr.word (i := i) (by omega)
      obtain ⟨G', e', e'', r, _⟩ := hrr.word (i := i + 1) (by omega)
      cases e'
      clear e''
      have hx := getD_u64 hk.u64 i
      have hy := getD_u64 hk.u64 (i + 1)
      have hzf := @szB_false ws i
      have hzt : (i + 2 ≤ ws.length ∧ decB (ws.getD i 0) = true ∧ didB (ws.getD (i + 1) 0) = true ∧ i + (wordsI (decF (ws.getD i 0))).toNat ≤ ws.length) → szB ws i = true := szB_iff.2
      have hzn := @szN_yes ws i
      generalize hxx : ws.getD i 0 = x at *
      generalize hyy : ws.getD (i + 1) 0 = y at *
      clear hxx hyy
      have s1 : ((i : Int)).toNat = i := by omega
      have s2 : IntKind.i64.wrap ((i : Int) + 1) = ((i + 1 : Nat) : Int) := by rw [show ((i + 1 : Nat) : Int) = (i : Int) + 1 by omega]; exact IntWalk.i64_in _ (by omega)
      have s2a : (((i + 1 : Nat) : Int)).toNat = i + 1 := by omega
      have s2b : (((i + 1 : Nat) : Int)) < (n : Int) := by omega
      have s2c : (0 : Int) ≤ (((i + 1 : Nat) : Int)) := by omega
      cases hd : decB x
      · have hz : szB ws i = false := hzf (fun hh => by rw [hd] at hh; exact absurd hh.2.1 (by simp))
        have d1 := fun W => rdecode_no x hx hd W
        have d2 := fun W => rwords_no 0 0 0 (by decide) W
        clear hzf hzt hzn hx hy hd
        go_wp2_with fail
        refine (d1 _).mono ?_
        rintro e w1 ⟨rfl, hb1⟩
        clear d1
        have k0 : w1.cell? ⟨w.heap.size, 0, none⟩ = some (.int .i64 bs) := bcellv hb1 (by first | assumption | exact bcellv (balloc (Below.refl _ _) _) k0)
        have k2 : w1.cell? ⟨w.heap.size, 2, none⟩ = some (.slice (some ⟨G, 0, none⟩) n cap) := bcellv hb1 (by first | assumption | exact bcellv (balloc (Below.refl _ _) _) k2)
        have q : w1.cell? ⟨G, i, none⟩ = some (.int .u64 x) := bcellv hb1 (by first | assumption | exact bcellv (balloc (Below.refl _ _) _) q)
        have r : w1.cell? ⟨G, i + 1, none⟩ = some (.int .u64 y) := bcellv hb1 (by first | assumption | exact bcellv (balloc (Below.refl _ _) _) r)
        have hown := row_below hown hb1
        have p0 : (w1.alloc (.cells #[.int .i64 0, .int .i64 0, .int .i64 0] 29)).cell? ⟨w1.heap.size, 0, none⟩ = some (.int .i64 0) := by simp
        have p1 : (w1.alloc (.cells #[.int .i64 0, .int .i64 0, .int .i64 0] 29)).cell? ⟨w1.heap.size, 1, none⟩ = some (.int .i64 0) := by simp
        have p2 : (w1.alloc (.cells #[.int .i64 0, .int .i64 0, .int .i64 0] 29)).cell? ⟨w1.heap.size, 2, none⟩ = some (.int .i64 0) := by simp
        go_wp2_with fail
        refine (d2 _).mono ?_
        rintro e w2 ⟨rfl, hb2⟩
        clear d2
        have k0 : w2.cell? ⟨w.heap.size, 0, none⟩ = some (.int .i64 bs) := bcellv hb2 (by first | assumption | exact bcellv (balloc (Below.refl _ _) _) k0)
        have k2 : w2.cell? ⟨w.heap.size, 2, none⟩ = some (.slice (some ⟨G, 0, none⟩) n cap) := bcellv hb2 (by first | assumption | exact bcellv (balloc (Below.refl _ _) _) k2)
        have q : w2.cell? ⟨G, i, none⟩ = some (.int .u64 x) := bcellv hb2 (by first | assumption | exact bcellv (balloc (Below.refl _ _) _) q)
        have r : w2.cell? ⟨G, i + 1, none⟩ = some (.int .u64 y) := bcellv hb2 (by first | assumption | exact bcellv (balloc (Below.refl _ _) _) r)
        have hown := row_below (hown.alloc _) hb2
        clear s1 s2 s2a s2b s2c
        rw [objs_no hz] at hob
        rw [stopAt_no hz] at hst
        have s7 : IntKind.i64.wrap (bs + (i : Int)) = bs + (i : Int) := IntWalk.i64_in _ (by omega)
        go_wp2_with fail
        go_quiet (fail)
        clear s7
        go_wp2
        go_ret2
        rw [hst]
        refine ⟨_, rfl, ?_, by (repeat (first | exact Below.refl _ _ | assumption | refine Below.drew ?_ | refine below_drewN ?_ _ | refine balloc ?_ _ | refine Below.setCell ?_ (by first | (simp; done) | (simp; omega) | omega) _ | refine bchain (by assumption) ?_))⟩
        rw [objA, hob]
        have hfin := row_base (B := w.heap.size) (row_below hown (show Below w2.heap.size w2 (w2.drewN nq) from below_drewN (Below.refl _ _) _)) (by omega)
        simpa using hfin
      · cases hdd : didB y
        · have hz : szB ws i = false := hzf (fun hh => by rw [hdd] at hh; exact absurd hh.2.2.1 (by simp))
          have d1 := fun W => rdecode_yes x hx hd W
          have d2 := fun W => rwords_yes _ _ _ (decB_iff.1 hd).1 W
          have d3 := fun W => rdecodeID_no y hy hdd W
          obtain ⟨y0, y1, y2⟩ := wordsI_bd (decB_iff.1 hd).1
          generalize decK x = kk at *
          generalize decC x = cc at *
          generalize decF x = ff at *
          generalize wordsI ff = m at *
          clear hzf hzt hzn hx hy hd hdd
          go_wp2_with fail
          refine (d1 _).mono ?_
          rintro e w1 ⟨rfl, hb1⟩
          clear d1
          have k0 : w1.cell? ⟨w.heap.size, 0, none⟩ = some (.int .i64 bs) := bcellv hb1 (by first | assumption | exact bcellv (balloc (Below.refl _ _) _) k0)
          have k2 : w1.cell? ⟨w.heap.size, 2, none⟩ = some (.slice (some ⟨G, 0, none⟩) n cap) := bcellv hb1 (by first | assumption | exact bcellv (balloc (Below.refl _ _) _) k2)
          have q : w1.cell? ⟨G, i, none⟩ = some (.int .u64 x) := bcellv hb1 (by first | assumption | exact bcellv (balloc (Below.refl _ _) _) q)
          have r : w1.cell? ⟨G, i + 1, none⟩ = some (.int .u64 y) := bcellv hb1 (by first | assumption | exact bcellv (balloc (Below.refl _ _) _) r)
          have hown := row_below hown hb1
          have p0 : (w1.alloc (.cells #[.int .i64 kk, .int .i64 cc, .int .i64 ff] 29)).cell? ⟨w1.heap.size, 0, none⟩ = some (.int .i64 kk) := by simp
          have p1 : (w1.alloc (.cells #[.int .i64 kk, .int .i64 cc, .int .i64 ff] 29)).cell? ⟨w1.heap.size, 1, none⟩ = some (.int .i64 cc) := by simp
          have p2 : (w1.alloc (.cells #[.int .i64 kk, .int .i64 cc, .int .i64 ff] 29)).cell? ⟨w1.heap.size, 2, none⟩ = some (.int .i64 ff) := by simp
          go_wp2_with fail
          refine (d2 _).mono ?_
          rintro e w2 ⟨rfl, hb2⟩
          clear d2
          have k0 : w2.cell? ⟨w.heap.size, 0, none⟩ = some (.int .i64 bs) := bcellv hb2 (by first | assumption | exact bcellv (balloc (Below.refl _ _) _) k0)
          have k2 : w2.cell? ⟨w.heap.size, 2, none⟩ = some (.slice (some ⟨G, 0, none⟩) n cap) := bcellv hb2 (by first | assumption | exact bcellv (balloc (Below.refl _ _) _) k2)
          have q : w2.cell? ⟨G, i, none⟩ = some (.int .u64 x) := bcellv hb2 (by first | assumption | exact bcellv (balloc (Below.refl _ _) _) q)
          have r : w2.cell? ⟨G, i + 1, none⟩ = some (.int .u64 y) := bcellv hb2 (by first | assumption | exact bcellv (balloc (Below.refl _ _) _) r)
          have hown := row_below (hown.alloc _) hb2
          go_wp2_with fail
          refine (d3 _).mono ?_
          rintro e w3 ⟨rfl, hb3⟩
          clear d3
          have k0 : w3.cell? ⟨w.heap.size, 0, none⟩ = some (.int .i64 bs) := bcellv hb3 (by first | assumption | exact bcellv (balloc (Below.refl _ _) _) k0)
          have k2 : w3.cell? ⟨w.heap.size, 2, none⟩ = some (.slice (some ⟨G, 0, none⟩) n cap) := bcellv hb3 (by first | assumption | exact bcellv (balloc (Below.refl _ _) _) k2)
          have q : w3.cell? ⟨G, i, none⟩ = some (.int .u64 x) := bcellv hb3 (by first | assumption | exact bcellv (balloc (Below.refl _ _) _) q)
          have r : w3.cell? ⟨G, i + 1, none⟩ = some (.int .u64 y) := bcellv hb3 (by first | assumption | exact bcellv (balloc (Below.refl _ _) _) r)
          have hown := row_below hown hb3
          clear s1 s2 s2a s2b s2c
          rw [objs_no hz] at hob
          rw [stopAt_no hz] at hst
          have s7 : IntKind.i64.wrap (bs + (i : Int)) = bs + (i : Int) := IntWalk.i64_in _ (by omega)
          go_wp2_with fail
          go_quiet (fail)
          clear s7
          go_wp2
          go_ret2
          rw [hst]
          refine ⟨_, rfl, ?_, by (repeat (first | exact Below.refl _ _ | assumption | refine Below.drew ?_ | refine below_drewN ?_ _ | refine balloc ?_ _ | refine Below.setCell ?_ (by first | (simp; done) | (simp; omega) | omega) _ | refine bchain (by assumption) ?_))⟩
          rw [objA, hob]
          have hfin := row_base (B := w.heap.size) (row_below hown (show Below w3.heap.size w3 (w3.drewN nq) from below_drewN (Below.refl _ _) _)) (by omega)
          simpa using hfin
        · obtain ⟨y0, y1, y2⟩ := wordsI_bd (decB_iff.1 hd).1
          have d1 := fun W => rdecode_yes x hx hd W
          have d2 := fun W => rwords_yes _ _ _ (decB_iff.1 hd).1 W
          have d3 := fun W => rdecodeID_yes y hy hdd W
          have d5 := idB_iff.1 (show idB (didM y) (didS y) = true from hdd)
          by_cases hfit : (i : Int) + wordsI (decF x) ≤ n
          · have hz : szB ws i = true := hzt ⟨by omega, hd, hdd, by omega⟩
            have hzn' := hzn hz
            clear hzf hzt hzn hx hy hd hdd
            generalize didM y = ym at *
            generalize didS y = ys at *
            generalize decK x = kk at *
            generalize decC x = cc at *
            generalize decF x = ff at *
            generalize wordsI ff = m at *
            rw [objs_yes hz, hzn'] at hob
            rw [stopAt_yes hz, hzn'] at hst
            have s5 : IntKind.i64.wrap ((i : Int) + m) = (i : Int) + m := IntWalk.i64_in _ (by omega)
            have s6 : IntKind.i64.wrap (bs + (i : Int)) = bs + (i : Int) := IntWalk.i64_in _ (by omega)
            go_wp2_with fail
            refine (d1 _).mono ?_
            rintro e w1 ⟨rfl, hb1⟩
            clear d1
            have k0 : w1.cell? ⟨w.heap.size, 0, none⟩ = some (.int .i64 bs) := bcellv hb1 (by first | assumption | exact bcellv (balloc (Below.refl _ _) _) k0)
            have k2 : w1.cell? ⟨w.heap.size, 2, none⟩ = some (.slice (some ⟨G, 0, none⟩) n cap) := bcellv hb1 (by first | assumption | exact bcellv (balloc (Below.refl _ _) _) k2)
            have q : w1.cell? ⟨G, i, none⟩ = some (.int .u64 x) := bcellv hb1 (by first | assumption | exact bcellv (balloc (Below.refl _ _) _) q)
            have r : w1.cell? ⟨G, i + 1, none⟩ = some (.int .u64 y) := bcellv hb1 (by first | assumption | exact bcellv (balloc (Below.refl _ _) _) r)
            have hown := row_below hown hb1
            have p0 : (w1.alloc (.cells #[.int .i64 kk, .int .i64 cc, .int .i64 ff] 29)).cell? ⟨w1.heap.size, 0, none⟩ = some (.int .i64 kk) := by simp
            have p1 : (w1.alloc (.cells #[.int .i64 kk, .int .i64 cc, .int .i64 ff] 29)).cell? ⟨w1.heap.size, 1, none⟩ = some (.int .i64 cc) := by simp
            have p2 : (w1.alloc (.cells #[.int .i64 kk, .int .i64 cc, .int .i64 ff] 29)).cell? ⟨w1.heap.size, 2, none⟩ = some (.int .i64 ff) := by simp
            go_wp2_with fail
            refine (d2 _).mono ?_
            rintro e w2 ⟨rfl, hb2⟩
            clear d2
            have k0 : w2.cell? ⟨w.heap.size, 0, none⟩ = some (.int .i64 bs) := bcellv hb2 (by first | assumption | exact bcellv (balloc (Below.refl _ _) _) k0)
            have k2 : w2.cell? ⟨w.heap.size, 2, none⟩ = some (.slice (some ⟨G, 0, none⟩) n cap) := bcellv hb2 (by first | assumption | exact bcellv (balloc (Below.refl _ _) _) k2)
            have q : w2.cell? ⟨G, i, none⟩ = some (.int .u64 x) := bcellv hb2 (by first | assumption | exact bcellv (balloc (Below.refl _ _) _) q)
            have r : w2.cell? ⟨G, i + 1, none⟩ = some (.int .u64 y) := bcellv hb2 (by first | assumption | exact bcellv (balloc (Below.refl _ _) _) r)
            have hown := row_below (hown.alloc _) hb2
            go_wp2_with fail
            refine (d3 _).mono ?_
            rintro e w3 ⟨rfl, hb3⟩
            clear d3
            have k0 : w3.cell? ⟨w.heap.size, 0, none⟩ = some (.int .i64 bs) := bcellv hb3 (by first | assumption | exact bcellv (balloc (Below.refl _ _) _) k0)
            have k2 : w3.cell? ⟨w.heap.size, 2, none⟩ = some (.slice (some ⟨G, 0, none⟩) n cap) := bcellv hb3 (by first | assumption | exact bcellv (balloc (Below.refl _ _) _) k2)
            have q : w3.cell? ⟨G, i, none⟩ = some (.int .u64 x) := bcellv hb3 (by first | assumption | exact bcellv (balloc (Below.refl _ _) _) q)
            have r : w3.cell? ⟨G, i + 1, none⟩ = some (.int .u64 y) := bcellv hb3 (by first | assumption | exact bcellv (balloc (Below.refl _ _) _) r)
            have hown := row_below hown hb3
            go_wp2_with (at_builtin; refine wpList_append_own _ rfl _ _ 52 rfl (w.heap.size + 1) 3 i0 (.int .i64 0) 1 8 Try.underlying52 hi hz0 hz1 hz2 rfl (by decide) _ _ _ rfl (hown.alloc _) ⟨w3.heap.size, 0, none⟩ 1 1 [.int .i64 (bs + i)] rfl rfl (cell_one_new _ _ _) (by simp [Value.oneCell']) (by omega) (by omega) (by have := (hown.lt g' rfl).2; simp; omega) ?_; intro v' w4 hown' hgrow _; obtain ⟨g4, cap4, rfl⟩ := ownsRow_succ hown')
            have hbw : Below w.heap.size w w3 := by (repeat (first | exact Below.refl _ _ | assumption | refine Below.drew ?_ | refine below_drewN ?_ _ | refine balloc ?_ _ | refine Below.setCell ?_ (by first | (simp; done) | (simp; omega) | omega) _ | refine bchain (by assumption) ?_))
            have hb4 : Below w.heap.size w w4 := ((hbw.alloc (by have := hbw.size; omega) _)).grown hgrow (by have := hbw.size; simp; omega) (fun k e => by simp [Value.ownBlock, Act.eval] at e; omega)
            have hk0 : w4.cell? ⟨w.heap.size, 0, none⟩ = some (.int .i64 bs) := hgrow.cell (bcellv (balloc (Below.refl _ _) _) k0) (by simp [Value.ownBlock, Act.eval]; omega)
            have hk2 : w4.cell? ⟨w.heap.size, 2, none⟩ = some (.slice (some ⟨G, 0, none⟩) n cap) := hgrow.cell (bcellv (balloc (Below.refl _ _) _) k2) (by simp [Value.ownBlock, Act.eval]; omega)
            go_wp2
            go_roundw
            case rel => exact ⟨i + m.toNat, pre ++ [i], by go_num, by omega, by simp; omega, by rw [hob]; simp, hst, by simpa using hown', ⟨g4, cap4, by simp⟩, hk0, hk2, hb4⟩
            case measure => simp [natOf]; omega
          · have hz : szB ws i = false := hzf (fun hh => by have := hh.2.2.2; omega)
            clear hzf hzt hzn hx hy hd hdd
            generalize didM y = ym at *
            generalize didS y = ys at *
            generalize decK x = kk at *
            generalize decC x = cc at *
            generalize decF x = ff at *
            generalize wordsI ff = m at *
            have s5 : IntKind.i64.wrap ((i : Int) + m) = (i : Int) + m := IntWalk.i64_in _ (by omega)
            go_wp2_with fail
            refine (d1 _).mono ?_
            rintro e w1 ⟨rfl, hb1⟩
            clear d1
            have k0 : w1.cell? ⟨w.heap.size, 0, none⟩ = some (.int .i64 bs) := bcellv hb1 (by first | assumption | exact bcellv (balloc (Below.refl _ _) _) k0)
            have k2 : w1.cell? ⟨w.heap.size, 2, none⟩ = some (.slice (some ⟨G, 0, none⟩) n cap) := bcellv hb1 (by first | assumption | exact bcellv (balloc (Below.refl _ _) _) k2)
            have q : w1.cell? ⟨G, i, none⟩ = some (.int .u64 x) := bcellv hb1 (by first | assumption | exact bcellv (balloc (Below.refl _ _) _) q)
            have r : w1.cell? ⟨G, i + 1, none⟩ = some (.int .u64 y) := bcellv hb1 (by first | assumption | exact bcellv (balloc (Below.refl _ _) _) r)
            have hown := row_below hown hb1
            have p0 : (w1.alloc (.cells #[.int .i64 kk, .int .i64 cc, .int .i64 ff] 29)).cell? ⟨w1.heap.size, 0, none⟩ = some (.int .i64 kk) := by simp
            have p1 : (w1.alloc (.cells #[.int .i64 kk, .int .i64 cc, .int .i64 ff] 29)).cell? ⟨w1.heap.size, 1, none⟩ = some (.int .i64 cc) := by simp
            have p2 : (w1.alloc (.cells #[.int .i64 kk, .int .i64 cc, .int .i64 ff] 29)).cell? ⟨w1.heap.size, 2, none⟩ = some (.int .i64 ff) := by simp
            go_wp2_with fail
            refine (d2 _).mono ?_
            rintro e w2 ⟨rfl, hb2⟩
            clear d2
            have k0 : w2.cell? ⟨w.heap.size, 0, none⟩ = some (.int .i64 bs) := bcellv hb2 (by first | assumption | exact bcellv (balloc (Below.refl _ _) _) k0)
            have k2 : w2.cell? ⟨w.heap.size, 2, none⟩ = some (.slice (some ⟨G, 0, none⟩) n cap) := bcellv hb2 (by first | assumption | exact bcellv (balloc (Below.refl _ _) _) k2)
            have q : w2.cell? ⟨G, i, none⟩ = some (.int .u64 x) := bcellv hb2 (by first | assumption | exact bcellv (balloc (Below.refl _ _) _) q)
            have r : w2.cell? ⟨G, i + 1, none⟩ = some (.int .u64 y) := bcellv hb2 (by first | assumption | exact bcellv (balloc (Below.refl _ _) _) r)
            have hown := row_below (hown.alloc _) hb2
            go_wp2_with fail
            refine (d3 _).mono ?_
            rintro e w3 ⟨rfl, hb3⟩
            clear d3
            have k0 : w3.cell? ⟨w.heap.size, 0, none⟩ = some (.int .i64 bs) := bcellv hb3 (by first | assumption | exact bcellv (balloc (Below.refl _ _) _) k0)
            have k2 : w3.cell? ⟨w.heap.size, 2, none⟩ = some (.slice (some ⟨G, 0, none⟩) n cap) := bcellv hb3 (by first | assumption | exact bcellv (balloc (Below.refl _ _) _) k2)
            have q : w3.cell? ⟨G, i, none⟩ = some (.int .u64 x) := bcellv hb3 (by first | assumption | exact bcellv (balloc (Below.refl _ _) _) q)
            have r : w3.cell? ⟨G, i + 1, none⟩ = some (.int .u64 y) := bcellv hb3 (by first | assumption | exact bcellv (balloc (Below.refl _ _) _) r)
            have hown := row_below hown hb3
            clear s5 s1 s2 s2a s2b s2c
            rw [objs_no hz] at hob
            rw [stopAt_no hz] at hst
            have s7 : IntKind.i64.wrap (bs + (i : Int)) = bs + (i : Int) := IntWalk.i64_in _ (by omega)
            go_wp2_with fail
            go_quiet (fail)
            clear s7
            go_wp2
            go_ret2
            rw [hst]
            refine ⟨_, rfl, ?_, by (repeat (first | exact Below.refl _ _ | assumption | refine Below.drew ?_ | refine below_drewN ?_ _ | refine balloc ?_ _ | refine Below.setCell ?_ (by first | (simp; done) | (simp; omega) | omega) _ | refine bchain (by assumption) ?_))⟩
            rw [objA, hob]
            have hfin := row_base (B := w.heap.size) (row_below hown (show Below w3.heap.size w3 (w3.drewN nq) from below_drewN (Below.refl _ _) _)) (by omega)
            simpa using hfin
    · have hz : szB ws i = false := szB_end (by omega)
      rw [objs_no hz] at hob
      rw [stopAt_no hz] at hst
      have s7 : IntKind.i64.wrap (bs + (i : Int)) = bs + (i : Int) := IntWalk.i64_in _ (by omega)
      go_wp2_with fail
      go_quiet (fail)
      clear s7
      go_wp2
      go_ret2
      rw [hst]
      refine ⟨_, rfl, ?_, by (repeat (first | exact Below.refl _ _ | assumption | refine Below.drew ?_ | refine below_drewN ?_ _ | refine balloc ?_ _ | refine Below.setCell ?_ (by first | (simp; done) | (simp; omega) | omega) _ | refine bchain (by assumption) ?_))⟩
      rw [objA, hob]
      have hfin := row_base (B := w.heap.size) (row_below hown (show Below wr.heap.size wr (wr.drewN nq) from below_drewN (Below.refl _ _) _)) (by omega)
      simpa using hfin
end Go.Proofs.Ytafailcjdkmdhaa
