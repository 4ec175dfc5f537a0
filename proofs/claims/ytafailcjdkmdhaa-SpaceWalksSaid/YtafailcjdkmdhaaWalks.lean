/-
  The statement SpaceWalks: the walk.
-/
import Derived.Test.YtafailcjdkmdhaaWaA
import Derived.Deep.AppendLies
import Derived.Deep.DeepCutAuto
import Derived.Deep.RegionLaw
import Derived.BigRegion
namespace Go.Proofs.Ytafailcjdkmdhaa
open Go.RowKit
set_option linter.unusedSimpArgs false
set_option linter.unusedVariables false

theorem HBd {n : Nat} {a b : World} (h : Below n a b) : Below n a b.drew := h.drew
theorem walk_le {ws : List Int} : ∀ (ks : List Op6) (p : Nat), MadeFrom ws ks p → ks.length ≤ tot ks := by
  intro ks
  induction ks with
  | nil => intro p h; exact Nat.zero_le _
  | cons o l ih =>
    intro p h
    have h1 := ih _ h.2.2.2
    have h2 := szO_bd h.1
    simp only [tot, List.length_cons]
    omega
theorem walk_len {ws : List Int} {ks : List Op6} (h : MadeFrom ws ks 0) (hk : SpOk 1000 100000 ws) : ks.length ≤ 100000 := by
  have h1 := hk.top
  have h2 := tot_all h
  have h3 : ks.length ≤ tot ks := walk_le ks 0 h
  omega

set_option maxRecDepth 100000 in
set_option maxHeartbeats 4000000 in
theorem walks_any (a : Option Addr) (l : List Op6) (cap : Nat) (hcap : l.length ≤ cap) (hc63 : cap ≤ 9223372036854775807) {v : Value} {vs : List Int} (w : World) (hl : Ops6 w a l) (hv : WrdsV w v vs) (hvu : ∀ (i : Nat) (x : Int), vs[i]? = some x → U64 x) :
    Calls Try.prog 5 #[.slice a l.length cap, v] w fun e w' => e = .returned (.bool true) ∧ Below w.heap.size w w' := by
  obtain ⟨av, cv, rfl, hcv, hcv63, hrow⟩ := hv
  have h1 := fun W => wide_any a l.length cap (by omega) W
  by_cases hw : 30 < l.length
  · have hd : decide (30 < l.length) = true := by simpa using hw
    rw [hd] at h1
    clear hl hw hd hrow hvu
    generalize l.length = n at *
    go_enter Try.func5, Try.ntmps5
    go_wp2_with (first | (go_at_call 9; refine (awake6 _).mono ?_; rintro e wz ⟨rfl, hz⟩) | (go_at_call 10; refine (h1 _).mono ?_; rintro e wz ⟨rfl, hz⟩))
    go_ret
    exact ⟨rfl, by (repeat (first | exact Below.refl _ _ | assumption | refine Below.drew ?_ | refine below_drewN ?_ _ | refine balloc ?_ _ | refine Below.setCell ?_ (by first | (simp; done) | (simp; omega) | omega) _ | refine bchain (by assumption) ?_))⟩
  have hd : decide (30 < l.length) = false := by simpa using hw
  have hn30 : l.length ≤ 30 := by omega
  rw [hd] at h1
  by_cases hw2 : 200 < vs.length
  · have hd2 : decide ((200 : Int) < (vs.length : Int)) = true := by simp; omega
    clear hl hrow hvu hw hd
    generalize vs.length = nv at *
    go_enter Try.func5, Try.ntmps5
    go_wp2_with (first | (go_at_call 9; refine (awake6 _).mono ?_; rintro e wz ⟨rfl, hz⟩) | (go_at_call 10; refine (h1 _).mono ?_; rintro e wz ⟨rfl, hz⟩))
    go_ret
    exact ⟨rfl, by (repeat (first | exact Below.refl _ _ | assumption | refine Below.drew ?_ | refine below_drewN ?_ _ | refine balloc ?_ _ | refine Below.setCell ?_ (by first | (simp; done) | (simp; omega) | omega) _ | refine bchain (by assumption) ?_))⟩
  have hd2 : decide ((200 : Int) < (vs.length : Int)) = false := by simp; omega
  have n1 := fun W => new_any 1000 100000 W
  rw [show max (1000 : Int) 0 = 1000 by decide, show newLm 1000 100000 = 100000 by decide] at n1
  have hk0 : SpOk 1000 100000 [] := ⟨by omega, by simp, by omega, by simp⟩
  clear hd hw
  go_enter Try.func5, Try.ntmps5
  go_wp2_with fail
  refine (awake6 _).mono ?_
  rintro e w1 ⟨rfl, hb1'⟩
  go_wp2_with fail
  refine (h1 _).mono ?_
  rintro e w2 ⟨rfl, hb2'⟩
  go_wp2_with fail
  refine (n1 _).mono ?_
  rintro e w3 ⟨rfl, hw3⟩
  have hs3 := spNew w2 1000 100000
  rw [hw3] at hs3
  have hb3' : Below w2.heap.size w2 w3 := by rw [← hw3]; exact balloc (Below.refl _ _) _
  have hbw3 : Below w.heap.size w w3 := by (repeat (first | exact Below.refl _ _ | assumption | refine Below.drew ?_ | refine below_drewN ?_ _ | refine balloc ?_ _ | refine Below.setCell ?_ (by first | (simp; done) | (simp; omega) | omega) _ | refine bchain (by assumption) ?_))
  have hw2z : w.heap.size ≤ w2.heap.size := (by (repeat (first | exact Below.refl _ _ | assumption | refine Below.drew ?_ | refine below_drewN ?_ _ | refine balloc ?_ _ | refine Below.setCell ?_ (by first | (simp; done) | (simp; omega) | omega) _ | refine bchain (by assumption) ?_)) : Below w.heap.size w w2).size
  have hlt3 : w2.heap.size < w3.heap.size := hs3.lt
  clear hw3 n1 h1 hb3' hb2' hb1'
  generalize w2.heap.size = B at *
  have r6 := (row_nil_at (W := w3) (N := w3.heap.size) (e := 3) (sz := 1) (Nat.le_refl _)).alloc (.cells #[] 34)
  have r7 := row_nil_at (W := w3.alloc (.cells #[] 3)) (N := w3.heap.size) (e := 34) (sz := 8) (by rw [World.size_alloc]; omega)
  rw [World.size_alloc] at r7
  have hF0 : FillIn w.heap.size w3.heap.size B (.slice (some ⟨w3.heap.size, 0, none⟩) 0 0) (.slice (some ⟨w3.heap.size + 1, 0, none⟩) 0 0) [] [] none ((w3.alloc (.cells #[] 3)).alloc (.cells #[] 34)) :=
    ⟨hs3.below (balloc (balloc (Below.refl _ _) _) _), hk0, rfl, fun G e => (by cases e), hw2z, hbw3.size, by simp only [World.size_alloc]; omega, fun G e => (by simp only [Value.ownBlock, Option.some.injEq] at e; exact not_sps (by omega) (fun G e => by cases e)), fun G e => (by simp only [Value.ownBlock, Option.some.injEq] at e; exact not_sps (by omega) (fun G e => by cases e)), fun G e => (by simp only [Value.ownBlock, Option.some.injEq] at e; subst e; simp only [Value.ownBlock, ne_eq, Option.some.injEq]; omega), r6, r7⟩
  have hbw0 : Below w.heap.size w ((w3.alloc (.cells #[] 3)).alloc (.cells #[] 34)) := balloc (balloc hbw3 _) _
  have hN : w.heap.size ≤ w3.heap.size := hbw3.size
  go_wp2_with fail
  generalize w3.heap.size = N at *
  go_loopw [6, 7, 8] (fun p q i wr => ∃ (t : Nat) (ks : List Op6) (ws : List Int) (g : Option Nat), t ≤ l.length ∧ i = .int .i64 t ∧ FillIn w.heap.size N B p q ks ws g wr ∧ ks.length ≤ t ∧ Below w.heap.size w wr) (fun _ _ i _ => l.length - natOf i)
  case atStart => exact ⟨0, _, _, _, Nat.zero_le _, rfl, hF0, Nat.le_refl _, hbw0⟩
  case round =>
    clear hF0 hbw0 r6 r7 hs3 hk0 hbw3
    obtain ⟨t, ks, ws, g, ht, rfl, hF, hkt, hbr⟩ := hrel
    by_cases hlt : t < l.length
    · have hl0 := hl
      obtain ⟨b, off, o, rfl, ho, hbl', hou, c0, c1, c2, c3, c4, c5, c6, c7⟩ := (hl.below (B := 0) hbr).get hlt
      have hbl : b < w.heap.size := by
        rcases hl0 with h0 | ⟨b', off', e', hb', _⟩
        · rw [h0] at hlt; simp at hlt
        · cases e'; exact hb'
      obtain ⟨kd, k, c, f, m, s, oa, ou⟩ := o
      simp only at hou c0 c1 c2 c3 c4 c5 c6 c7
      have d2 : wr.cell? ⟨b, off + t * 8 + 1 + 1, none⟩ = some (.int .i64 c) := c2
      have d3 : wr.cell? ⟨b, off + t * 8 + 1 + 2, none⟩ = some (.int .i64 f) := c3
      have d5 : wr.cell? ⟨b, off + t * 8 + 4 + 1, none⟩ = some (.int .i64 s) := c5
      have hFd := hF.below (Below.refl _ wr).drew
      have hA := alloc_any hFd.sp hF.ok k c f m s
      have hk2 := alOk hF.ok k c f m s
      have s1 : ((t : Int)).toNat = t := by omega
      have hw0 := hbr.size
      have hbS : ¬ SpS B g b := fun h => by have := hF.ge b h; omega
      have HN := Lib.hid hN
      clear ho hl hl0 hN
      by_cases hE : alE 1000 100000 ws k c f m s = 0
      · obtain ⟨hv0, hi0, ea, ew⟩ := al_zero hE
        rw [hE, ea, ew] at hA
        rw [ew] at hk2
        have hok : okO ⟨kd, k, c, f, m, s, oa, ou⟩ := ⟨hv0, hi0⟩
        have hmd := made_app hok ks 0 hF.md
        have hx6 : (adr 1000 ks).map (Value.int .i64) ++ [.int .i64 (1000 + (ws.length : Int))] = (adr 1000 (ks ++ [⟨kd, k, c, f, m, s, oa, ou⟩])).map (Value.int .i64) := by rw [adr_app, List.map_append, tot_all hF.md]; rfl
        have hx7 : flatO ks ++ [.int .u8 kd, .int .i64 k, .int .i64 c, .int .i64 f, .int .i64 m, .int .i64 s, .int .i64 oa, .int .u64 ou] = flatO (ks ++ [⟨kd, k, c, f, m, s, oa, ou⟩]) := by rw [flatO_app]; rfl
        have hxl : (ks ++ [(⟨kd, k, c, f, m, s, oa, ou⟩ : Op6)]).length = ks.length + 1 := by simp
        simp only at hmd
        generalize ks ++ [(⟨kd, k, c, f, m, s, oa, ou⟩ : Op6)] = ks2 at *
        generalize ws ++ newObj k c f m s = ws2 at *
        have hadr : ∃ ad, (1000 + (ws.length : Int)) = ad := ⟨_, rfl⟩
        obtain ⟨ad, had⟩ := hadr
        rw [had] at hA hx6
        clear hE hv0 hi0 ea ew had hok
        have HMD := Lib.hid hmd
        have HX6 := Lib.hid hx6
        have HX7 := Lib.hid hx7
        have HXL := Lib.hid hxl
        have HK2 := Lib.hid hk2
        clear hmd hx6 hx7 hxl hk2
        go_wp2_with fail
        go_region_held3 (fun w' => w'.cell? ⟨b, off + t * 8 + 1, none⟩ = some (.int .i64 k) ∧ w'.cell? ⟨b, off + t * 8 + 1 + 1, none⟩ = some (.int .i64 c) ∧ w'.cell? ⟨b, off + t * 8 + 1 + 2, none⟩ = some (.int .i64 f) ∧ w'.cell? ⟨b, off + t * 8 + 4, none⟩ = some (.int .i64 m) ∧ w'.cell? ⟨b, off + t * 8 + 4 + 1, none⟩ = some (.int .i64 s)) (exact ⟨c1, d2, d3, c4, d5⟩) (first | (go_at_call 15; refine hA.mono ?_; rintro e w6 ⟨rfl, g1, hs6, hm6, hg1⟩; have c1 := mcell hm6 (show wr.drew.cell? _ = _ from c1) hbS; have d2 := mcell hm6 (show wr.drew.cell? _ = _ from d2) hbS; have d3 := mcell hm6 (show wr.drew.cell? _ = _ from d3) hbS; have c4 := mcell hm6 (show wr.drew.cell? _ = _ from c4) hbS; have d5 := mcell hm6 (show wr.drew.cell? _ = _ from d5) hbS))
        have c0 := mcell hm6 (show wr.drew.cell? _ = _ from c0) hbS
        have c2 : w6.cell? ⟨b, off + t * 8 + 2, none⟩ = some (.int .i64 c) := d2
        have c3 : w6.cell? ⟨b, off + t * 8 + 3, none⟩ = some (.int .i64 f) := d3
        have c5 : w6.cell? ⟨b, off + t * 8 + 5, none⟩ = some (.int .i64 s) := d5
        have c6 := mcell hm6 (show wr.drew.cell? _ = _ from c6) hbS
        have c7 := mcell hm6 (show wr.drew.cell? _ = _ from c7) hbS
        obtain ⟨z1, z2, z3, r8, r9⟩ := hFd.step hs6 hm6 hg1 HK2.out hw0
        have hbn : Below w.heap.size w w6 := (hbr.drew).trans (hm6.below hbr.size hF.ge)
        have hkp : KpS w B ws2 g1 w6 := ⟨hs6, hbn⟩
        have hz4 : N ≤ w6.heap.size := Nat.le_trans hF.nz hm6.size
        have hne8 := hF.pq
        have n8 : u6.ownBlock ≠ some b := fun e => by have := (row_lt r8 _ e).2; have := HN.out; omega
        have n9 : u7.ownBlock ≠ some b := fun e => by have := (row_lt r9 _ e).2; have := HN.out; omega
        have u8lt : ∀ G, u6.ownBlock = some G → G < w6.heap.size := fun G e => (row_lt r8 G e).1
        have u9lt : ∀ G, u7.ownBlock = some G → G < w6.heap.size := fun G e => (row_lt r9 G e).1
        have hbz6 : b < w6.heap.size := by have := hbn.size; omega
        have hwz : w.heap.size ≤ w6.heap.size := hbn.size
        obtain ⟨iH, hiH, zH0, zH1, zH2⟩ := info_parts int_info
        obtain ⟨iI, hiI, zI0, zI1, zI2⟩ := info_parts op_info
        have hml : maxLen = 9223372036854775807 := rfl
        have hkl : ks.length ≤ 30 := by omega
        have HF := Lib.hid hF
        have Z1 := Lib.hid z1
        clear hA hm6 hs6 hg1 hF hFd d2 d3 d5 hbn z1 hbr hbS
        have hkeep : True := trivial
        obtain ⟨wq, hwq⟩ : ∃ q, q = w6 := ⟨_, rfl⟩
        subst hwq
        go_wp2_with fail
        go_region_held3 (fun w' => w'.cell? ⟨b, off + t * 8, none⟩ = some (.int .u8 kd) ∧ w'.cell? ⟨b, off + t * 8 + 1, none⟩ = some (.int .i64 k) ∧ w'.cell? ⟨b, off + t * 8 + 2, none⟩ = some (.int .i64 c) ∧ w'.cell? ⟨b, off + t * 8 + 3, none⟩ = some (.int .i64 f) ∧ w'.cell? ⟨b, off + t * 8 + 4, none⟩ = some (.int .i64 m) ∧ w'.cell? ⟨b, off + t * 8 + 5, none⟩ = some (.int .i64 s) ∧ w'.cell? ⟨b, off + t * 8 + 6, none⟩ = some (.int .i64 oa) ∧ w'.cell? ⟨b, off + t * 8 + 7, none⟩ = some (.int .u64 ou)) (first | (with_reducible exact ⟨c0, c1, c2, c3, c4, c5, c6, c7⟩) | go_keep) (first
          | (refine step_append_news (by rfl) (.tmp 59) (.tmp 61) 52 (by rfl) N 3 iH (.int .i64 0) 1 8 Try.underlying52 hiH zH0 zH1 zH2 rfl (by decide) u6 ks.length _ (by rfl) (row_below7 r8 (show Below wq.heap.size wq _ from by (repeat (first | exact Below.refl _ _ | assumption | refine Below.drew ?_ | refine below_drewN ?_ _ | refine balloc ?_ _ | refine Below.setCell ?_ (by first | (simp; done) | (simp; omega) | omega) _ | refine bchain (by assumption) ?_)))) _ 1 1 [.int .i64 ad] (by rfl) (by rfl) (.inr ⟨_, rfl, ?_⟩) ?_ (by omega) (by omega) ?_ ?_; (intro j z hj; rcases j with _ | j <;> simp at hj <;> subst hj <;> first | (simp [go_sem]; done) | (simp only [Addr.add_lit]; refine hkeep _ _ _ ?_ ?_; omega; simp [go_sem])); (intro z hz; simp at hz; rcases hz with rfl; rfl); (exact Nat.le_trans hz4 (Below.size (show Below wq.heap.size wq _ from by (repeat (first | exact Below.refl _ _ | assumption | refine Below.drew ?_ | refine below_drewN ?_ _ | refine balloc ?_ _ | refine Below.setCell ?_ (by first | (simp; done) | (simp; omega) | omega) _ | refine bchain (by assumption) ?_))))); intro v8 wn hown hg hat; have hkz := hkp.app (show Below wq.heap.size wq _ from by (repeat (first | exact Below.refl _ _ | assumption | refine Below.drew ?_ | refine below_drewN ?_ _ | refine balloc ?_ _ | refine Below.setCell ?_ (by first | (simp; done) | (simp; omega) | omega) _ | refine bchain (by assumption) ?_))) hg (fun G e => Nat.le_trans HN.out (row_lt r8 G e).2) z2 hwz; have hnn := app_ne8 (show Below wq.heap.size wq _ from by (repeat (first | exact Below.refl _ _ | assumption | refine Below.drew ?_ | refine below_drewN ?_ _ | refine balloc ?_ _ | refine Below.setCell ?_ (by first | (simp; done) | (simp; omega) | omega) _ | refine bchain (by assumption) ?_))) hne8 r9 hat; have z2 := hkp.apart (show Below wq.heap.size wq _ from by (repeat (first | exact Below.refl _ _ | assumption | refine Below.drew ?_ | refine below_drewN ?_ _ | refine balloc ?_ _ | refine Below.setCell ?_ (by first | (simp; done) | (simp; omega) | omega) _ | refine bchain (by assumption) ?_))) z2 hat; have hkeep := app_hold hg u8lt; have r9 := app_row (show Below wq.heap.size wq _ from by (repeat (first | exact Below.refl _ _ | assumption | refine Below.drew ?_ | refine below_drewN ?_ _ | refine balloc ?_ _ | refine Below.setCell ?_ (by first | (simp; done) | (simp; omega) | omega) _ | refine bchain (by assumption) ?_))) hg r9 (fun G e e' => hne8 G e' e); have c0 := app_cell (show Below wq.heap.size wq _ from by (repeat (first | exact Below.refl _ _ | assumption | refine Below.drew ?_ | refine below_drewN ?_ _ | refine balloc ?_ _ | refine Below.setCell ?_ (by first | (simp; done) | (simp; omega) | omega) _ | refine bchain (by assumption) ?_))) hg c0 n8; have c1 := app_cell (show Below wq.heap.size wq _ from by (repeat (first | exact Below.refl _ _ | assumption | refine Below.drew ?_ | refine below_drewN ?_ _ | refine balloc ?_ _ | refine Below.setCell ?_ (by first | (simp; done) | (simp; omega) | omega) _ | refine bchain (by assumption) ?_))) hg c1 n8; have c2 := app_cell (show Below wq.heap.size wq _ from by (repeat (first | exact Below.refl _ _ | assumption | refine Below.drew ?_ | refine below_drewN ?_ _ | refine balloc ?_ _ | refine Below.setCell ?_ (by first | (simp; done) | (simp; omega) | omega) _ | refine bchain (by assumption) ?_))) hg c2 n8; have c3 := app_cell (show Below wq.heap.size wq _ from by (repeat (first | exact Below.refl _ _ | assumption | refine Below.drew ?_ | refine below_drewN ?_ _ | refine balloc ?_ _ | refine Below.setCell ?_ (by first | (simp; done) | (simp; omega) | omega) _ | refine bchain (by assumption) ?_))) hg c3 n8; have c4 := app_cell (show Below wq.heap.size wq _ from by (repeat (first | exact Below.refl _ _ | assumption | refine Below.drew ?_ | refine below_drewN ?_ _ | refine balloc ?_ _ | refine Below.setCell ?_ (by first | (simp; done) | (simp; omega) | omega) _ | refine bchain (by assumption) ?_))) hg c4 n8; have c5 := app_cell (show Below wq.heap.size wq _ from by (repeat (first | exact Below.refl _ _ | assumption | refine Below.drew ?_ | refine below_drewN ?_ _ | refine balloc ?_ _ | refine Below.setCell ?_ (by first | (simp; done) | (simp; omega) | omega) _ | refine bchain (by assumption) ?_))) hg c5 n8; have c6 := app_cell (show Below wq.heap.size wq _ from by (repeat (first | exact Below.refl _ _ | assumption | refine Below.drew ?_ | refine below_drewN ?_ _ | refine balloc ?_ _ | refine Below.setCell ?_ (by first | (simp; done) | (simp; omega) | omega) _ | refine bchain (by assumption) ?_))) hg c6 n8; have c7 := app_cell (show Below wq.heap.size wq _ from by (repeat (first | exact Below.refl _ _ | assumption | refine Below.drew ?_ | refine below_drewN ?_ _ | refine balloc ?_ _ | refine Below.setCell ?_ (by first | (simp; done) | (simp; omega) | omega) _ | refine bchain (by assumption) ?_))) hg c7 n8; have hz4 : N ≤ wn.heap.size := (Nat.le_trans (Nat.le_trans hz4 (Below.size (show Below wq.heap.size wq _ from by (repeat (first | exact Below.refl _ _ | assumption | refine Below.drew ?_ | refine below_drewN ?_ _ | refine balloc ?_ _ | refine Below.setCell ?_ (by first | (simp; done) | (simp; omega) | omega) _ | refine bchain (by assumption) ?_))))) hg.size); have hwz : w.heap.size ≤ wn.heap.size := hkz.2.size; have r8 := hown; have hkp := hkz; have hne8 := hnn; clear hg hat hown hkz hnn; obtain ⟨wq, hwq⟩ : ∃ q, q = wn := ⟨_, rfl⟩; subst hwq)
          | (refine step_append_news (by rfl) (.tmp 63) (.tmp 68) 22 (by rfl) N 34 iI (.agg #[.int .u8 0, .int .i64 0, .int .i64 0, .int .i64 0, .int .i64 0, .int .i64 0, .int .i64 0, .int .u64 0]) 8 64 Try.underlying22 hiI zI0 zI1 zI2 rfl (by decide) u7 ks.length _ (by rfl) (row_below7 r9 (show Below wq.heap.size wq _ from by (repeat (first | exact Below.refl _ _ | assumption | refine Below.drew ?_ | refine below_drewN ?_ _ | refine balloc ?_ _ | refine Below.setCell ?_ (by first | (simp; done) | (simp; omega) | omega) _ | refine bchain (by assumption) ?_)))) _ 1 1 [.int .u8 kd, .int .i64 k, .int .i64 c, .int .i64 f, .int .i64 m, .int .i64 s, .int .i64 oa, .int .u64 ou] (by rfl) (by rfl) (.inr ⟨_, rfl, ?_⟩) ?_ (by omega) (by omega) ?_ ?_; (intro j z hj; rcases j with _ | _ | _ | _ | _ | _ | _ | _ | j <;> simp at hj <;> subst hj <;> first | (simp [go_sem]; done) | (simp only [Addr.add_lit]; refine hkeep _ _ _ ?_ ?_; omega; simp [go_sem])); (exact cellsO_one ⟨kd, k, c, f, m, s, oa, ou⟩); (exact Nat.le_trans hz4 (Below.size (show Below wq.heap.size wq _ from by (repeat (first | exact Below.refl _ _ | assumption | refine Below.drew ?_ | refine below_drewN ?_ _ | refine balloc ?_ _ | refine Below.setCell ?_ (by first | (simp; done) | (simp; omega) | omega) _ | refine bchain (by assumption) ?_))))); intro v9 wn hown hg hat; have hkz := hkp.app (show Below wq.heap.size wq _ from by (repeat (first | exact Below.refl _ _ | assumption | refine Below.drew ?_ | refine below_drewN ?_ _ | refine balloc ?_ _ | refine Below.setCell ?_ (by first | (simp; done) | (simp; omega) | omega) _ | refine bchain (by assumption) ?_))) hg (fun G e => Nat.le_trans HN.out (row_lt r9 G e).2) z3 hwz; have hnn := app_ne9 (show Below wq.heap.size wq _ from by (repeat (first | exact Below.refl _ _ | assumption | refine Below.drew ?_ | refine below_drewN ?_ _ | refine balloc ?_ _ | refine Below.setCell ?_ (by first | (simp; done) | (simp; omega) | omega) _ | refine bchain (by assumption) ?_))) hne8 r8 hat; have z3 := hkp.apart (show Below wq.heap.size wq _ from by (repeat (first | exact Below.refl _ _ | assumption | refine Below.drew ?_ | refine below_drewN ?_ _ | refine balloc ?_ _ | refine Below.setCell ?_ (by first | (simp; done) | (simp; omega) | omega) _ | refine bchain (by assumption) ?_))) z3 hat; have hkeep := app_hold hg u9lt; have r8 := app_row (show Below wq.heap.size wq _ from by (repeat (first | exact Below.refl _ _ | assumption | refine Below.drew ?_ | refine below_drewN ?_ _ | refine balloc ?_ _ | refine Below.setCell ?_ (by first | (simp; done) | (simp; omega) | omega) _ | refine bchain (by assumption) ?_))) hg r8 (fun G e e' => hne8 G e e'); have c0 := app_cell (show Below wq.heap.size wq _ from by (repeat (first | exact Below.refl _ _ | assumption | refine Below.drew ?_ | refine below_drewN ?_ _ | refine balloc ?_ _ | refine Below.setCell ?_ (by first | (simp; done) | (simp; omega) | omega) _ | refine bchain (by assumption) ?_))) hg c0 n9; have c1 := app_cell (show Below wq.heap.size wq _ from by (repeat (first | exact Below.refl _ _ | assumption | refine Below.drew ?_ | refine below_drewN ?_ _ | refine balloc ?_ _ | refine Below.setCell ?_ (by first | (simp; done) | (simp; omega) | omega) _ | refine bchain (by assumption) ?_))) hg c1 n9; have c2 := app_cell (show Below wq.heap.size wq _ from by (repeat (first | exact Below.refl _ _ | assumption | refine Below.drew ?_ | refine below_drewN ?_ _ | refine balloc ?_ _ | refine Below.setCell ?_ (by first | (simp; done) | (simp; omega) | omega) _ | refine bchain (by assumption) ?_))) hg c2 n9; have c3 := app_cell (show Below wq.heap.size wq _ from by (repeat (first | exact Below.refl _ _ | assumption | refine Below.drew ?_ | refine below_drewN ?_ _ | refine balloc ?_ _ | refine Below.setCell ?_ (by first | (simp; done) | (simp; omega) | omega) _ | refine bchain (by assumption) ?_))) hg c3 n9; have c4 := app_cell (show Below wq.heap.size wq _ from by (repeat (first | exact Below.refl _ _ | assumption | refine Below.drew ?_ | refine below_drewN ?_ _ | refine balloc ?_ _ | refine Below.setCell ?_ (by first | (simp; done) | (simp; omega) | omega) _ | refine bchain (by assumption) ?_))) hg c4 n9; have c5 := app_cell (show Below wq.heap.size wq _ from by (repeat (first | exact Below.refl _ _ | assumption | refine Below.drew ?_ | refine below_drewN ?_ _ | refine balloc ?_ _ | refine Below.setCell ?_ (by first | (simp; done) | (simp; omega) | omega) _ | refine bchain (by assumption) ?_))) hg c5 n9; have c6 := app_cell (show Below wq.heap.size wq _ from by (repeat (first | exact Below.refl _ _ | assumption | refine Below.drew ?_ | refine below_drewN ?_ _ | refine balloc ?_ _ | refine Below.setCell ?_ (by first | (simp; done) | (simp; omega) | omega) _ | refine bchain (by assumption) ?_))) hg c6 n9; have c7 := app_cell (show Below wq.heap.size wq _ from by (repeat (first | exact Below.refl _ _ | assumption | refine Below.drew ?_ | refine below_drewN ?_ _ | refine balloc ?_ _ | refine Below.setCell ?_ (by first | (simp; done) | (simp; omega) | omega) _ | refine bchain (by assumption) ?_))) hg c7 n9; have hz4 : N ≤ wn.heap.size := (Nat.le_trans (Nat.le_trans hz4 (Below.size (show Below wq.heap.size wq _ from by (repeat (first | exact Below.refl _ _ | assumption | refine Below.drew ?_ | refine below_drewN ?_ _ | refine balloc ?_ _ | refine Below.setCell ?_ (by first | (simp; done) | (simp; omega) | omega) _ | refine bchain (by assumption) ?_))))) hg.size); have hwz : w.heap.size ≤ wn.heap.size := hkz.2.size; have r9 := hown; have hkp := hkz; have hne8 := hnn; clear hg hat hown hkz hnn; obtain ⟨wq, hwq⟩ : ∃ q, q = wn := ⟨_, rfl⟩; subst hwq))
        all_goals (go_wp2; go_roundw)
        all_goals (first | (case rel => exact ⟨t + 1, ks2, ws2, g1, by omega, by go_num, ⟨hkp.1, HK2.out, HMD.out, Z1.out, HF.out.bw, HF.out.nw, hz4, z2, z3, hne8, by rw [HXL.out, ← HX6.out]; exact r8, by rw [HXL.out, ← HX7.out]; exact r9⟩, by rw [HXL.out]; omega, hkp.2⟩) | skip)
        all_goals (simp [natOf]; omega)
      · have ew : alW 1000 100000 ws k c f m s = ws := by unfold alW; rw [if_neg hE]
        rw [ew] at hA hk2
        clear ew
        generalize alA 1000 100000 ws k c f m s = ra at *
        generalize alE 1000 100000 ws k c f m s = re at *
        have hd : (re == 0) = false := by simpa using hE
        have hd3 : decide (re = 0) = false := by simpa using hE
        have HE := Lib.hid hE
        clear hE
        go_wp2_with fail
        go_region_held3 (fun w' => w'.cell? ⟨b, off + t * 8 + 1, none⟩ = some (.int .i64 k) ∧ w'.cell? ⟨b, off + t * 8 + 1 + 1, none⟩ = some (.int .i64 c) ∧ w'.cell? ⟨b, off + t * 8 + 1 + 2, none⟩ = some (.int .i64 f) ∧ w'.cell? ⟨b, off + t * 8 + 4, none⟩ = some (.int .i64 m) ∧ w'.cell? ⟨b, off + t * 8 + 4 + 1, none⟩ = some (.int .i64 s)) (exact ⟨c1, d2, d3, c4, d5⟩) (first | (go_at_call 15; refine hA.mono ?_; rintro e w6 ⟨rfl, g1, hs6, hm6, hg1⟩; have c1 := mcell hm6 (show wr.drew.cell? _ = _ from c1) hbS; have d2 := mcell hm6 (show wr.drew.cell? _ = _ from d2) hbS; have d3 := mcell hm6 (show wr.drew.cell? _ = _ from d3) hbS; have c4 := mcell hm6 (show wr.drew.cell? _ = _ from c4) hbS; have d5 := mcell hm6 (show wr.drew.cell? _ = _ from d5) hbS))
        have hF6 := hFd.store hs6 hm6 hg1 hk2 hw0 hF.md
        have hbn : Below w.heap.size w w6 := (hbr.drew).trans (hm6.below hbr.size hF.ge)
        clear c0 c1 c2 c3 c4 c5 c6 c7 d2 d3 d5 hA hm6 hg1 hs6 hF hFd
        go_wp2
        go_roundw
        case rel => exact ⟨t + 1, ks, ws, g1, by omega, by go_num, hF6, by omega, hbn⟩
        case measure => simp [natOf]; omega
    · obtain ⟨wo, hwo⟩ : ∃ W, W = wr := ⟨_, rfl⟩
      subst hwo
      obtain ⟨a6, c6, rfl, hc6, hc6b⟩ := row_form hF.rp
      obtain ⟨a7, c7, rfl, hc7, hc7b⟩ := row_form hF.rq
      have hkl : ks.length ≤ 100000 := by
        have h1 := hF.ok.top
        have h2 := tot_all hF.md
        have h3 := plc_len ks 0
        exact walk_len hF.md hF.ok
      go_wp2_with fail
      clear hl ht hkt hlt
      go_loopw [11, 12, 13] (fun n nx i wx => ∃ (t m : Nat) (ws2 : List Int) (g2 : Option Nat), t ≤ ks.length ∧ i = .int .i64 t ∧ n = .int .i64 m ∧ m ≤ vs.length ∧ nx = .int .i64 (1000 + (tot (ks.take t) : Nat)) ∧ FillIn w.heap.size N B (.slice a6 ks.length c6) (.slice a7 ks.length c7) ks ws2 g2 wx ∧ Below w.heap.size w wx) (fun _ _ i _ => ks.length - natOf i)
      case atStart => exact ⟨0, 0, ws, g, Nat.zero_le _, rfl, rfl, Nat.zero_le _, by simp [tot], hF, hbr⟩
      case round =>
        clear hF hbr
        obtain ⟨t, m, ws2, g2, ht, rfl, rfl, hm, rfl, hF, hbr⟩ := hrel
        by_cases hlt : t < ks.length
        · obtain ⟨o, ho⟩ : ∃ o, ks[t]? = some o := ⟨_, List.getElem?_eq_getElem hlt⟩
          obtain ⟨G6, _, e6, _, _, _, _, q6⟩ := row_openS hF.rp (by omega)
          cases e6
          obtain ⟨G7, _, e7, _, _, _, _, q7⟩ := row_openS hF.rq (by omega)
          cases e7
          have hat := q6 t _ (by rw [List.getElem?_map, adr_get 1000 ho]; rfl)
          have k1 := q7 (t * 8 + 1) _ (flatO_get ks t 1 o ho (by omega))
          have k2 := q7 (t * 8 + 1 + 1) _ (flatO_get ks t 2 o ho (by omega))
          have k3 := q7 (t * 8 + 1 + 2) _ (flatO_get ks t 3 o ho (by omega))
          have hok := (made_get ks 0 t o hF.md ho).1
          have hsz := szO_bd hok
          have hts := tot_succ ks t o ho
          have hWd := fun W => rwords_yes o.k o.c o.f hok.1 W
          have htl := tot_mono ks (show t + 1 ≤ ks.length by omega)
          rw [List.take_length, tot_all hF.md] at htl
          have htop := hF.ok.top
          have s1 : ((t : Int)).toNat = t := by omega
          have hst := fun (W2 : List Int) (H : MadeFrom W2 ks 0) (j : Nat) (h1 : tot (ks.take t) + 2 ≤ j) (h2 : j < tot (ks.take (t + 1))) (u : Int) => walk_store H ho h1 h2 u
          have HST := Lib.hid hst
          have HTS := Lib.hid hts
          have HTL := Lib.hid htl
          clear hst q6 q7 ho hok hts htl
          generalize tot (ks.take t) = T0 at *
          obtain ⟨T1, hT1⟩ : ∃ T1, tot (ks.take (t + 1)) = T1 := ⟨_, rfl⟩
          rw [hT1] at HST HTS HTL
          have HT1 := Lib.hid hT1
          have hT : (T1 : Int) = T0 + wordsI o.f := by have := HTS.out; omega
          have hT10 : T1 ≤ 100000 := by have := HTL.out; omega
          have hT01 : T0 + 2 ≤ T1 := by have := HTS.out; omega
          obtain ⟨hz1, hz2, hz3⟩ := hsz
          have sw1 : IntKind.i64.wrap (1000 + (T0 : Int) + wordsI o.f) = 1000 + (T1 : Int) := by rw [show 1000 + (T0 : Int) + wordsI o.f = 1000 + (T1 : Int) by omega]; exact IntWalk.i64_in _ (by omega)
          have sw2 : IntKind.i64.wrap (1000 + (T0 : Int) + 2) = 1000 + ((T0 + 2 : Nat) : Int) := by rw [show 1000 + (T0 : Int) + 2 = 1000 + ((T0 + 2 : Nat) : Int) by omega]; exact IntWalk.i64_in _ (by omega)
          have SW1 := Lib.hid hT
          clear hT1 hT hz1 hz2 hz3 htop
          go_wp2_with fail
          refine (hWd _).mono ?_
          rintro e w5 ⟨rfl, hb5⟩
          have hat := bcellv hb5 hat
          have hF5 := hF.below hb5
          have hbr5 := bchain hb5 hbr
          clear hF hbr hb5 hWd k1 k2 k3
          obtain ⟨wo, hwo⟩ : ∃ W, W = wr := ⟨_, rfl⟩
          subst hwo
          go_wp2_with fail
          go_loopw [11, 14] (fun n av wy => ∃ (m j : Nat) (ws3 : List Int) (g3 : Option Nat), n = .int .i64 m ∧ m ≤ vs.length ∧ av = .int .i64 (1000 + (j : Int)) ∧ T0 + 2 ≤ j ∧ j ≤ T1 ∧ FillIn w.heap.size N B (.slice (some ⟨G6, 0, none⟩) ks.length c6) (.slice (some ⟨G7, 0, none⟩) ks.length c7) ks ws3 g3 wy ∧ Below w.heap.size w wy) (fun _ av _ => T1 + 1000 - natOf av)
          case atStart => exact ⟨m, T0 + 2, ws2, g2, rfl, hm, rfl, Nat.le_refl _, hT01, hF5, hbr5⟩
          case round =>
            clear hF5 hbr5 hat sw1 sw2
            obtain ⟨m, j, ws3, g3, rfl, hm, rfl, hj0, hj1, hF, hbr⟩ := hrel
            have HJ := Lib.hid (And.intro hj0 hj1)
            clear hj0 hj1
            by_cases hj : j < T1
            · by_cases hmv : m < vs.length
              · obtain ⟨x, hx⟩ : ∃ x, vs[m]? = some x := ⟨_, List.getElem?_eq_getElem hmv⟩
                rcases hrow with rfl | ⟨bv, ov, rfl, hr⟩
                · simp at hmv
                have cx := bcellv hbr (hr m x hx)
                have hxu := hvu m x hx
                obtain ⟨f1, f2, f3⟩ := HST.out ws3 hF.md j HJ.out.1 hj x
                have cS := store_any hF.sp hF.ok (1000 + (j : Int)) x
                have hk2 := stOk hF.ok (1000 + (j : Int)) hxu
                rw [f1, f2] at cS
                rw [f2] at hk2
                generalize ws3.set j x = ws4 at *
                have s2 : ((m : Int)).toNat = m := by omega
                have hjb : (j : Int) < (T1 : Int) := by omega
                have hmb : (m : Int) < (vs.length : Int) := by omega
                have F3 := Lib.hid f3
                clear f1 f2 f3 hr hx hxu hj hmv
                go_wp2_with fail
                refine cS.mono ?_
                rintro e w7 ⟨rfl, g4, hs7, hm7, hg7⟩
                have hF7 := hF.store hs7 hm7 hg7 hk2 hbr.size F3.out
                have hb7 : Below w.heap.size w w7 := hbr.trans (hm7.below hbr.size hF.ge)
                clear cS cx hs7 hm7 hg7 hF hbr
                go_wp2_with fail
                go_roundw
                case rel => exact ⟨m + 1, j + 1, ws4, g4, by go_num, by omega, by go_num, by have := HJ.out; omega, by omega, hF7, hb7⟩
                case measure => simp [natOf]; omega
              · have hd5 : decide ((m : Int) < (vs.length : Int)) = false := by simp; omega
                have hd6 : decide ((1000 + (j : Int)) < 1000 + (T1 : Int)) = true := by simp; omega
                go_wp2_with fail
                go_roundw
                case rel => exact ⟨t + 1, m, ws3, g3, by omega, by go_num, rfl, hm, by rw [HT1.out], hF, hbr⟩
                case measure => simp [natOf]; omega
            · have hd6 : decide ((1000 + (j : Int)) < 1000 + (T1 : Int)) = false := by simp; omega
              go_wp2_with fail
              go_roundw
              case rel => exact ⟨t + 1, m, ws3, g3, by omega, by go_num, rfl, hm, by rw [HT1.out], hF, hbr⟩
              case measure => simp [natOf]; omega
        · have htk : t = ks.length := by omega
          subst htk
          rw [List.take_length, tot_all hF.md]
          obtain ⟨ea, es⟩ := made_adr (bs := 1000) hF.md
          have cT := top_any hF.sp hF.ok
          have cO := fun (W : World) (H : Below wr.heap.size wr W) => objects_any (hF.sp.below H) hF.ok
          rw [ea, adr_len] at cO
          have cC := fun (W : World) (H : Below wr.heap.size wr W) => check_any (hF.sp.below H) hF.ok
          have hch : chkI ws2 = 0 := by unfold chkI; rw [if_pos (show stopAt ws2 0 = ws2.length from es)]
          rw [hch] at cC
          have iv : IntsV wr (.slice a6 ks.length c6) (adr 1000 ks) := IntsV.of_row (by rw [adr_len]; exact hF.rp)
          have CO := Lib.hid cO
          have CC := Lib.hid cC
          have htop := hF.ok.top
          have hd7 : (1000 + (ws2.length : Int) == 1000 + (ws2.length : Int)) = true := by simp
          generalize (1000 + (ws2.length : Int)) = TP at *
          clear cO cC ea es hch hlt ht
          go_wp2_with fail
          refine cT.mono ?_
          rintro e w5 ⟨rfl, hb5⟩
          have hB5 := Lib.hid hb5
          clear hb5 cT
          go_wp2_with fail
          refine (CO.out _ hB5.out).mono ?_
          rintro e w6 ⟨v6, rfl, hr6, hb6⟩
          have hB6 := Lib.hid (bchain hb6 hB5.out)
          have cI := ints_any (IntsV.of_row (by rw [adr_len]; exact hr6)) (iv.below hB6.out)
          simp only [decide_true] at cI
          clear hb6 hr6
          go_wp2_with fail
          refine cI.mono ?_
          rintro e w7 ⟨rfl, hb7⟩
          have hB7 := Lib.hid (bchain hb7 hB6.out)
          clear hb7 cI
          go_wp2_with fail
          refine (CC.out _ hB7.out).mono ?_
          rintro e w8 ⟨rfl, hb8⟩
          have hF8 := hF.below (bchain hb8 hB7.out)
          have hbr8 := bchain (bchain hb8 hB7.out) hbr
          clear hb8 hB5 hB6 hB7 CO CC hF hbr iv
          obtain ⟨wo, hwo⟩ : ∃ W, W = w8 := ⟨_, rfl⟩
          subst hwo
          go_wp2_with fail
          clear wr
          go_loopw [15] (fun i wz => ∃ t : Nat, t ≤ ks.length ∧ i = .int .i64 t ∧ FillIn w.heap.size N B (.slice a6 ks.length c6) (.slice a7 ks.length c7) ks ws2 g2 wz ∧ Below w.heap.size w wz) (fun i _ => ks.length - natOf i)
          case atStart => exact ⟨0, Nat.zero_le _, rfl, hF8, hbr8⟩
          case round =>
            clear hF8 hbr8
            obtain ⟨t, ht, rfl, hF, hbr⟩ := hrel
            by_cases hlt : t < ks.length
            · obtain ⟨o, ho⟩ : ∃ o, ks[t]? = some o := ⟨_, List.getElem?_eq_getElem hlt⟩
              obtain ⟨G6, _, e6, _, hG6, _, _, q6⟩ := row_openS hF.rp (by omega)
              cases e6
              obtain ⟨G7, _, e7, _, hG7, _, _, q7⟩ := row_openS hF.rq (by omega)
              cases e7
              obtain ⟨kd, k, c, f, m, s, oa, ou⟩ := o
              have hat := q6 t _ (by rw [List.getElem?_map, adr_get 1000 ho]; rfl)
              have kA : wr.cell? ⟨G7, (t * 8 + 1), none⟩ = some (.int .i64 k) := q7 (t * 8 + 1) _ (flatO_get ks t 1 _ ho (by omega))
              have kB : wr.cell? ⟨G7, (t * 8 + 1 + 1), none⟩ = some (.int .i64 c) := q7 (t * 8 + 1 + 1) _ (flatO_get ks t 2 _ ho (by omega))
              have kC : wr.cell? ⟨G7, (t * 8 + 1 + 2), none⟩ = some (.int .i64 f) := q7 (t * 8 + 1 + 2) _ (flatO_get ks t 3 _ ho (by omega))
              have kD : wr.cell? ⟨G7, (t * 8 + 4), none⟩ = some (.int .i64 m) := q7 (t * 8 + 4) _ (flatO_get ks t 4 _ ho (by omega))
              have kE : wr.cell? ⟨G7, (t * 8 + 4 + 1), none⟩ = some (.int .i64 s) := q7 (t * 8 + 4 + 1) _ (flatO_get ks t 5 _ ho (by omega))
              have hok := (made_get ks 0 t _ hF.md ho).1
              obtain ⟨f1, f2, f3, f4⟩ := walk_load hF.md ho
              obtain ⟨ok1, ok2⟩ : hvB k c f = true ∧ idB m s = true := hok
              have htl := tot_mono ks (show t ≤ ks.length by omega)
              rw [List.take_length, tot_all hF.md] at htl
              have htop := hF.ok.top
              simp only at f1 f2 f3 f4
              generalize tot (ks.take t) = T0 at *
              have hL := fun (W : World) (H : Below wr.heap.size wr W) => load_any (hF.sp.below H) hF.ok (1000 + (T0 : Int))
              have hM := fun (W : World) (H : Below wr.heap.size wr W) => load_any (hF.sp.below H) hF.ok (1000 + (T0 : Int) + 1)
              rw [f1, f2] at hL
              rw [f3, f4] at hM
              have b1 := encI_bd ok1
              have b2 := idI_bd ok2
              have hD := fun W => rdecode_yes (encI k c f) (U64.of (by omega) (by omega)) (decB_enc ok1) W
              have hI := fun W => rdecodeID_yes (idI m s) (U64.of (by omega) (by omega)) (by unfold didB; rw [(did_id ok2).1, (did_id ok2).2]; exact ok2) W
              rw [(dec_enc ok1).1, (dec_enc ok1).2.1, (dec_enc ok1).2.2] at hD
              rw [(did_id ok2).1, (did_id ok2).2] at hI
              have HLd := Lib.hid hL
              have HM := Lib.hid hM
              have s1 : ((t : Int)).toNat = t := by omega
              have sw3 : IntKind.i64.wrap (1000 + (T0 : Int) + 1) = 1000 + (T0 : Int) + 1 := IntWalk.i64_in _ (by omega)
              have hz6 : G6 < wr.heap.size := hG6
              clear hL hM f1 f2 f3 f4 b1 b2 ok1 ok2 ho q6 q7 hG6
              generalize encI k c f = e1 at *
              generalize idI m s = e2 at *
              go_wp2_with fail
              refine (HLd.out _ (Below.refl _ _)).mono ?_
              rintro e w9 ⟨rfl, hb9⟩
              have hB9 := Lib.hid hb9
              have hat := bcellv hb9 hat
              clear hb9
              go_wp2_with fail
              refine (HM.out _ hB9.out).mono ?_
              rintro e w10 ⟨rfl, hb10⟩
              have hB10 := Lib.hid (bchain hb10 hB9.out)
              clear hb10 hat
              go_wp2_with fail
              refine (hD _).mono ?_
              rintro e w11 ⟨rfl, hb11⟩
              have hB11 := Lib.hid (bchain hb11 hB10.out)
              clear hb11 hD HLd HM hB9 hB10
              go_wp2_with fail
              have hBa := balloc hB11.out (.cells #[.int .i64 k, .int .i64 c, .int .i64 f] 29)
              have kv := alloc_get w11 (.cells #[.int .i64 k, .int .i64 c, .int .i64 f] 29 (0, 0))
              obtain ⟨V, hV⟩ : ∃ V, w11.heap.size = V := ⟨_, rfl⟩
              obtain ⟨wa, hwa⟩ : ∃ W, w11.alloc (.cells #[.int .i64 k, .int .i64 c, .int .i64 f] 29) = W := ⟨_, rfl⟩
              rw [hwa] at hBa kv ⊢
              rw [hV] at kv ⊢
              have hBA := Lib.hid hBa
              have v0 : wa.cell? ⟨V, 0, none⟩ = some (.int .i64 k) := by rw [cell_of_block kv]; rfl
              have v1 : wa.cell? ⟨V, 1, none⟩ = some (.int .i64 c) := by rw [cell_of_block kv]; rfl
              have v2 : wa.cell? ⟨V, 2, none⟩ = some (.int .i64 f) := by rw [cell_of_block kv]; rfl
              have kA := bcellv hBa kA
              have kB := bcellv hBa kB
              have kC := bcellv hBa kC
              have kD := bcellv hBa kD
              have kE := bcellv hBa kE
              clear hwa hV kv hBa hB11
              go_wp2_with fail
              go_region_held3 (fun w' => w'.cell? ⟨V, 0, none⟩ = some (.int .i64 k) ∧ w'.cell? ⟨V, 1, none⟩ = some (.int .i64 c) ∧ w'.cell? ⟨V, 2, none⟩ = some (.int .i64 f) ∧ w'.cell? ⟨G7, (t * 8 + 1), none⟩ = some (.int .i64 k) ∧ w'.cell? ⟨G7, (t * 8 + 1 + 1), none⟩ = some (.int .i64 c) ∧ w'.cell? ⟨G7, (t * 8 + 1 + 2), none⟩ = some (.int .i64 f) ∧ w'.cell? ⟨G7, (t * 8 + 4), none⟩ = some (.int .i64 m) ∧ w'.cell? ⟨G7, (t * 8 + 4 + 1), none⟩ = some (.int .i64 s)) (first | (with_reducible exact ⟨v0, v1, v2, kA, kB, kC, kD, kE⟩) | go_keep) (first
                | (go_at_call 25; refine (hI _).mono ?_; rintro e w12 ⟨rfl, hb12⟩; have HB12 := Lib.hid (bchain hb12 (HBd hBA.out)); have v0 := bcellv hb12 (show wa.drew.cell? _ = _ from v0); have v1 := bcellv hb12 (show wa.drew.cell? _ = _ from v1); have v2 := bcellv hb12 (show wa.drew.cell? _ = _ from v2); have kA := bcellv hb12 (show wa.drew.cell? _ = _ from kA); have kB := bcellv hb12 (show wa.drew.cell? _ = _ from kB); have kC := bcellv hb12 (show wa.drew.cell? _ = _ from kC); have kD := bcellv hb12 (show wa.drew.cell? _ = _ from kD); have kE := bcellv hb12 (show wa.drew.cell? _ = _ from kE); clear hb12))
              all_goals go_wp2
              all_goals go_roundw
              case rel => exact ⟨t + 1, by omega, by go_num, hF.below HB12.out, bchain HB12.out hbr⟩
              case measure => simp [natOf]; omega
            · go_wp2
              go_ret
              exact ⟨rfl, hbr⟩
end Go.Proofs.Ytafailcjdkmdhaa
