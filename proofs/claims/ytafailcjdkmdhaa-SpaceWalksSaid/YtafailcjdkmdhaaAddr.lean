/-
  The statement SpaceAddresses: the walk.
-/
import Derived.Test.YtafailcjdkmdhaaPair
namespace Go.Proofs.Ytafailcjdkmdhaa
open Go.RowKit
set_option linter.unusedSimpArgs false
set_option linter.unusedVariables false

theorem newLm_big {bs L : Int} (h0 : 0 ≤ bs) (h1 : bs ≤ L) (hL : L ≤ 1099511627776) : max bs 0 = bs ∧ bs ≤ newLm bs L ∧ newLm bs L ≤ 1099511627776 := by
  unfold newLm
  omega
theorem newLm_ok {bs L : Int} (h0 : 0 ≤ bs) (h1 : bs ≤ L) (hL : L ≤ 1099511627776) : SpOk bs (newLm bs L) [] := by
  obtain ⟨_, a, b⟩ := newLm_big h0 h1 hL
  exact ⟨h0, by simpa using a, b, by simp⟩
theorem spNew (w : World) (bs lm : Int) : SpAt (w.alloc (.cells #[.int .i64 bs, .int .i64 lm, .slice none 0 0] 71)) w.heap.size bs lm [] none := sp_new w bs lm
/-- An operation that lies among those that came in. -/
theorem Ops6.get {w : World} {a : Option Addr} {l : List Op6} (h : Ops6 w a l) {t : Nat} (ht : t < l.length) : ∃ (b off : Nat) (o : Op6), a = some ⟨b, off, none⟩ ∧ l[t]? = some o ∧ b < w.heap.size ∧ U64 o.u ∧
    w.cell? ⟨b, off + t * 8, none⟩ = some (.int .u8 o.kd) ∧ w.cell? ⟨b, off + t * 8 + 1, none⟩ = some (.int .i64 o.k) ∧ w.cell? ⟨b, off + t * 8 + 2, none⟩ = some (.int .i64 o.c) ∧ w.cell? ⟨b, off + t * 8 + 3, none⟩ = some (.int .i64 o.f) ∧
    w.cell? ⟨b, off + t * 8 + 4, none⟩ = some (.int .i64 o.m) ∧ w.cell? ⟨b, off + t * 8 + 5, none⟩ = some (.int .i64 o.s) ∧ w.cell? ⟨b, off + t * 8 + 6, none⟩ = some (.int .i64 o.a) ∧ w.cell? ⟨b, off + t * 8 + 7, none⟩ = some (.int .u64 o.u) := by
  obtain ⟨o, ho⟩ : ∃ o, l[t]? = some o := ⟨_, List.getElem?_eq_getElem ht⟩
  rcases h with h | ⟨b, off, ha, hb, h⟩
  · rw [h] at ht; simp at ht
  · obtain ⟨h0, h1, h2, h3, h4, h5, h6, h7, h8⟩ := h t o ho
    exact ⟨b, off, o, ha, ho, hb, h8, h0, h1, h2, h3, h4, h5, h6, h7⟩
theorem io_out {bs : Int} {ws : List Int} {x : Int} (h : inB bs ws.length x = false) : ioE bs ws x = 2 ∧ ldW bs ws x = 0 := by
  unfold ioE ldW
  rw [h]
  exact ⟨rfl, rfl⟩
theorem st_out {bs : Int} {ws : List Int} {x u : Int} (h : inB bs ws.length x = false) : stW bs ws x u = ws := by unfold stW; rw [h]; rfl
theorem st_ld {bs : Int} {ws : List Int} {x u : Int} (h : inB bs ws.length x = true) : ldW bs (stW bs ws x u) x = u ∧ ioE bs (stW bs ws x u) x = 0 := by
  obtain ⟨h0, h1⟩ := inB_iff.1 h
  unfold ioE ldW
  rw [stLen, h, if_pos rfl, if_pos rfl]
  refine ⟨?_, rfl⟩
  unfold stW
  rw [h, if_pos rfl, List.getD_eq_getElem?_getD, List.getElem?_set_self (by omega)]
  rfl

set_option maxRecDepth 100000 in
set_option maxHeartbeats 4000000 in
theorem addr_walk (bs : Int) (a : Option Addr) (l : List Op6) (cap : Nat) (x u : Int) (hu : U64 u) (hcap : l.length ≤ cap) (hc63 : cap ≤ 9223372036854775807) (w : World) (hl : Ops6 w a l) :
    Calls Try.prog 4 #[.int .i64 bs, .slice a l.length cap, .int .i64 x, .int .u64 u] w fun e w' => e = .returned (.bool true) ∧ Below w.heap.size w w' := by
  have h1 := fun W => wide_any a l.length cap (by omega) W
  by_cases hout : 30 < l.length ∨ bs < 0 ∨ 8589934592 < bs
  · clear hl
    generalize l.length = n at *
    cases hd : decide (30 < n)
    · rw [hd] at h1
      by_cases hb0 : bs < 0
      · clear hout hd
        go_enter Try.func4, Try.ntmps4
        go_wp2_with (first | (go_at_call 9; refine (awake6 _).mono ?_; rintro e wz ⟨rfl, hz⟩) | (go_at_call 10; refine (h1 _).mono ?_; rintro e wz ⟨rfl, hz⟩))
        go_ret
        exact ⟨rfl, by (repeat (first | exact Below.refl _ _ | assumption | refine Below.drew ?_ | refine below_drewN ?_ _ | refine balloc ?_ _ | refine Below.setCell ?_ (by first | (simp; done) | (simp; omega) | omega) _ | refine bchain (by assumption) ?_))⟩
      · have hb1 : 8589934592 < bs := by
          have : ¬ 30 < n := by simpa using hd
          omega
        clear hout hd
        go_enter Try.func4, Try.ntmps4
        go_wp2_with (first | (go_at_call 9; refine (awake6 _).mono ?_; rintro e wz ⟨rfl, hz⟩) | (go_at_call 10; refine (h1 _).mono ?_; rintro e wz ⟨rfl, hz⟩))
        go_ret
        exact ⟨rfl, by (repeat (first | exact Below.refl _ _ | assumption | refine Below.drew ?_ | refine below_drewN ?_ _ | refine balloc ?_ _ | refine Below.setCell ?_ (by first | (simp; done) | (simp; omega) | omega) _ | refine bchain (by assumption) ?_))⟩
    · rw [hd] at h1
      clear hout hd
      go_enter Try.func4, Try.ntmps4
      go_wp2_with (first | (go_at_call 9; refine (awake6 _).mono ?_; rintro e wz ⟨rfl, hz⟩) | (go_at_call 10; refine (h1 _).mono ?_; rintro e wz ⟨rfl, hz⟩))
      go_ret
      exact ⟨rfl, by (repeat (first | exact Below.refl _ _ | assumption | refine Below.drew ?_ | refine below_drewN ?_ _ | refine balloc ?_ _ | refine Below.setCell ?_ (by first | (simp; done) | (simp; omega) | omega) _ | refine bchain (by assumption) ?_))⟩
  have hd : decide (30 < l.length) = false := by simp; omega
  rw [hd] at h1
  have hb0 : 0 ≤ bs := by omega
  have hb1 : bs ≤ 8589934592 := by omega
  have hn : l.length ≤ 30 := by omega
  obtain ⟨lm, hlm⟩ : ∃ lm, newLm bs 17179869184 = lm := ⟨_, rfl⟩
  have n1 := fun W => new_any bs 17179869184 W
  have n2 := fun W => rnew_any bs 17179869184 W
  have hk0 := newLm_ok hb0 (show bs ≤ 17179869184 by omega) (by omega)
  rw [(newLm_big hb0 (show bs ≤ 17179869184 by omega) (by omega)).1, hlm] at n1 n2
  rw [hlm] at hk0
  clear hout hd hlm
  go_enter Try.func4, Try.ntmps4
  go_wp2_with fail
  refine (awake6 _).mono ?_
  rintro e w1 ⟨rfl, hb1'⟩
  go_wp2_with fail
  refine (h1 _).mono ?_
  rintro e w2 ⟨rfl, hb2'⟩
  go_wp2_with fail
  refine (n1 _).mono ?_
  rintro e w3 ⟨rfl, hw3⟩
  have hs3 := spNew w2 bs lm
  rw [hw3] at hs3
  have hb3' : Below w2.heap.size w2 w3 := by rw [← hw3]; exact balloc (Below.refl _ _) _
  go_wp2_with fail
  refine (n2 _).mono ?_
  rintro e w4 ⟨⟨v4, rfl, hm4⟩, hb4'⟩
  obtain ⟨A4, cap4, rfl, hr4⟩ := hm4
  have hm4 : MdAt w4 (.agg #[.int .i64 bs, .int .i64 lm, .slice A4 0 cap4]) bs lm [] none := ⟨A4, cap4, rfl, hr4⟩
  have hs4 := hs3.below hb4'
  have hbw4 : Below w.heap.size w w4 := by (repeat (first | exact Below.refl _ _ | assumption | refine Below.drew ?_ | refine below_drewN ?_ _ | refine balloc ?_ _ | refine Below.setCell ?_ (by first | (simp; done) | (simp; omega) | omega) _ | refine bchain (by assumption) ?_))
  have hw2 : w.heap.size ≤ w2.heap.size := (by (repeat (first | exact Below.refl _ _ | assumption | refine Below.drew ?_ | refine below_drewN ?_ _ | refine balloc ?_ _ | refine Below.setCell ?_ (by first | (simp; done) | (simp; omega) | omega) _ | refine bchain (by assumption) ?_)) : Below w.heap.size w w2).size
  have hlt4 : w2.heap.size < w4.heap.size := hs4.lt
  have hP : PairIn w.heap.size w4.heap.size w2.heap.size (w4.alloc (.cells #[.int .i64 bs, .int .i64 lm, .slice A4 0 cap4] 43)) A4 0 cap4 bs lm [] none none :=
    ⟨rfl, ⟨hs4.below (balloc (Below.refl _ _) _), hm4.below (balloc (Below.refl _ _) _), hk0, fun G e => by cases e⟩, alloc_get _ _, fun G e => (by cases e), fun G e => (by cases e), hw2, by omega, by omega⟩
  have hbw5 : Below w.heap.size w (w4.alloc (.cells #[.int .i64 bs, .int .i64 lm, .slice A4 0 cap4] 43)) := balloc hbw4 _
  clear hw3 n1 n2 h1 hb3' hb2' hb1' hb4' hs3 hs4 hm4 hr4 hk0 hbw4
  simp only [List.length_nil]
  generalize w2.heap.size = B at *
  go_wp2_with fail
  generalize w4.heap.size = T at *
  go_loopw [11] (fun i wr => ∃ (t : Nat) (A : Option Addr) (n cp : Nat) (ws : List Int) (g gm : Option Nat), t ≤ l.length ∧ i = .int .i64 t ∧ PairIn w.heap.size T B wr A n cp bs lm ws g gm ∧ Below w.heap.size w wr) (fun i _ => l.length - natOf i)
  case atStart => exact ⟨0, _, _, _, _, _, _, Nat.zero_le _, rfl, hP, hbw5⟩
  case round =>
    obtain ⟨t, A, n, cp, ws, g, gm, ht, rfl, hP, hbr⟩ := hrel
    clear hbw5
    by_cases hlt : t < l.length
    · obtain ⟨b, off, o, rfl, ho, hbl, hou, c0, c1, c2, c3, c4, c5, c6, c7⟩ := (hl.below (B := 0) hbr).get hlt
      obtain ⟨kd, k, c, f, m, s, oa, ou⟩ := o
      simp only at hou c0 c1 c2 c3 c4 c5 c6 c7
      obtain ⟨t0, t1, t2, t3⟩ := hP.cells
      have hst := step_in hP.drew kd k c f m s oa ou hou
      have s1 : ((t : Int)).toNat = t := by omega
      clear ho hl
      go_wp2_with fail
      go_region_with (first | (go_at_call 17; refine hst.mono ?_; rintro e w6 ⟨A', n', cap', ws', g', gm', rfl, hm6, hP6, hM6, hg6, hgm6⟩; have tb := mblock hm6 (show wr.drew.heap[T]? = _ from hP.box) hP.nT; have u0 : w6.cell? ⟨T, 0, none⟩ = some (.int .i64 bs) := (by rw [cell_of_block tb]; rfl); have u1 : w6.cell? ⟨T, 1, none⟩ = some (.int .i64 lm) := (by rw [cell_of_block tb]; rfl); have u2 : w6.cell? ⟨T, 2, none⟩ = some (.slice A n cp) := (by rw [cell_of_block tb]; rfl); have u3 : ∀ i, w6.frozen? ⟨T, i, none⟩ = false := frozen_of_block tb; clear t0 t1 t2 t3 tb hm6))
      all_goals
        have hbn : Below w.heap.size w (((w6.setCell ⟨T, 0, none⟩ (.int .i64 bs)).setCell ⟨T, 1, none⟩ (.int .i64 lm)).setCell ⟨T, 2, none⟩ (.slice A' n' cap')) := (hbr.drew).trans (hM6.below hbr.size (TS_ge hP.hT hP.hB (fun G e => (hP.gT G e).1)))
        clear u0 u1 u2 u3 hM6 hst c0 c1 c2 c3 c4 c5 c6 c7
        go_wp2
        go_roundw
        case rel => exact ⟨t + 1, A', n', cap', ws', g', gm', by omega, by go_num, hP6, hbn⟩
        case measure => simp [natOf]; omega
    · have hs := hP.pair.sp
      have hk := hP.pair.ok
      have hk2 := stOk hk x hu
      have cT := fun (W : World) (H : SpAt W B bs lm ws g) => top_any H hk
      have cL := fun (W : World) (H : SpAt W B bs lm ws g) => load_any H hk x
      have cC := fun (W : World) (H : SpAt W B bs lm ws g) => contains_any H hk x
      have cS := fun (W : World) (H : SpAt W B bs lm ws g) => store_any H hk x u
      have cM := fun (g' : Option Nat) (W : World) (H : SpAt W B bs lm (stW bs ws x u) g') => load_any H hk2 x
      have hgB : ∀ G, g = some G → w.heap.size ≤ G := fun G e => (hP.gT G e).1
      have hBB := hP.hB
      have hq0 := hk.top
      have hq1 := hk.lm1
      have hfin : ∀ (W W' : World) (g' : Option Nat), Below w.heap.size w W → Mods (SpS B g) W W' → Below w.heap.size w W' := fun W W' g' hb hm => hb.trans (hm.below hb.size (sps_ge hBB hgB))
      cases hi : inB bs ws.length x
      · obtain ⟨f1, f2⟩ := io_out hi
        rw [st_out hi] at cS cM
        rw [f1, f2] at cL cM
        rw [f1] at cS
        rw [hi] at cC
        have hno : ¬ (bs ≤ x ∧ x < bs + ws.length) := fun h => by rw [inB_iff.2 h] at hi; cases hi
        clear hP hl hk hk2 f1 f2 hi
        obtain ⟨ws', rfl⟩ : ∃ ws', ws = ws' := ⟨_, rfl⟩
        generalize hN : ws.length = N at *
        have HN := Lib.hid hN
        clear hN
        by_cases ha : bs ≤ x
        · have hb : ¬ x < bs + (N : Int) := fun h => hno ⟨ha, h⟩
          clear hno
          go_wp2_with fail
          refine (cT _ hs).mono ?_
          rintro e x1 ⟨rfl, hx1⟩
          have hs := hs.below hx1
          go_wp2_with fail
          refine (cL _ hs).mono ?_
          rintro e x2 ⟨rfl, hx2⟩
          have hs := hs.below hx2
          go_wp2_with fail
          refine (cC _ hs).mono ?_
          rintro e x3 ⟨rfl, hx3⟩
          have hs := hs.below hx3
          go_wp2_with fail
          refine (cS _ hs).mono ?_
          rintro e x4 ⟨rfl, g4, hs4, hm4, _⟩
          have hbx : Below w.heap.size w x3 := by (repeat (first | exact Below.refl _ _ | assumption | refine Below.drew ?_ | refine below_drewN ?_ _ | refine balloc ?_ _ | refine Below.setCell ?_ (by first | (simp; done) | (simp; omega) | omega) _ | refine bchain (by assumption) ?_))
          have hbx4 := hfin _ _ g4 hbx hm4
          go_wp2_with fail
          refine (cM _ _ hs4).mono ?_
          rintro e x5 ⟨rfl, hx5⟩
          go_wp2
          go_ret
          exact ⟨rfl, bchain hx5 hbx4⟩
        · clear hno
          go_wp2_with fail
          refine (cL _ hs).mono ?_
          rintro e x2 ⟨rfl, hx2⟩
          have hs := hs.below hx2
          go_wp2_with fail
          refine (cC _ hs).mono ?_
          rintro e x3 ⟨rfl, hx3⟩
          have hs := hs.below hx3
          go_wp2_with fail
          refine (cS _ hs).mono ?_
          rintro e x4 ⟨rfl, g4, hs4, hm4, _⟩
          have hbx : Below w.heap.size w x3 := by (repeat (first | exact Below.refl _ _ | assumption | refine Below.drew ?_ | refine below_drewN ?_ _ | refine balloc ?_ _ | refine Below.setCell ?_ (by first | (simp; done) | (simp; omega) | omega) _ | refine bchain (by assumption) ?_))
          have hbx4 := hfin _ _ g4 hbx hm4
          go_wp2_with fail
          refine (cM _ _ hs4).mono ?_
          rintro e x5 ⟨rfl, hx5⟩
          go_wp2
          go_ret
          exact ⟨rfl, bchain hx5 hbx4⟩
      · have f1 : ioE bs ws x = 0 := by unfold ioE; rw [hi]; rfl
        obtain ⟨f2, f3⟩ := st_ld (u := u) hi
        rw [f2, f3] at cM
        rw [f1] at cL cS
        rw [hi] at cC
        obtain ⟨ha, hb⟩ := inB_iff.1 hi
        clear hP hl hk hk2 f1 f2 f3 hi
        generalize stW bs ws x u = ws2 at *
        generalize ldW bs ws x = lv at *
        generalize hN : ws.length = N at *
        have HN := Lib.hid hN
        clear hN
        go_wp2_with fail
        refine (cT _ hs).mono ?_
        rintro e x1 ⟨rfl, hx1⟩
        have hs := hs.below hx1
        go_wp2_with fail
        refine (cL _ hs).mono ?_
        rintro e x2 ⟨rfl, hx2⟩
        have hs := hs.below hx2
        go_wp2_with fail
        refine (cC _ hs).mono ?_
        rintro e x3 ⟨rfl, hx3⟩
        have hs := hs.below hx3
        go_wp2_with fail
        refine (cS _ hs).mono ?_
        rintro e x4 ⟨rfl, g4, hs4, hm4, _⟩
        have hbx : Below w.heap.size w x3 := by (repeat (first | exact Below.refl _ _ | assumption | refine Below.drew ?_ | refine below_drewN ?_ _ | refine balloc ?_ _ | refine Below.setCell ?_ (by first | (simp; done) | (simp; omega) | omega) _ | refine bchain (by assumption) ?_))
        have hbx4 := hfin _ _ g4 hbx hm4
        go_wp2_with fail
        refine (cM _ _ hs4).mono ?_
        rintro e x5 ⟨rfl, hx5⟩
        go_wp2
        go_ret
        exact ⟨rfl, bchain hx5 hbx4⟩
end Go.Proofs.Ytafailcjdkmdhaa
