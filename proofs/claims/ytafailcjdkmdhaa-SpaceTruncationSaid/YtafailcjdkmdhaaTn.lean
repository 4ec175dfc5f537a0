/-
  The statement SpaceTruncation: the walk.
-/
import Derived.Test.YtafailcjdkmdhaaPl
import Derived.Test.YtafailcjdkmdhaaInts
import Derived.Test.YtafailcjdkmdhaaLim
namespace Go.Proofs.Ytafailcjdkmdhaa
open Go.RowKit
set_option linter.unusedSimpArgs false
set_option linter.unusedVariables false

/-- Alloc, where an object of whatever size has room. -/
def StepOk (w : World) (b : Nat) (bs lm : Int) (ws : List Int) (g : Option Nat) (k c f m s : Int) (e : Ending) (w' : World) : Prop :=
  ∃ (ws' : List Int) (g' : Option Nat), ((hvB k c f && idB m s) = true ∧ e = .returned (.tuple #[.int .i64 (bs + ws.length), .int .i64 0]) ∧ ws' = ws ++ newObj k c f m s ∨ (hvB k c f && idB m s) = false ∧ e = .returned (.tuple #[.int .i64 0, .int .i64 1]) ∧ ws' = ws) ∧
    SpAt w' b bs lm ws' g' ∧ SpOk bs lm ws' ∧ (Sound ws → Sound ws') ∧ ws'.length ≤ ws.length + 32 ∧ Mods (SpS b g) w w' ∧ ∀ G, g' = some G → g = some G ∨ w.heap.size ≤ G
theorem alloc_step {w : World} {b : Nat} {bs lm : Int} {ws : List Int} {g : Option Nat} (hs : SpAt w b bs lm ws g) (hk : SpOk bs lm ws) (hroom : bs + ws.length + 32 ≤ lm) (k c f m s : Int) :
    Calls Try.prog 15 #[.pointer (some ⟨b, 0, none⟩), .agg #[.int .i64 k, .int .i64 c, .int .i64 f], .agg #[.int .i64 m, .int .i64 s]] w (StepOk w b bs lm ws g k c f m s) := by
  cases h : hvB k c f
  · refine (alloc_badH b k c f m s h w).mono ?_
    rintro e w' ⟨rfl, hb⟩
    exact ⟨ws, g, .inr ⟨by rw [h]; rfl, rfl, rfl⟩, hs.below hb, hk, fun h => h, by omega, Mods.of_below hb, fun G h => .inl h⟩
  · cases hi : idB m s
    · refine (alloc_badI b k c f m s h hi w).mono ?_
      rintro e w' ⟨rfl, hb⟩
      exact ⟨ws, g, .inr ⟨by rw [h, hi]; rfl, rfl, rfl⟩, hs.below hb, hk, fun h => h, by omega, Mods.of_below hb, fun G h => .inl h⟩
    · have hw := wordsI_bd h
      refine (alloc_ok hs hk k c f m s h hi (by omega)).mono ?_
      rintro e w' ⟨rfl, g', hs', hm, hg⟩
      refine ⟨_, g', .inl ⟨by rw [h, hi]; rfl, rfl, rfl⟩, hs', hk.grow h hi (by omega), fun hsd => (sound_alloc h hi hsd).1, ?_, hm, hg⟩
      have := newObj_len (m := m) (s := s) h
      rw [List.length_append]
      omega
theorem StepOk.ret {w : World} {b : Nat} {bs lm : Int} {ws : List Int} {g : Option Nat} {k c f m s : Int} {e : Ending} {w' : World} (h : StepOk w b bs lm ws g k c f m s e w') :
    ∃ (v : Value) (ws' : List Int) (g' : Option Nat), e = .returned v ∧ SpAt w' b bs lm ws' g' ∧ SpOk bs lm ws' ∧ (Sound ws → Sound ws') ∧ ws'.length ≤ ws.length + 32 ∧ Mods (SpS b g) w w' ∧ ∀ G, g' = some G → g = some G ∨ w.heap.size ≤ G := by
  obtain ⟨ws', g', h1, h2⟩ := h
  rcases h1 with ⟨_, rfl, _⟩ | ⟨_, rfl, _⟩
  · exact ⟨_, ws', g', rfl, h2⟩
  · exact ⟨_, ws', g', rfl, h2⟩

theorem row_below {A B : World} {N : Nat} {e : TypeId} {sz : Nat} {v : Value} {n : Nat} {xs : List Value} (h : A.ownsRow N e sz v n xs) (hb : Below A.heap.size A B) : B.ownsRow N e sz v n xs := by
  refine h.kept (grown_of hb) ?_
  cases hvb : v.ownBlock with
  | none => exact .inl rfl
  | some x => exact .inr (by simp)
theorem ints_same {w : World} {v1 v2 : Value} {xs : List Int} (h1 : IntsV w v1 xs) (h2 : IntsV w v2 xs) :
    Calls Try.prog 21 #[v1, v2] w fun e w' => e = .returned (.bool true) ∧ Below w.heap.size w w' := by
  refine (ints_any h1 h2).mono ?_
  rintro e w' ⟨rfl, hb⟩
  exact ⟨by simp, hb⟩
theorem check_sound {w : World} {b : Nat} {bs lm : Int} {ws : List Int} {g : Option Nat} (h : SpAt w b bs lm ws g) (hk : SpOk bs lm ws) (hs : Sound ws) :
    Calls Try.prog 23 #[.pointer (some ⟨b, 0, none⟩)] w fun e w' => e = .returned (.int .i64 0) ∧ Below w.heap.size w w' := by
  have := check_any h hk
  unfold chkI at this
  rw [if_pos (show stopAt ws 0 = ws.length from hs)] at this
  exact this
theorem trunc_ok {w : World} {b : Nat} {bs lm : Int} {ws : List Int} {g : Option Nat} (h : SpAt w b bs lm ws g) (hk : SpOk bs lm ws) {t : Nat} (ht : okT bs ws (bs + t)) :
    Calls Try.prog 29 #[.pointer (some ⟨b, 0, none⟩), .int .i64 (bs + t)] w fun e w' => e = .returned (.int .i64 0) ∧ SpAt w' b bs lm (ws.take t) g ∧ Mods (fun k => k = b) w w' := by
  refine (trunc_any h hk (bs + t)).mono ?_
  rintro e w' (⟨_, he, h1, h2⟩ | ⟨hn, _⟩)
  · rw [show (bs + (t : Int) - bs).toNat = t by omega] at h1
    exact ⟨he, h1, h2⟩
  · exact absurd ht hn
theorem SpOk.take {bs lm : Int} {ws : List Int} (hk : SpOk bs lm ws) (t : Nat) : SpOk bs lm (ws.take t) := by
  obtain ⟨b0, b1, b2, b3⟩ := hk
  refine ⟨b0, ?_, b2, fun x hx => b3 x (List.mem_of_mem_take hx)⟩
  rw [List.length_take]
  omega
theorem IntsV.mods {S : Nat → Prop} {w w' : World} {G n cap : Nat} {xs : List Int} (h : IntsV w (.slice (some ⟨G, 0, none⟩) n cap) xs) (hm : Mods S w w') (hG : ¬ S G) : IntsV w' (.slice (some ⟨G, 0, none⟩) n cap) xs := by
  obtain ⟨a, cap', hv, h1, h2, h3⟩ := h
  refine ⟨a, cap', hv, h1, h2, ?_⟩
  rcases h3 with h3 | ⟨b, off, ha, h3⟩
  · exact .inl h3
  · refine .inr ⟨b, off, ha, fun i x hx => mcell hm (h3 i x hx) ?_⟩
    cases hv
    cases ha
    exact hG
theorem at_get {bs : Int} {ws : List Int} {k : Nat} (hk : k < (objs ws 0).length + 1) : (List.map (Value.int .i64) (objA bs ws) ++ [Value.int .i64 (bs + ws.length)])[k]? = some (.int .i64 (bs + (cutAt ws k : Nat))) := by
  have e : List.map (Value.int .i64) (objA bs ws) ++ [Value.int .i64 (bs + ws.length)] = (objs ws 0 ++ [ws.length]).map (fun j : Nat => Value.int .i64 (bs + (j : Int))) := by
    unfold objA
    simp [Function.comp_def]
  rw [e, List.getElem?_map]
  unfold cutAt
  rw [List.getD_eq_getElem?_getD, List.getElem?_eq_getElem (by simp; omega)]
  rfl
theorem at_pre {bs : Int} {ws : List Int} {k i : Nat} {x : Int} (hx : ((objA bs ws).take k)[i]? = some x) : (List.map (Value.int .i64) (objA bs ws) ++ [Value.int .i64 (bs + ws.length)])[i]? = some (.int .i64 x) := by
  have h1 := (List.getElem?_eq_some_iff.1 hx).1
  rw [List.length_take] at h1
  rw [List.getElem?_take_of_lt (by omega)] at hx
  rw [List.getElem?_append_left (by rw [List.length_map]; omega), List.getElem?_map, hx]
  rfl
/-- The two boxes of the arguments. -/
def Args (w : World) (p : Nat) (k c f m s : Int) : Prop :=
  w.cell? ⟨p, 0, none⟩ = some (.int .i64 k) ∧ w.cell? ⟨p, 1, none⟩ = some (.int .i64 c) ∧ w.cell? ⟨p, 2, none⟩ = some (.int .i64 f) ∧ w.cell? ⟨p + 1, 0, none⟩ = some (.int .i64 m) ∧ w.cell? ⟨p + 1, 1, none⟩ = some (.int .i64 s)
theorem Args.below {w w' : World} {p : Nat} {k c f m s : Int} (h : Args w p k c f m s) (hb : Below w.heap.size w w') : Args w' p k c f m s :=
  ⟨bcellv hb h.1, bcellv hb h.2.1, bcellv hb h.2.2.1, bcellv hb h.2.2.2.1, bcellv hb h.2.2.2.2⟩
theorem Args.mods {S : Nat → Prop} {w w' : World} {p : Nat} {k c f m s : Int} (h : Args w p k c f m s) (hb : Mods S w w') (h0 : ¬ S p) (h1 : ¬ S (p + 1)) : Args w' p k c f m s :=
  ⟨mcell hb h.1 h0, mcell hb h.2.1 h0, mcell hb h.2.2.1 h0, mcell hb h.2.2.2.1 h1, mcell hb h.2.2.2.2 h1⟩

theorem newObj_zero {ws : List Int} {k c f m s : Int} {i : Nat} (h2 : 2 ≤ i) (hi : (i : Int) < wordsI f) : (ws ++ newObj k c f m s).getD (ws.length + i) 0 = 0 := by
  obtain ⟨j, rfl⟩ : ∃ j, i = j + 2 := ⟨i - 2, by omega⟩
  rw [List.getD_eq_getElem?_getD, List.getElem?_append_right (by omega)]
  rw [show ws.length + (j + 2) - ws.length = j + 2 by omega]
  unfold newObj
  simp only [List.getElem?_cons_succ]
  rw [List.getElem?_replicate, if_pos (by omega)]
  rfl

set_option maxRecDepth 100000 in
set_option maxHeartbeats 2000000 in
theorem trunc_walk (a : Option Addr) (l : List Op6) (cap : Nat) (nn : Int) (hn0 : 0 ≤ nn) (hn1 : nn ≤ 255) (hK hC hF hM hS : Int) (hcap : l.length ≤ cap) (hc63 : cap ≤ 9223372036854775807) (w : World) (hl : Ops6 w a l) :
    Calls Try.prog 7 #[.slice a l.length cap, .int .u8 nn, .agg #[.int .i64 hK, .int .i64 hC, .int .i64 hF], .agg #[.int .i64 hM, .int .i64 hS]] w fun e w' => e = .returned (.bool true) ∧ Below w.heap.size w w' := by
  by_cases hw : 30 < l.length
  · have h1 := fun W => wide_any a l.length cap (by omega) W
    have hd : decide (30 < l.length) = true := by simpa using hw
    rw [hd] at h1
    clear hl hw hd
    generalize l.length = n at *
    go_enter Try.func7, Try.ntmps7
    go_wp2_with (first | (go_at_call 9; refine (awake6 _).mono ?_; rintro e wz ⟨rfl, hz⟩) | (go_at_call 10; refine (h1 _).mono ?_; rintro e wz ⟨rfl, hz⟩))
    go_ret
    exact ⟨rfl, by (repeat (first | exact Below.refl _ _ | assumption | refine Below.drew ?_ | refine below_drewN ?_ _ | refine balloc ?_ _ | refine Below.setCell ?_ (by first | (simp; done) | (simp; omega) | omega) _ | refine bchain (by assumption) ?_))⟩
  have h1 := fun W => wide_any a l.length cap (by omega) W
  have hn : l.length ≤ 30 := by omega
  have hd : decide (30 < l.length) = false := by simpa using hw
  rw [hd] at h1
  clear hw hd
  have n1 := fun W => new_any 7 100000 W
  rw [show max (7 : Int) 0 = 7 by decide, show newLm 7 100000 = 100000 by decide] at n1
  go_enter Try.func7, Try.ntmps7
  go_wp2_with fail
  refine (awake6 _).mono ?_
  rintro e w1 ⟨rfl, hb1⟩
  have A1 : Args w1 w.heap.size hK hC hF hM hS := ⟨bcellv hb1 (by simp [go_sem]), bcellv hb1 (by simp [go_sem]), bcellv hb1 (by simp [go_sem]), bcellv hb1 (by simp [go_sem]), bcellv hb1 (by simp [go_sem])⟩
  go_wp2_with fail
  refine (h1 _).mono ?_
  rintro e w2 ⟨rfl, hb2⟩
  have A2 := A1.below hb2
  go_wp2_with fail
  refine (n1 _).mono ?_
  rintro e w3 ⟨rfl, hw3⟩
  have hs3 := sp_new w2 7 100000
  rw [hw3] at hs3
  have hb3 : Below w2.heap.size w2 w3 := by rw [← hw3]; exact balloc (Below.refl _ _) _
  have A3 := A2.below hb3
  have hb : Below w.heap.size w w3 := by (repeat (first | exact Below.refl _ _ | assumption | refine Below.drew ?_ | refine below_drewN ?_ _ | refine balloc ?_ _ | refine Below.setCell ?_ (by first | (simp; done) | (simp; omega) | omega) _ | refine bchain (by assumption) ?_))
  have hB : w.heap.size + 2 ≤ w2.heap.size := by have := hb1.size; have := hb2.size; simp only [World.size_alloc] at *; omega
  have hk3 : SpOk 7 100000 [] := ⟨by omega, by simp, by omega, by simp⟩
  clear hw3 n1 h1 hb3 hb2 hb1 A1 A2
  generalize w2.heap.size = B at *
  go_wp2_with fail
  go_loopw [10] (fun i wr => ∃ (t : Nat) (ws : List Int) (g : Option Nat), t ≤ l.length ∧ i = .int .i64 t ∧ SpAt wr B 7 100000 ws g ∧ SpOk 7 100000 ws ∧ Sound ws ∧ ws.length ≤ 32 * t ∧ (∀ G, g = some G → w.heap.size + 2 ≤ G) ∧ Args wr w.heap.size hK hC hF hM hS ∧ Below w.heap.size w wr) (fun i _ => l.length - intOf i)
  case atStart => exact ⟨0, [], none, Nat.zero_le _, rfl, hs3, hk3, sound_nil, by simp, none_ge, A3, hb⟩
  case round =>
    obtain ⟨t, ws, g, ht, rfl, hs, hk, hsd, hlen, hg, hA, hbr⟩ := hrel
    clear hs3 hb hk3 A3
    have hroom : 7 + (ws.length : Int) + 32 ≤ 100000 := by omega
    by_cases hlt : t < l.length
    · have hl' := hl.below (B := 0) hbr
      obtain ⟨o, ho⟩ : ∃ o, l[t]? = some o := ⟨_, List.getElem?_eq_getElem hlt⟩
      have hl0 := hl
      rcases hl' with h0 | ⟨b, off, rfl, _, hc⟩
      · simp [h0] at hlt
      have hbw : b < w.heap.size := by
        rcases hl0 with h0 | ⟨b', off', e', hb', _⟩
        · simp [h0] at hlt
        · cases e'; exact hb'
      clear hl0
      obtain ⟨_, c1, c2, c3, c4, c5, _, _, _⟩ := hc t o ho
      clear hc ho hl
      obtain ⟨kd, k, c, f, m, s, oa, ou⟩ := o
      simp only at c1 c2 c3 c4 c5
      have ha1 := fun (W : World) (H : SpAt W B 7 100000 ws g) => alloc_step H hk hroom k c f m s
      have hs3 : SpAt wr.drew B 7 100000 ws g := hs
      have hA3 : Args wr.drew w.heap.size hK hC hF hM hS := hA
      have hbS : ¬ SpS B g b := not_sps (by omega) (fun G h => by have := hg G h; omega)
      have hbP : ¬ SpS B g w.heap.size := not_sps (by omega) (fun G h => by have := hg G h; omega)
      have hbQ : ¬ SpS B g (w.heap.size + 1) := not_sps (by omega) (fun G h => by have := hg G h; omega)
      go_wp2_with fail
      go_region_held3 (fun w' => w'.cell? ⟨b, off + t * 8 + 1, none⟩ = some (.int .i64 k) ∧ w'.cell? ⟨b, off + t * 8 + 1 + 1, none⟩ = some (.int .i64 c) ∧ w'.cell? ⟨b, off + t * 8 + 1 + 2, none⟩ = some (.int .i64 f) ∧ w'.cell? ⟨b, off + t * 8 + 4, none⟩ = some (.int .i64 m) ∧ w'.cell? ⟨b, off + t * 8 + 4 + 1, none⟩ = some (.int .i64 s)) (exact ⟨c1, c2, c3, c4, c5⟩) (first | (go_at_call 15; refine (ha1 _ hs3).mono ?_; intro e v3 hstep; obtain ⟨v, ws', g', rfl, hs4, hk4, hsd4, hlen4, hm4, hg4⟩ := hstep.ret; have hbv : Below w.heap.size w wr.drew := (by (repeat (first | exact Below.refl _ _ | assumption | refine Below.drew ?_ | refine below_drewN ?_ _ | refine balloc ?_ _ | refine Below.setCell ?_ (by first | (simp; done) | (simp; omega) | omega) _ | refine bchain (by assumption) ?_))); have hb4 : Below w.heap.size w v3 := hbv.trans (hm4.below hbv.size (sps_ge (by omega) (fun G h => by have := hg G h; omega))); have hG : ∀ G, g' = some G → w.heap.size + 2 ≤ G := later hg4 hg (by have := hbr.size; have := hs3.lt; omega); have hA4 := hA3.mods hm4 hbP hbQ; have c1 := mcell hm4 (show wr.drew.cell? _ = _ from c1) hbS; have c2 := mcell hm4 (show wr.drew.cell? _ = _ from c2) hbS; have c3 := mcell hm4 (show wr.drew.cell? _ = _ from c3) hbS; have c4 := mcell hm4 (show wr.drew.cell? _ = _ from c4) hbS; have c5 := mcell hm4 (show wr.drew.cell? _ = _ from c5) hbS))
      clear c1 c2 c3 c4 c5
      clear hs hs3 hA3
      go_wp2
      go_roundw
      case rel => exact ⟨t + 1, ws', g', by omega, by go_num, hs4, hk4, hsd4 hsd, by omega, hG, hA4, by (repeat (first | exact Below.refl _ _ | assumption | refine Below.drew ?_ | refine below_drewN ?_ _ | refine balloc ?_ _ | refine Below.setCell ?_ (by first | (simp; done) | (simp; omega) | omega) _ | refine bchain (by assumption) ?_))⟩
      case measure => simp [intOf]; omega
    · obtain ⟨i0, hi, hz0, hz1, hz2⟩ := info_parts int_info
      clear hl
      have htl : t = l.length := by omega
      have hq := objs_len (ws := ws) ws.length 0 (by omega) (by omega)
      have hml : maxLen = 9223372036854775807 := rfl
      have hxl : (objA 7 ws).length = (objs ws 0).length := by unfold objA; simp
      go_wp2_with fail
      refine (objects_any hs hk).mono ?_
      rintro e v1 ⟨vv, rfl, hrow, hb1⟩
      have hs1 := hs.below hb1
      have hA1 := hA.below hb1
      go_wp2_with fail
      refine (top_any hs1 hk).mono ?_
      rintro e v2 ⟨rfl, hb2⟩
      have hs2 := hs1.below hb2
      have hA2 := hA1.below hb2
      have hrow2 := row_below hrow hb2
      have hb12 : Below wr.heap.size wr v2 := hb1.trans (hb2.mono hb1.size)
      clear hs1 hA1 hrow
      go_wp2_with (at_builtin; refine wpList_append_own _ rfl _ _ 52 rfl wr.heap.size 3 i0 (.int .i64 0) 1 8 Try.underlying52 hi hz0 hz1 hz2 rfl (by decide) _ _ _ rfl (hrow2.alloc _) ⟨v2.heap.size, 0, none⟩ 1 1 [.int .i64 (7 + ws.length)] rfl rfl (cell_one_new _ _ _) (by simp [Value.oneCell']) (by omega) (by omega) (by have := hb12.size; simp; omega) ?_; intro v' w4 hown' hgrow _; obtain ⟨g', cap', rfl⟩ := ownsRow_succ hown')
      have hbg : Below wr.heap.size wr w4 := (hb12.alloc (Nat.le_trans hb12.size (Nat.le_refl _)) _).grown hgrow (by have := hb12.size; simp; omega) (fun k e => (hrow2.lt k e).1)
      have hs4 := hs.below hbg
      have hA4 := hA.below hbg
      have hgl := hs.glt
      have hBl := hs.lt
      have hg'l := (hown'.lt g' rfl).1
      have e0 := Int.emod_nonneg nn (show ((objs ws 0).length : Int) + 1 ≠ 0 by omega)
      have e1 := Int.emod_lt_of_pos nn (show (0 : Int) < ((objs ws 0).length : Int) + 1 by omega)
      obtain ⟨kk, hkk⟩ : ∃ kk : Nat, nn % (((objs ws 0).length : Int) + 1) = (kk : Int) := ⟨(nn % (((objs ws 0).length : Int) + 1)).toNat, by omega⟩
      rw [hkk] at e0 e1 ⊢
      have hk1 : kk < (objs ws 0).length + 1 := by omega
      obtain ⟨hc1, hc2, hc3, hc4⟩ := cut_law (bs := 7) hsd hk1
      have q4 : w4.cell? ⟨g', kk, none⟩ = some (.int .i64 (7 + (cutAt ws kk : Nat))) := by
        have := hown'.cells rfl kk _ (at_get hk1)
        rw [Addr.add_lit, Nat.zero_add] at this
        exact this
      have hw2 : (ws.take (cutAt ws kk)).length = cutAt ws kk := by rw [List.length_take]; omega
      have hk2 := hk.take (cutAt ws kk)
      have ho2 : objA 7 (ws.take (cutAt ws kk)) = (objA 7 ws).take kk := by unfold objA; rw [hc2, List.map_take]
      have hl2 : ((objA 7 ws).take kk).length = kk := by rw [List.length_take]; omega
      have hcap4 : (objA 7 ws).length + 1 ≤ cap' ∧ cap' ≤ 9223372036854775807 := by
        rcases hown'.2 with ⟨h0, _⟩ | ⟨_, _, _, h0, _, _, h3, h4, _⟩
        · cases h0
        · cases h0
          exact ⟨h3, h4⟩
      have iv4 : IntsV w4.drew (.slice (some ⟨g', 0, none⟩) kk cap') (objA 7 (ws.take (cutAt ws kk))) := by
        rw [ho2]
        refine ⟨_, cap', by rw [hl2], by omega, hcap4.2, .inr ⟨g', 0, rfl, fun i x hx => ?_⟩⟩
        have := hown'.cells rfl i _ (at_pre hx)
        rw [Addr.add_lit] at this
        exact this
      have hT := fun (W : World) (H : SpAt W B 7 100000 ws g) => trunc_ok H hk hc4
      have hTop := fun (W : World) (H : SpAt W B 7 100000 (ws.take (cutAt ws kk)) g) => top_any H hk2
      rw [hw2] at hTop
      have hO := fun (W : World) (H : SpAt W B 7 100000 (ws.take (cutAt ws kk)) g) => objects_any H hk2
      have hC5 := fun (W : World) (H : SpAt W B 7 100000 (ws.take (cutAt ws kk)) g) => check_sound H hk2 hc3
      generalize hcut : cutAt ws kk = cut at *
      have hgB : ¬ (g' = B) := by omega
      have hpB : ¬ (w.heap.size = B) := by omega
      have hqB : ¬ (w.heap.size + 1 = B) := by omega
      have hs4d : SpAt w4.drew B 7 100000 ws g := hs4
      have hA4d : Args w4.drew w.heap.size hK hC hF hM hS := hA4
      have hql : (objA 7 ws).length = (objs ws 0).length := hxl
      have s1 : ((kk : Int)).toNat = kk := by omega
      have s2 : (kk : Int) < ((objs ws 0).length : Int) + 1 := by omega
      have s3 : (kk : Int) ≤ (cap' : Int) := by omega
      have hbw4 : Below w.heap.size w w4 := hbr.trans (hbg.mono hbr.size)
      clear hown' hgrow hrow2 hs hA hs2 hA2 hs4 hA4 hkk hb1 hb2 hb12 hbg
      go_region_held3 (fun w' => w'.cell? ⟨g', kk, none⟩ = some (.int .i64 (7 + (cut : Int)))) (exact q4) (first
        | (go_at_call 29; refine (hT _ hs4d).mono ?_; rintro e u1 ⟨rfl, hs5, hm5⟩; have q4 := mcell hm5 (show w4.drew.cell? _ = _ from q4) hgB; have iv5 := iv4.mods hm5 hgB; have hA5 := hA4d.mods hm5 hpB hqB; have hb5 : Below w.heap.size w u1 := hbw4.drew.trans (hm5.below hbw4.size (by intro k hk; omega)))
        | (go_at_call 14; refine (hTop _ hs5).mono ?_; rintro e u2 ⟨rfl, hb6⟩; have hs6 := hs5.below hb6; have q4 := bcellv hb6 q4; have iv6 := iv5.below hb6; have hA6 := hA5.below hb6)
        | (go_at_call 22; refine (hO _ hs6).mono ?_; rintro e u3 ⟨vv3, rfl, hrow3, hb7⟩; have hs7 := hs6.below hb7; have q4 := bcellv hb7 q4; have iv7 := iv6.below hb7; have hA7 := hA6.below hb7; have iw7 := IntsV.of_row hrow3)
        | (go_at_call 21; refine (ints_same iw7 iv7).mono ?_; rintro e u4 ⟨rfl, hb8⟩; have hs8 := hs7.below hb8; have q4 := bcellv hb8 q4; have hA8 := hA7.below hb8)
        | (go_at_call 23; refine (hC5 _ hs8).mono ?_; rintro e u5 ⟨rfl, hb9⟩; have hs9 := hs8.below hb9; have q4 := bcellv hb9 q4; have hA9 := hA8.below hb9))
      have hb19 : Below w.heap.size w u5 := by (repeat (first | exact Below.refl _ _ | assumption | refine Below.drew ?_ | refine below_drewN ?_ _ | refine balloc ?_ _ | refine Below.setCell ?_ (by first | (simp; done) | (simp; omega) | omega) _ | refine bchain (by assumption) ?_))
      have hroom2 : 7 + ((ws.take cut).length : Int) + 32 ≤ 100000 := by omega
      have hgS : ¬ SpS B g g' := not_sps (by omega) (fun G h => by have := hgl G h; omega)
      have hpS : ¬ SpS B g w.heap.size := not_sps (by omega) (fun G h => by have := hg G h; omega)
      have hqS : ¬ SpS B g (w.heap.size + 1) := not_sps (by omega) (fun G h => by have := hg G h; omega)
      have hst := alloc_step hs9 hk2 hroom2 hK hC hF hM hS
      clear hT hTop hO hC5 hs5 hs6 hs7 hs8 hA5 hA6 hA7 hA8 hs4d hA4d iv4 iv5 iv6 iv7 iw7 hrow3
      obtain ⟨p0, p1, p2, p3, p4⟩ := hA9
      go_wp2_with fail
      refine hst.mono ?_
      rintro e u6 ⟨ws6, g6, hval, hs10, hk6, _, _, hm6, hg6⟩
      have q5 := mcell hm6 q4 hgS
      have p0 := mcell hm6 p0 hpS
      have p1 := mcell hm6 p1 hpS
      have p2 := mcell hm6 p2 hpS
      have hb6w : Below w.heap.size w u6 := hb19.trans (hm6.below hb19.size (sps_ge (by omega) (fun G h => by have := hg G h; omega)))
      clear hst q4 p3 p4 hm6 hs9
      rcases hval with ⟨hv, he, rfl⟩ | ⟨hv, he, rfl⟩
      · rw [hw2] at he
        subst he
        rw [Bool.and_eq_true] at hv
        have hW := fun W => rwords_yes hK hC hF hv.1 W
        obtain ⟨y0, y1, y2⟩ := wordsI_bd hv.1
        have hz6 := fun (i : Nat) (h2 : 2 ≤ i) (h3 : (i : Int) < wordsI hF) => newObj_zero (ws := ws.take cut) (k := hK) (c := hC) (m := hM) (s := hS) h2 h3
        have hn6 := newObj_len (m := hM) (s := hS) hv.1
        have hl6 : ((ws.take cut ++ newObj hK hC hF hM hS).length : Int) = cut + wordsI hF := by rw [List.length_append, hw2]; omega
        rw [hw2] at hz6
        generalize ws.take cut ++ newObj hK hC hF hM hS = ws6 at *
        generalize wordsI hF = y at *
        clear hv hn6
        go_wp2_with fail
        go_loopw [15] (fun p wq => ∃ i : Nat, 2 ≤ i ∧ (i : Int) ≤ y ∧ p = .int .i64 i ∧ SpAt wq B 7 100000 ws6 g6 ∧ wq.cell? ⟨w.heap.size, 0, none⟩ = some (.int .i64 hK) ∧ wq.cell? ⟨w.heap.size, 1, none⟩ = some (.int .i64 hC) ∧ wq.cell? ⟨w.heap.size, 2, none⟩ = some (.int .i64 hF) ∧ wq.cell? ⟨g', kk, none⟩ = some (.int .i64 (7 + (cut : Int))) ∧ Below w.heap.size w wq) (fun p _ => y.toNat - intOf p)
        case atStart => exact ⟨2, by omega, by omega, rfl, hs10, p0, p1, p2, q5, by (repeat (first | exact Below.refl _ _ | assumption | refine Below.drew ?_ | refine below_drewN ?_ _ | refine balloc ?_ _ | refine Below.setCell ?_ (by first | (simp; done) | (simp; omega) | omega) _ | refine bchain (by assumption) ?_))⟩
        case round =>
          obtain ⟨i, hi2, hiy, rfl, hsr, r0, r1, r2, qr, hbq⟩ := hrel
          clear hs10 p0 p1 p2 q5 hb6w
          rename_i wq _
          go_wp2_with fail
          refine (hW _).mono ?_
          rintro e x1 ⟨rfl, hx1⟩
          have hsr := hsr.below hx1
          have r0 := bcellv hx1 r0
          have r1 := bcellv hx1 r1
          have r2 := bcellv hx1 r2
          have qr := bcellv hx1 qr
          by_cases hlt2 : (i : Int) < y
          · have s4 : IntKind.i64.wrap (7 + (cut : Int) + (i : Int)) = 7 + ((cut + i : Nat) : Int) := by rw [show 7 + (cut : Int) + (i : Int) = 7 + ((cut + i : Nat) : Int) by omega]; exact IntWalk.i64_in _ (by omega)
            have hld := load_yes hsr hk6 (cut + i) (by omega)
            rw [hz6 i hi2 hlt2] at hld
            rw [Int.natCast_add] at hld
            go_wp2_with fail
            refine hld.mono ?_
            rintro e x2 ⟨rfl, hx2⟩
            have hsr := hsr.below hx2
            have r0 := bcellv hx2 r0
            have r1 := bcellv hx2 r1
            have r2 := bcellv hx2 r2
            have qr := bcellv hx2 qr
            go_wp2
            go_roundw
            case rel => exact ⟨i + 1, by omega, by omega, by go_num, hsr, r0, r1, r2, qr, by (repeat (first | exact Below.refl _ _ | assumption | refine Below.drew ?_ | refine below_drewN ?_ _ | refine balloc ?_ _ | refine Below.setCell ?_ (by first | (simp; done) | (simp; omega) | omega) _ | refine bchain (by assumption) ?_))⟩
            case measure => simp [intOf]; omega
          · clear hz6 hl6 hW hsr r0 r1 r2 hk6 hc2 hc3 hc4 ho2 hl2 hk2 hsd hroom hroom2 hw2 hlen hk y1 y2
            go_wp2
            go_ret
            exact ⟨rfl, by (repeat (first | exact Below.refl _ _ | assumption | refine Below.drew ?_ | refine below_drewN ?_ _ | refine balloc ?_ _ | refine Below.setCell ?_ (by first | (simp; done) | (simp; omega) | omega) _ | refine bchain (by assumption) ?_))⟩
      · subst he
        have ht := fun (W : World) (H : SpAt W B 7 100000 (ws.take cut) g6) => top_any H hk2
        rw [hw2] at ht
        have hs11 : SpAt u6.drew B 7 100000 (ws.take cut) g6 := hs10
        go_wp2_with fail
        go_region_held3 (fun w' => w'.cell? ⟨g', kk, none⟩ = some (.int .i64 (7 + (cut : Int)))) (exact q5) (first
          | (go_at_call 14; refine (ht _ hs11).mono ?_; rintro e u7 ⟨rfl, hb11⟩; have q5 := bcellv hb11 (show u6.drew.cell? _ = _ from q5)))
        go_wp2
        go_ret
        exact ⟨rfl, by (repeat (first | exact Below.refl _ _ | assumption | refine Below.drew ?_ | refine below_drewN ?_ _ | refine balloc ?_ _ | refine Below.setCell ?_ (by first | (simp; done) | (simp; omega) | omega) _ | refine bchain (by assumption) ?_))⟩
end Go.Proofs.Ytafailcjdkmdhaa
