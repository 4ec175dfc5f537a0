/-
  distance.Round.
-/
import Derived.Test.YtbkfjhbebhnijaaDsI
import Derived.Deep.OwnRows
import Derived.Laws.OwnMore
import Derived.OwnWalk
namespace Go.Proofs.Ytbkfjhbebhnijaa
open Go.RowKit Go.Maps Go.WideElems Go.ChangeShapes Go.MapKept
set_option linter.unusedSimpArgs false
set_option linter.unusedVariables false

set_option maxRecDepth 100000 in
set_option maxHeartbeats 1000000 in
theorem old_any {w : World} {b : Nat} {D : List Int} {a : Option Addr} {cap : Nat} (hb : w.cell? ⟨b, 0, none⟩ = some (.slice a D.length cap)) (hD : IntsV w (.slice a D.length cap) D) (x : Int) (hx : 0 ≤ x) :
    Calls Try.prog 32 #[.int .i64 x, .pointer (some ⟨b, 0, none⟩)] w fun e w' => e = .returned (.int .i64 (oldA D x)) ∧ Below w.heap.size w w' := by
  obtain ⟨a', cap', e, n1, m1, r⟩ := hD
  cases e
  have rD := fun t (ht : t < D.length) => IntsV.get r ht
  have RD := Lib.hid rD
  clear r rD
  unfold oldA
  by_cases h : (D.length : Int) ≤ x
  · have d1 : decide ((D.length : Int) ≤ x) = true := by simpa using h
    rw [if_pos h]
    clear RD
    generalize D.length = n at *
    go_enter Try.func32, Try.ntmps32
    go_wp2
    go_ret
    exact ⟨rfl, by (repeat (first | exact Below.refl _ _ | assumption | refine Below.drew ?_ | refine below_drewN ?_ _ | refine balloc ?_ _ | refine Below.setCell ?_ (by first | (simp; done) | (simp; omega) | omega) _ | refine bchain (by assumption) ?_))⟩
  · have d1 : decide ((D.length : Int) ≤ x) = false := by simpa using h
    rw [if_neg h]
    obtain ⟨t, rfl⟩ := Int.eq_ofNat_of_zero_le hx
    have ht : t < D.length := by omega
    obtain ⟨b1, f1, y, rfl, hy, q1⟩ := RD.out t ht
    rw [Int.toNat_natCast, List.getD_eq_getElem?_getD, hy, Option.getD_some]
    have s1 : ((t : Int)).toNat = t := by omega
    clear RD hy
    generalize D.length = n at *
    go_enter Try.func32, Try.ntmps32
    go_wp2
    go_ret
    exact ⟨rfl, by (repeat (first | exact Below.refl _ _ | assumption | refine Below.drew ?_ | refine below_drewN ?_ _ | refine balloc ?_ _ | refine Below.setCell ?_ (by first | (simp; done) | (simp; omega) | omega) _ | refine bchain (by assumption) ?_))⟩
/-- Block G is a row of integers. -/
def OutAt (w : World) (G : Nat) (o : List Int) : Prop := w.heap[G]? = some (.cells (o.map (Value.int .i64)).toArray 3 (0, 0))
theorem OutAt.made (w : World) (n : Nat) : OutAt (w.alloc (.cells (madeCells #[.int .i64 0] n) 3)) w.heap.size (List.replicate n 0) := by
  unfold OutAt
  rw [alloc_get]
  congr 2
  apply Array.ext'
  rw [toList_madeCells_one]
  simp
theorem OutAt.cell {w : World} {G : Nat} {o : List Int} (h : OutAt w G o) {i : Nat} {x : Int} (hx : o[i]? = some x) : w.cell? ⟨G, i, none⟩ = some (.int .i64 x) := by
  rw [cell_of_block h]
  simp [hx]
theorem OutAt.set {w : World} {G : Nat} {o : List Int} (h : OutAt w G o) (i : Nat) (x : Int) : OutAt (w.setCell ⟨G, i, none⟩ (.int .i64 x)) G (o.set i x) := by
  unfold OutAt
  rw [block_set h]
  congr 2
  apply Array.ext'
  simp
theorem OutAt.below {w w' : World} {G : Nat} {o : List Int} (h : OutAt w G o) (hb : Below w.heap.size w w') : OutAt w' G o := bblock hb h
theorem OutAt.lt {w : World} {G : Nat} {o : List Int} (h : OutAt w G o) : G < w.heap.size := (Array.getElem?_eq_some_iff.1 h).1
theorem OutAt.ints {w : World} {G : Nat} {o : List Int} (h : OutAt w G o) {n : Nat} (hn : o.length = n) (h63 : n ≤ 9223372036854775807) : IntsV w (.slice (some ⟨G, 0, none⟩) n n) o := by
  subst hn
  refine ⟨_, _, rfl, Nat.le_refl _, h63, .inr ⟨G, 0, rfl, fun i x hx => ?_⟩⟩
  rw [Nat.zero_add]
  exact h.cell hx
/-- The distances after t vertices. -/
def outR (E : List (Int × Int)) (R D : List Int) (N t : Nat) : List Int := (List.range N).map (fun v : Nat => if v < t then rndV E R D (v : Int) else 0)
theorem outR_zero (E : List (Int × Int)) (R D : List Int) (N : Nat) : outR E R D N 0 = List.replicate N 0 := by
  unfold outR
  refine List.ext_getElem? fun i => ?_
  rw [List.getElem?_map, List.getElem?_replicate]
  by_cases h : i < N
  · rw [List.getElem?_range h, if_pos h]; simp
  · rw [List.getElem?_eq_none (by simp; omega), if_neg h]; rfl
theorem outR_set {E : List (Int × Int)} {R D : List Int} {N t : Nat} (h : t < N) : (outR E R D N t).set t (rndV E R D t) = outR E R D N (t + 1) := by
  unfold outR
  refine List.ext_getElem? fun i => ?_
  by_cases hi : i < N
  · by_cases e : i = t
    · subst e
      rw [List.getElem?_set_self (by simp; omega), List.getElem?_map, List.getElem?_range hi]
      simp
    · rw [List.getElem?_set_ne (fun e' => e e'.symm), List.getElem?_map, List.getElem?_map, List.getElem?_range hi]
      simp only [Option.map_some, Option.some.injEq]
      by_cases h1 : i < t
      · rw [if_pos h1, if_pos (by omega)]
      · rw [if_neg h1, if_neg (by omega)]
  · rw [List.getElem?_eq_none (by simp; omega), List.getElem?_eq_none (by simp; omega)]
theorem outR_same {E : List (Int × Int)} {R D : List Int} {N t : Nat} (h0 : rndV E R D t = 0) : outR E R D N t = outR E R D N (t + 1) := by
  unfold outR
  congr 1
  funext v
  by_cases h1 : v < t
  · rw [if_pos h1, if_pos (by omega)]
  · rw [if_neg h1]
    by_cases h2 : v = t
    · subst h2; rw [if_pos (by omega), h0]
    · rw [if_neg (by omega)]
theorem outR_all (E : List (Int × Int)) (R D : List Int) {N : Nat} (hN : (vtN E R D.length).toNat = N) : outR E R D N N = rndA E R D := by
  unfold outR rndA
  rw [hN]
  refine List.map_congr_left fun v hv => ?_
  rw [if_pos (List.mem_range.1 hv)]
theorem outR_len (E : List (Int × Int)) (R D : List Int) (N t : Nat) : (outR E R D N t).length = N := by unfold outR; simp
theorem outR_lt {E : List (Int × Int)} {R D : List Int} {N t : Nat} (h : t < N) : (outR E R D N t)[t]? = some 0 := by
  unfold outR
  rw [List.getElem?_map, List.getElem?_range h]
  simp
/-- A look-up among the predecessors or the successors, in every world in which the map stands. -/
theorem Gr.look {w : World} {B bF bT bR : Nat} {F T : Int → List Int} {S : List Int} (h : Gr w B bF bT bR F T S) {x : Int} (hx : -9223372036854775808 ≤ x ∧ x ≤ 9223372036854775807) :
    (∃ a n c, (∀ W, Below w.heap.size w W → (Instr.lookup 55 (.map (some bF)) (.int .i64 x) false).run Try.prog W = .ok (.slice a n c) W) ∧ IntsV w (.slice a n c) (F x)) ∧
    (∃ a n c, (∀ W, Below w.heap.size w W → (Instr.lookup 55 (.map (some bT)) (.int .i64 x) false).run Try.prog W = .ok (.slice a n c) W) ∧ IntsV w (.slice a n c) (T x)) := by
  obtain ⟨n1, n2, D1, D2, hT, h1, h2, l1, l2⟩ := h.two
  constructor
  · obtain ⟨u, zs, hl, hat, hoi, _⟩ := groups_look hT.g1 (by unfold maxLen; omega) (wf_i64 hx)
    obtain rfl := h1.is hat hoi
    have iv := IntsV.of_row hoi.1
    obtain ⟨a, c, rfl, i1, i2, i3⟩ := iv
    exact ⟨a, _, c, fun W hb => hl W (hb.block _ (groups_lt hT.g1).1), ⟨a, c, rfl, i1, i2, i3⟩⟩
  · obtain ⟨u, zs, hl, hat, hoi, _⟩ := groups_look hT.g2 (by unfold maxLen; omega) (wf_i64 hx)
    obtain rfl := h2.is hat hoi
    have iv := IntsV.of_row hoi.1
    obtain ⟨a, c, rfl, i1, i2, i3⟩ := iv
    exact ⟨a, _, c, fun W hb => hl W (hb.block _ (groups_lt hT.g2).1), ⟨a, c, rfl, i1, i2, i3⟩⟩
set_option maxRecDepth 100000 in
set_option maxHeartbeats 8000000 in
theorem round_any {w : World} {ve vr vd : Value} {E : List (Int × Int)} {R D : List Int} (he : EdgV w ve E) (hr : IntsV w vr R) (hd : IntsV w vd D) (hn : D.length ≤ 10001) (hEl : E.length ≤ 1000) (hRl : R.length ≤ 1000) :
    Calls Try.prog 16 #[ve, vr, vd] w fun e w' => ∃ v, e = .returned v ∧ IntsV w' v (rndA E R D) ∧ Below w.heap.size w w' := by
  have hB := fun W (H : Below w.heap.size w W) => build_any (he.below H) (hr.below H) D.length hn hEl hRl
  obtain ⟨a3, c3, rfl, n3, m3, r3⟩ := id hd
  clear he hr
  go_enter Try.func16, Try.ntmps16
  go_wp2_with fail
  refine (hB _ (by (repeat (first | exact Below.refl _ _ | assumption | refine Below.drew ?_ | refine below_drewN ?_ _ | refine balloc ?_ _ | refine Below.setCell ?_ (by first | (simp; done) | (simp; omega) | omega) _ | refine bchain (by assumption) ?_)))).mono ?_
  rintro e w1 ⟨B, bF, bT, bR, S, rfl, hG, hS, hSl, hb1⟩
  have hB1 : Below w.heap.size w w1 := by (repeat (first | exact Below.refl _ _ | assumption | refine Below.drew ?_ | refine below_drewN ?_ _ | refine balloc ?_ _ | refine Below.setCell ?_ (by first | (simp; done) | (simp; omega) | omega) _ | refine bchain (by assumption) ?_))
  have kd : w1.heap[w.heap.size]? = some (.cells #[.slice a3 D.length c3] 22 (0, 0)) := bblock hb1 (alloc_get _ _)
  go_upto_region 3 with fail
  have hvb := vtN_bd E R (n := D.length) (by omega)
  obtain ⟨N, hN⟩ : ∃ N : Nat, vtN E R D.length = (N : Int) := ⟨(vtN E R D.length).toNat, by omega⟩
  have HNV := Lib.hid hN
  rw [hN] at hvb ⊢
  have kg : (w1.alloc (.cells #[.int .i64 (N : Int), .map (some bF), .map (some bT), .map (some bR)] 58)).heap[w1.heap.size]? = some (.cells #[.int .i64 (N : Int), .map (some bF), .map (some bT), .map (some bR)] 58 (0, 0)) := alloc_get _ _
  obtain ⟨i0, hi, hiz0, hiz1, hiz2⟩ := info_parts int31_info
  have hml : maxLen = 9223372036854775807 := rfl
  have hz1 : w.heap.size < w1.heap.size := (Array.getElem?_eq_some_iff.1 kd).1
  clear hb1 hB hN
  go_wp2_with (at_make; refine wpList_make_row _ rfl _ _ _ rfl 3 i0 (.int .i64 0) Try.underlying22 hi hiz0 hiz1 rfl .i64 .i64 N rfl rfl (by rw [hiz2]; omega) (by omega) ?_)
  have hO : OutAt ((w1.alloc (.cells #[.int .i64 (N : Int), .map (some bF), .map (some bT), .map (some bR)] 58)).alloc (.cells (madeCells #[.int .i64 0] N) 3)) (w1.heap.size + 1) (outR E R D N 0) := by
    rw [outR_zero]
    have := OutAt.made (w1.alloc (.cells #[.int .i64 (N : Int), .map (some bF), .map (some bT), .map (some bR)] 58)) N
    rwa [World.size_alloc] at this
  have hb2 : Below w1.heap.size w1 ((w1.alloc (.cells #[.int .i64 (N : Int), .map (some bF), .map (some bT), .map (some bR)] 58)).alloc (.cells (madeCells #[.int .i64 0] N) 3)) := balloc (balloc (Below.refl _ _) _) _
  have kg2 : ((w1.alloc (.cells #[.int .i64 (N : Int), .map (some bF), .map (some bT), .map (some bR)] 58)).alloc (.cells (madeCells #[.int .i64 0] N) 3)).heap[w1.heap.size]? = _ := alloc_lt _ kg
  clear kg r3
  go_loopw [25] (fun i wr => ∃ t : Nat, t ≤ N ∧ i = .int .i64 t ∧ Below w1.heap.size w1 wr ∧ OutAt wr (w1.heap.size + 1) (outR E R D N t) ∧ wr.heap[w1.heap.size]? = some (.cells #[.int .i64 (N : Int), .map (some bF), .map (some bT), .map (some bR)] 58 (0, 0))) (fun i _ => N - (intOf i).toNat)
  case atStart => exact ⟨0, Nat.zero_le _, rfl, hb2, hO, kg2⟩
  case round =>
    clear hO hb2 kg2
    obtain ⟨t, ht, rfl, hbr, hO, kg⟩ := hrel
    by_cases hlt : t < N
    · have hlk := (hG.seen.below hbr).look (x := (t : Int)) (by omega)
      obtain ⟨⟨a, n, c, hlF, hiF⟩, _⟩ := hG.look (x := (t : Int)) (by omega)
      have hLk := hlF wr hbr
      have kg_1 : wr.cell? ⟨w1.heap.size, 1, none⟩ = some (.map (some bF)) := by rw [cell_of_block kg]; rfl
      have kg_3 : wr.cell? ⟨w1.heap.size, 3, none⟩ = some (.map (some bR)) := by rw [cell_of_block kg]; rfl
      have hzg : w1.heap.size < wr.heap.size := (Array.getElem?_eq_some_iff.1 kg).1
      have s1 : ((t : Int)).toNat = t := by omega
      clear hlF
      cases hrt : rtB R (t : Int)
      · have hns : ¬ ((t : Int) ∈ S) := fun h => by rw [(hS _).1 h] at hrt; cases hrt
        rw [decide_eq_false hns] at hlk
        have hrv : rndV E R D (t : Int) = nxtI ((prd E (t : Int)).map (oldA D)) := by unfold rndV; rw [hrt]; rfl
        have hpm : ∀ p ∈ prd E (t : Int), 0 ≤ p := fun p hp => by
          have := (mem_prd.1 hp).2
          unfold edB at this
          simp only [Bool.and_eq_true, vB_iff] at this
          omega
        have HPM := Lib.hid hpm
        have HRV := Lib.hid hrv
        have hpl : (prd E (t : Int)).length ≤ 1000 := by
          unfold prd
          rw [List.length_map]
          exact Nat.le_trans (List.length_filter_le _ _) hEl
        have hseq : outR E R D N (t + 1) = (outR E R D N t).set t (rndV E R D t) := (outR_set hlt).symm
        have HSQ := Lib.hid hseq
        have hot := outR_lt (E := E) (R := R) (D := D) hlt
        have HOT := Lib.hid hot
        clear hrt hns hpm hrv hseq hot
        generalize prd E (t : Int) = P at *
        obtain ⟨a', c', e, i1, i2, i3⟩ := hiF
        cases e
        have rP := fun k (hk : k < P.length) => IntsV.get i3 hk
        have RP := Lib.hid rP
        clear i3 rP
        obtain ⟨n, hn2⟩ : ∃ n, P.length = n := ⟨_, rfl⟩
        rw [hn2] at hpl i1 RP hLk
        have HN2 := Lib.hid hn2
        clear hn2
        obtain ⟨wo, hwo⟩ : ∃ W, W = wr := ⟨_, rfl⟩
        subst hwo
        go_wp2_with fail
        go_loopw [11, 37] (fun p11 i wk => ∃ k : Nat, k ≤ n ∧ i = .int .i64 k ∧ wk.ownsRow wo.heap.size 3 1 p11 k (((P.take k).map (oldA D)).map (Value.int .i64)) ∧ Below wo.heap.size wo wk) (fun p11 i _ => n - (intOf i).toNat)
        case atStart => exact ⟨0, Nat.zero_le _, rfl, World.ownsRow_nil _ _ _ _, Below.refl _ _⟩
        case round =>
          obtain ⟨k, hk, rfl, hown, hbk⟩ := hrel
          clear kg_1 kg_3 hlk hLk
          have hbw := bchain hbk hbr
          have hd1 := (hd.below hB1).below hbw
          have kd0 : wr.cell? ⟨w.heap.size, 0, none⟩ = some (.slice a3 D.length c3) := bcellv hbw (by rw [cell_of_block kd]; rfl)
          have hzo : wo.heap.size ≤ wr.heap.size := hbk.size
          by_cases hkn : k < n
          · obtain ⟨b1, f1, p, rfl, hp, q1⟩ := RP.out k hkn
            have q1 := bcellv hbw q1
            have hp0 := HPM.out p (List.mem_of_getElem? hp)
            have hOld := fun W (H : Below wr.heap.size wr W) => old_any (bcellv H kd0) (hd1.below H) p hp0
            have s2 : ((k : Int)).toNat = k := by omega
            have hsn : (((P.take (k + 1)).map (oldA D)).map (Value.int .i64)) = (((P.take k).map (oldA D)).map (Value.int .i64)) ++ [.int .i64 (oldA D p)] := by
              obtain ⟨h1, h2⟩ := List.getElem?_eq_some_iff.1 hp
              rw [List.take_succ_eq_append_getElem h1, h2, List.map_append, List.map_append]
              rfl
            have HSN := Lib.hid hsn
            clear hp hsn hd hd1
            generalize oldA D p = y at *
            go_wp2_with fail
            refine (hOld _ (by (repeat (first | exact Below.refl _ _ | assumption | refine Below.drew ?_ | refine below_drewN ?_ _ | refine balloc ?_ _ | refine Below.setCell ?_ (by first | (simp; done) | (simp; omega) | omega) _ | refine bchain (by assumption) ?_)))).mono ?_
            rintro e w3 ⟨rfl, hb3⟩
            have hown3 := row_below hown hb3
            have hb3o := bchain hb3 hbk
            have hz3 : wr.heap.size ≤ w3.heap.size := hb3.size
            clear hOld
            go_wp2_with (at_builtin; refine wpList_append_own _ rfl _ _ 22 rfl wo.heap.size 3 i0 (.int .i64 0) 1 8 Try.underlying22 hi hiz0 hiz1 hiz2 rfl (by decide) _ _ _ rfl (hown3.alloc _) ⟨w3.heap.size, 0, none⟩ 1 1 [.int .i64 y] rfl rfl (cell_one_new _ _ _) (by simp [Value.oneCell']) (by omega) (by omega) (by simp; omega) ?_; intro v' w4 hown' hgrow _)
            have hB4 : Below wo.heap.size wo w4 := (hb3o.alloc hb3o.size _).grown hgrow (by simp; omega) (fun k e => (row_lt hown3 k e).2)
            go_wp2
            go_roundw
            case rel => exact ⟨k + 1, by omega, by go_num, by rw [HSN.out]; exact hown', hB4⟩
            case measure => simp [intOf]; omega
          · have hkn' : k = n := by omega
            subst hkn'
            have hPt : P.take k = P := by rw [← HN2.out, List.take_length]
            rw [hPt] at hown
            have hlen : (P.map (oldA D)).length = k := by rw [List.length_map]; exact HN2.out
            have hiv : IntsV wr u11 (P.map (oldA D)) := IntsV.of_row (by rw [hlen]; exact hown)
            have hNx := fun W (H : Below wr.heap.size wr W) => next_any (hiv.below H)
            have HS2 := Lib.hid (HSQ.out.trans (by rw [HRV.out]))
            have hOr := (hO.below hbk)
            have kgr := bblock hbk kg
            clear hown hlen hPt hiv HSQ
            generalize nxtI (P.map (oldA D)) = y at *
            go_wp2_with fail
            refine (hNx _ (by (repeat (first | exact Below.refl _ _ | assumption | refine Below.drew ?_ | refine below_drewN ?_ _ | refine balloc ?_ _ | refine Below.setCell ?_ (by first | (simp; done) | (simp; omega) | omega) _ | refine bchain (by assumption) ?_)))).mono ?_
            rintro e w3 ⟨rfl, hb3⟩
            have hO3 := hOr.below hb3
            have kg3 := bblock hb3 kgr
            have q0 := hO3.cell HOT.out
            have qf : ∀ i, w3.frozen? ⟨w1.heap.size + 1, i, none⟩ = false := frozen_of_block hO3
            have hzG := hO3.lt
            have hb31 := bchain hb3 hbw
            clear hNx hOr kgr
            go_wp2
            go_roundw
            case rel => exact ⟨t + 1, by omega, by go_num, by (repeat (first | exact Below.refl _ _ | assumption | refine Below.drew ?_ | refine below_drewN ?_ _ | refine balloc ?_ _ | refine Below.setCell ?_ (by first | (simp; done) | (simp; omega) | omega) _ | refine bchain (by assumption) ?_)), by rw [HS2.out]; exact hO3.set t y, set_other kg3 (by omega)⟩
            case measure => simp [intOf]; omega
      · have hys : (t : Int) ∈ S := (hS _).2 hrt
        rw [decide_eq_true hys] at hlk
        have h0 : rndV E R D (t : Int) = 0 := by unfold rndV; rw [hrt]; rfl
        rw [outR_same h0] at hO
        clear hLk hiF hrt h0 hys
        go_wp2
        go_roundw
        case rel => exact ⟨t + 1, by omega, by go_num, hbr, hO, kg⟩
        case measure => simp [intOf]; omega
    · have htn : t = N := by omega
      subst htn
      rw [outR_all E R D (by rw [HNV.out]; omega)] at hO
      have hln : (rndA E R D).length = t := by have := rndA_len E R D; have := HNV.out; omega
      have hfin := hO.ints hln (by omega)
      go_wp2
      go_ret
      exact ⟨_, rfl, hfin, bchain hbr hB1⟩
end Go.Proofs.Ytbkfjhbebhnijaa
