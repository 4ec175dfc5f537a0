/-
  distance.Bound. Printed by gen_DsM.py.
-/
import Derived.Test.YtbkfjhbebhnijaaDsL
namespace Go.Proofs.Ytbkfjhbebhnijaa
open Go.RowKit Go.Maps Go.WideElems Go.ChangeShapes Go.MapKept
set_option linter.unusedSimpArgs false
set_option linter.unusedVariables false

theorem OutAt.up {w w' : World} {base G : Nat} {o : List Int} (h : OutAt w G o) (hb : Below base w w') (hG : G < base) : OutAt w' G o := by
  unfold OutAt at *
  rw [hb.block G hG]
  exact h
theorem OutAt.alloc {w : World} {G : Nat} {o : List Int} (h : OutAt w G o) (x : Obj) : OutAt (w.alloc x) G o := alloc_lt x h
theorem step_append_q {w : World} {ops : Array Oper} {rest : List Oper} {o : Oper} {a : Act} {Q : Exit → Act → World → Prop} (hgd : o.guard = none) (s x : Operand)
    (ho : o.op = .call { callee := .builtin .append, args := #[s, x], argTypes := #[22, 22] })
    {n0 G base : Nat} {wb : World} {q l : List Int} {v : Value} {O : Obj} (hs : a.eval s = v) (y : Int) (W0 : World) (hw : w = W0.alloc (.cells #[.int .i64 y] 3)) (hq : QAt W0 base v q) {g : Nat} (hx : a.eval x = .slice (some ⟨g, 0, none⟩) 1 1) (hg : W0.heap.size = g)
    (hbl : Below n0 wb W0) (hO : OutAt W0 G l) (hk : W0.heap[n0]? = some O) (hG : n0 < G ∧ G < base) (hb : base ≤ W0.heap.size) (hl : q.length ≤ 100000)
    (h : ∀ v' w', QAt w' base v' (q ++ [y]) → Below n0 wb w' → OutAt w' G l → w'.heap[n0]? = some O → W0.heap.size ≤ w'.heap.size → wpList Try.prog ops Q rest (a.put o.dst v') w') : wpList Try.prog ops Q (o :: rest) a w := by
  subst hw hg
  refine wpList_append_q hgd s x ho hs (hq.alloc _) y _ hx (cell_one_new W0 (.int .i64 y) 3 0 _ rfl) (by rw [World.size_alloc]; omega) hl fun v' w' h1 h2 => ?_
  have h3 : Below n0 W0 (W0.alloc (.cells #[.int .i64 y] 3)) := Below.alloc (Below.refl _ _) (by omega) _
  refine h v' w' h1 (hbl.trans (h3.trans (h2.mono (by omega)))) ((hO.alloc _).up h2 hG.2) ?_ (Nat.le_trans ?_ h2.size)
  · rw [h2.block _ (by omega)]
    exact alloc_lt _ hk
  · rw [World.size_alloc]; omega

set_option maxRecDepth 100000 in
set_option maxHeartbeats 8000000 in
theorem bound_any {w : World} {ve vr : Value} {E : List (Int × Int)} {R : List Int} (he : EdgV w ve E) (hr : IntsV w vr R) (hEl : E.length ≤ 1000) (hRl : R.length ≤ 1000) :
    Calls Try.prog 18 #[ve, vr] w fun e w' => ∃ v, e = .returned v ∧ IntsV w' v (bndA E R) ∧ Below w.heap.size w w' := by
  have hB : ∀ W, Below w.heap.size w W → Calls Try.prog 31 #[ve, vr, .int .i64 0] W (BuildP W E R 0) := fun W H => build_any (he.below H) (hr.below H) 0 (by omega) hEl hRl
  clear he hr
  go_enter Try.func18, Try.ntmps18
  go_wp2_with fail
  refine (hB _ (by (repeat (first | exact Below.refl _ _ | assumption | refine Below.drew ?_ | refine below_drewN ?_ _ | refine balloc ?_ _ | refine Below.setCell ?_ (by first | (simp; done) | (simp; omega) | omega) _ | refine bchain (by assumption) ?_)))).mono ?_
  rintro e w1 ⟨B, bF, bT, bR, S, rfl, hG, hS, hSl, hb1⟩
  have hB1 : Below w.heap.size w w1 := by (repeat (first | exact Below.refl _ _ | assumption | refine Below.drew ?_ | refine below_drewN ?_ _ | refine balloc ?_ _ | refine Below.setCell ?_ (by first | (simp; done) | (simp; omega) | omega) _ | refine bchain (by assumption) ?_))
  go_upto_region 2 with fail
  have hvb := vtN_bd E R (n := 0) (by omega)
  obtain ⟨N, hN⟩ : ∃ N : Nat, vtN E R 0 = (N : Int) := ⟨(vtN E R 0).toNat, by omega⟩
  rw [hN] at hvb ⊢
  have HST := Lib.hid (Srch.start E R hN)
  have HNV := Lib.hid hN
  have kg : (w1.alloc (.cells #[.int .i64 (N : Int), .map (some bF), .map (some bT), .map (some bR)] 58)).heap[w1.heap.size]? = some (.cells #[.int .i64 (N : Int), .map (some bF), .map (some bT), .map (some bR)] 58 (0, 0)) := alloc_get _ _
  obtain ⟨i0, hi, hiz0, hiz1, hiz2⟩ := info_parts int31_info
  have hml : maxLen = 9223372036854775807 := rfl
  clear hb1 hB hN
  go_wp2_with (at_make; refine wpList_make_row _ rfl _ _ _ rfl 3 i0 (.int .i64 0) Try.underlying22 hi hiz0 hiz1 rfl .i64 .i64 N rfl rfl (by rw [hiz2]; omega) (by omega) ?_)
  have hO : OutAt ((w1.alloc (.cells #[.int .i64 (N : Int), .map (some bF), .map (some bT), .map (some bR)] 58)).alloc (.cells (madeCells #[.int .i64 0] N) 3)) (w1.heap.size + 1) (outB R N 0) := by
    rw [outB_zero]
    have := OutAt.made (w1.alloc (.cells #[.int .i64 (N : Int), .map (some bF), .map (some bT), .map (some bR)] 58)) N
    rwa [World.size_alloc] at this
  have hb2 : Below w1.heap.size w1 ((w1.alloc (.cells #[.int .i64 (N : Int), .map (some bF), .map (some bT), .map (some bR)] 58)).alloc (.cells (madeCells #[.int .i64 0] N) 3)) := balloc (balloc (Below.refl _ _) _) _
  have kg2 : ((w1.alloc (.cells #[.int .i64 (N : Int), .map (some bF), .map (some bT), .map (some bR)] 58)).alloc (.cells (madeCells #[.int .i64 0] N) 3)).heap[w1.heap.size]? = _ := alloc_lt _ kg
  clear kg
  go_loopw [7, 20] (fun v7 i wr => ∃ t : Nat, t ≤ N ∧ i = .int .i64 t ∧ QAt wr (w1.heap.size + 2) v7 (bfsQ R t) ∧ Below w1.heap.size w1 wr ∧ OutAt wr (w1.heap.size + 1) (outB R N t) ∧ wr.heap[w1.heap.size]? = some (.cells #[.int .i64 (N : Int), .map (some bF), .map (some bT), .map (some bR)] 58 (0, 0))) (fun v7 i _ => N - (intOf i).toNat)
  case atStart => exact ⟨0, Nat.zero_le _, rfl, QAt.nil _ _, hb2, hO, kg2⟩
  case round =>
    clear hO hb2 kg2
    obtain ⟨t, ht, rfl, hQ, hbr, hO, kg⟩ := hrel
    by_cases hlt : t < N
    · have hzg : w1.heap.size + 1 < wr.heap.size := hO.lt
      have q0 := hO.cell (outB_lt hlt)
      have qf : ∀ i, wr.frozen? ⟨w1.heap.size + 1, i, none⟩ = false := frozen_of_block hO
      have s1 : ((t : Int)).toNat = t := by omega
      have hO1 := hO.set t (-1)
      have hQ1 := hQ.set (G := w1.heap.size + 1) (i := t) (x := .int .i64 (-1)) (by omega)
      have hb1 := hbr.setCell (p := ⟨w1.heap.size + 1, t, none⟩) (show w1.heap.size ≤ w1.heap.size + 1 by omega) (.int .i64 (-1))
      have kg1 := set_other (i := t) (v := .int .i64 (-1)) kg (show w1.heap.size ≠ w1.heap.size + 1 by omega)
      have hz1 : (wr.setCell ⟨w1.heap.size + 1, t, none⟩ (.int .i64 (-1))).heap.size = wr.heap.size := by simp
      have kg_3 : (wr.setCell ⟨w1.heap.size + 1, t, none⟩ (.int .i64 (-1))).cell? ⟨w1.heap.size, 3, none⟩ = some (.map (some bR)) := by rw [cell_of_block kg1]; rfl
      have hlk := (hG.seen.below hb1).look (x := (t : Int)) (by omega)
      cases hrt : rtB R (t : Int)
      · have hns : ¬ ((t : Int) ∈ S) := fun h => by rw [(hS _).1 h] at hrt; cases hrt
        rw [decide_eq_false hns] at hlk
        have e1 := Lib.hid (outB_set (x := -1) hlt (by rw [hrt]; rfl))
        have e2 := Lib.hid (bfsQ_no hrt)
        clear hrt hns
        go_wp2
        go_roundw
        case rel => exact ⟨t + 1, by omega, by go_num, by rw [e2.out]; exact hQ1, hb1, by rw [← e1.out]; exact hO1, kg1⟩
        case measure => simp [intOf]; omega
      · have hys : (t : Int) ∈ S := (hS _).2 hrt
        rw [decide_eq_true hys] at hlk
        have e1 := Lib.hid (outB_set (x := 0) hlt (by rw [hrt]; rfl))
        have e2 := Lib.hid (bfsQ_yes hrt)
        have hO2 := hO1.set t 0
        rw [List.set_set] at hO2
        have q1 : (wr.setCell ⟨w1.heap.size + 1, t, none⟩ (.int .i64 (-1))).cell? ⟨w1.heap.size + 1, t, none⟩ = some (.int .i64 (-1)) := hO1.cell (by rw [List.getElem?_set_self (by rw [outB_len]; exact hlt)])
        have qf1 : ∀ i, (wr.setCell ⟨w1.heap.size + 1, t, none⟩ (.int .i64 (-1))).frozen? ⟨w1.heap.size + 1, i, none⟩ = false := frozen_of_block hO1
        have hQ2 := hQ1.set (G := w1.heap.size + 1) (i := t) (x := .int .i64 0) (by omega)
        have hb2 := hb1.setCell (p := ⟨w1.heap.size + 1, t, none⟩) (show w1.heap.size ≤ w1.heap.size + 1 by omega) (.int .i64 0)
        have kg2 := set_other (i := t) (v := .int .i64 0) kg1 (show w1.heap.size ≠ w1.heap.size + 1 by omega)
        have hz2 : ((wr.setCell ⟨w1.heap.size + 1, t, none⟩ (.int .i64 (-1))).setCell ⟨w1.heap.size + 1, t, none⟩ (.int .i64 0)).heap.size = wr.heap.size := by simp
        have hln := bfsQ_len R t
        obtain ⟨a7, c7, e7⟩ := hQ2.form
        subst e7
        clear hrt hys
        generalize bfsQ R t = q at *
        go_wp2_with (at_builtin; refine step_append_q rfl _ _ rfl rfl (t : Int) _ rfl hQ2 rfl hz2 hb2 hO2 kg2 (by omega) (by omega) (by omega) ?_; intro v' w4 hq4 hb4 hO4 kg4 hz4)
        go_wp2
        go_roundw
        case rel => exact ⟨t + 1, by omega, by go_num, by rw [e2.out]; exact hq4, hb4, by rw [← e1.out]; exact hO4, kg4⟩
        case measure => simp [intOf]; omega
    · have htn : t = N := by omega
      rw [htn, outB_all] at hO
      rw [htn] at hQ
      clear ht
      subst htn
      have hS0 := HST.out
      generalize bfsO R t = o0 at *
      generalize bfsQ R t = q0 at *
      obtain ⟨wo, hwo⟩ : ∃ W, W = wr := ⟨_, rfl⟩
      subst hwo
      obtain ⟨a7, c7, e7⟩ := id hQ.form
      subst e7
      have hS0 := Lib.hid hS0
      clear hlt
      go_wp2_with fail
      go_loopw [7] (fun v7 wr => ∃ o q, Srch E R t o q ∧ QAt wr (w1.heap.size + 2) v7 q ∧ Below w1.heap.size w1 wr ∧ OutAt wr (w1.heap.size + 1) o ∧ wr.heap[w1.heap.size]? = some (.cells #[.int .i64 (t : Int), .map (some bF), .map (some bT), .map (some bR)] 58 (0, 0))) (fun v7 wr => negsAt wr (w1.heap.size + 1) + lenOf v7)
      case atStart => exact ⟨o0, q0, hS0.out, hQ, hbr, hO, kg⟩
      case round =>
        clear hO hbr kg hQ hS0 HST
        obtain ⟨o, q, hS2, hQ2, hb2, hO2, kg2⟩ := hrel
        have hol : o.length = t := by have h1 := hS2.bf.len; have h2 := HNV.out; omega
        have HOL := Lib.hid hol
        cases q with
        | nil =>
          have hst := hS2.stop
          subst hst
          have hfin := hO2.ints hol (by omega)
          obtain ⟨a8, c8, e8⟩ := hQ2.form
          rw [List.length_nil] at e8
          subst e8
          clear hol
          go_wp2
          go_ret
          exact ⟨_, rfl, hfin, bchain hb2 hB1⟩
        | cons v q =>
          obtain ⟨v0, v1, v2⟩ := hS2.bf.qm v (by simp)
          obtain ⟨u, rfl⟩ := Int.eq_ofNat_of_zero_le v0
          have hut : u < t := by omega
          obtain ⟨L, hL⟩ : ∃ L, o[u]? = some L := ⟨_, List.getElem?_eq_getElem (by omega)⟩
          have hvl : vl o (u : Int) = L := vl_nat hL
          rw [hvl] at v2
          have hL2 : L ≤ 10001 := by
            obtain ⟨K, k1, k2⟩ := hS2.cnt
            have := k1 L (List.mem_of_getElem? hL)
            omega
          have hVs := Vis.start hS2.bf
          obtain ⟨b7, o7, c7, e7, hc7, q7⟩ := hQ2.head
          obtain ⟨v', hsl, hQ3⟩ := hQ2.tail
          have hl2 := len_at hQ2
          subst e7
          obtain ⟨a8, c8, e8⟩ := hQ3.form
          subst e8
          obtain ⟨_, ⟨a, n, c, hlT, hiT⟩⟩ := hG.look (x := (u : Int)) (by omega)
          have hLk := hlT wr hb2
          have kg_2 : wr.cell? ⟨w1.heap.size, 2, none⟩ = some (.map (some bT)) := by rw [cell_of_block kg2]; rfl
          obtain ⟨a', c', e, i1, i2, i3⟩ := hiT
          cases e
          have rP := fun k (hk : k < (suc E (u : Int)).length) => IntsV.get i3 hk
          have RP := Lib.hid rP
          have hsb : ∀ p ∈ suc E (u : Int), 0 ≤ p ∧ p < (t : Int) := fun p hp => by
            obtain ⟨m1, m2⟩ := mem_suc.1 hp
            have m3 := (vtN_edge (R := R) (n := 0) m1 m2).2
            simp only at m3
            have m4 := HNV.out
            unfold edB at m2
            simp only [Bool.and_eq_true, vB_iff] at m2
            omega
          have HSB := Lib.hid hsb
          have HL := Lib.hid hL
          have HVL := Lib.hid hvl
          have HL2 := Lib.hid hl2
          clear i3 rP hlT hsb hL hvl hl2 v0 v1 hol
          obtain ⟨n, hn2⟩ : ∃ n, (suc E (u : Int)).length = n := ⟨_, rfl⟩
          rw [hn2] at i1 RP hLk
          have HN2 := Lib.hid hn2
          clear hn2
          obtain ⟨wp, hwp⟩ : ∃ W, W = wr := ⟨_, rfl⟩
          subst hwp
          have hm1 : (0 : Int) < ((q.length + 1 : Nat) : Int) := by omega
          go_wp2_with fail
          go_loopw [7, 51] (fun v7 i wr => ∃ (k : Nat) (o' q' : List Int), k ≤ n ∧ i = .int .i64 k ∧ Vis E R (u : Int) o q k o' q' ∧ QAt wr (w1.heap.size + 2) v7 q' ∧ Below w1.heap.size w1 wr ∧ OutAt wr (w1.heap.size + 1) o' ∧ wr.heap[w1.heap.size]? = some (.cells #[.int .i64 (t : Int), .map (some bF), .map (some bT), .map (some bR)] 58 (0, 0))) (fun v7 i _ => n - (intOf i).toNat)
          case atStart => exact ⟨0, o, q, Nat.zero_le _, rfl, hVs, hQ3, hb2, hO2, kg2⟩
          case round =>
            obtain ⟨k, o', q', hk, rfl, hV, hQk, hbk, hOk, kgk⟩ := hrel
            clear kg_2 hLk
            have hMd := hV.md
            obtain ⟨dn, hMd⟩ := hMd
            have hol' : o'.length = t := by have h1 := hMd.len; have h2 := HNV.out; omega
            have hql : q'.length ≤ 20000 := by
              obtain ⟨K, _, k2⟩ := hS2.cnt
              have := hV.cnt
              rw [List.length_cons] at k2
              omega
            by_cases hkn : k < n
            · obtain ⟨b1, f1, p, rfl, hp, q1⟩ := RP.out k hkn
              have q1 := bcellv hbk q1
              obtain ⟨p0, p1⟩ := HSB.out p (List.mem_of_getElem? hp)
              have hV1 := hV.step hp
              obtain ⟨p, rfl⟩ := Int.eq_ofNat_of_zero_le p0
              have hpt : p < t := by omega
              obtain ⟨y, hy⟩ : ∃ y, o'[p]? = some y := ⟨_, List.getElem?_eq_getElem (by omega)⟩
              have hLo : o'[u]? = some L := by
                obtain ⟨x, hx⟩ : ∃ x, o'[u]? = some x := ⟨_, List.getElem?_eq_getElem (by omega)⟩
                have h1 := hMd.vb.2.2.1
                rw [HVL.out, vl_nat hx] at h1
                rw [hx, h1]
              have qy := hOk.cell hy
              have qL := hOk.cell hLo
              have qf : ∀ i, wr.frozen? ⟨w1.heap.size + 1, i, none⟩ = false := frozen_of_block hOk
              have hzG := hOk.lt
              have s2 : ((k : Int)).toNat = k := by omega
              have s3 : ((p : Int)).toNat = p := by omega
              have s4 : ((u : Int)).toNat = u := by omega
              by_cases hy0 : y < 0
              · rw [visW_yes hLo hy hy0] at hV1
                have hd : decide (y < 0) = true := by simpa using hy0
                have hO3 := hOk.set p (L + 1)
                have hQ4 := hQk.set (G := w1.heap.size + 1) (i := p) (x := .int .i64 (L + 1)) (by omega)
                have hb3 := hbk.setCell (p := ⟨w1.heap.size + 1, p, none⟩) (show w1.heap.size ≤ w1.heap.size + 1 by omega) (.int .i64 (L + 1))
                have kg3 := set_other (i := p) (v := .int .i64 (L + 1)) kgk (show w1.heap.size ≠ w1.heap.size + 1 by omega)
                have hz3 : (wr.setCell ⟨w1.heap.size + 1, p, none⟩ (.int .i64 (L + 1))).heap.size = wr.heap.size := by simp
                obtain ⟨a9, c9, e9⟩ := hQ4.form
                subst e9
                have hV1 := Lib.hid hV1
                clear hp hy hLo hol' hMd hOk hQk hV
                obtain ⟨m9, hm9⟩ : ∃ m, q'.length = m := ⟨_, rfl⟩
                go_wp2_with (at_builtin; refine step_append_q rfl _ _ rfl rfl (p : Int) _ rfl hQ4 rfl hz3 hb3 hO3 kg3 (by omega) (by omega) (by omega) ?_; intro v' w4 hq4 hb4 hO4 kg4 hz4)
                go_wp2
                go_roundw
                case rel => exact ⟨k + 1, _, _, by omega, by go_num, hV1.out, hq4, hb4, hO4, kg4⟩
                case measure => simp [intOf]; omega
              · rw [visW_no hy hy0] at hV1
                have hd : decide (y < 0) = false := by simpa using hy0
                obtain ⟨a9, c9, e9⟩ := id hQk.form
                subst e9
                have hV1 := Lib.hid hV1
                clear hp hy hLo hol' hMd hV
                go_wp2
                go_roundw
                case rel => exact ⟨k + 1, _, _, by omega, by go_num, hV1.out, hQk, hbk, hOk, kgk⟩
                case measure => simp [intOf]; omega
            · have hkn' : k = n := by omega
              have hS3 := hS2.step hV (hkn'.trans HN2.out.symm)
              have hms : negsAt wr (w1.heap.size + 1) + lenOf u7 < negsAt wp (w1.heap.size + 1) + lenOf (Value.slice (some ⟨b7, o7, none⟩) (q.length + 1) c7) := by
                rw [negs_at hOk, len_at hQk, negs_at hO2]
                have := hV.cnt
                simp only [lenOf]
                omega
              have HMS := Lib.hid hms
              clear hms hV hMd hol'
              go_wp2
              go_roundw
              case rel => exact ⟨_, _, hS3, hQk, hbk, hOk, kgk⟩
              case measure => exact HMS.out
end Go.Proofs.Ytbkfjhbebhnijaa
