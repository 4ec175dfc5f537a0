/-
  refmeshref31.Round; refmeshlaw31.rounds.
-/
import Derived.Test.YtbkfjhbebhnijaaDsM
namespace Go.Proofs.Ytbkfjhbebhnijaa
open Go.RowKit Go.Maps Go.WideElems Go.ChangeShapes Go.MapKept
set_option linter.unusedSimpArgs false
set_option linter.unusedVariables false

def rfS (D : List Int) (v m : Int) (e : Int × Int) : Int := if e.2 != v || !vB e.1 then m else min m (if e.1 < (D.length : Int) then max (D.getD e.1.toNat 0) 0 else 0)
theorem refV_eq (E : List (Int × Int)) (R D : List Int) (v : Int) : refV E R D v = if R.contains v then 0 else min 1048576 (E.foldl (rfS D v) 1048576 + 1) := rfl
theorem rfS_rng {D : List Int} {v m : Int} (e : Int × Int) (h : 0 ≤ m ∧ m ≤ 1048576) : 0 ≤ rfS D v m e ∧ rfS D v m e ≤ 1048576 := by
  unfold rfS
  split
  · exact h
  · split <;> omega
theorem rfF_rng {D : List Int} {v : Int} : ∀ (E : List (Int × Int)) (m : Int), 0 ≤ m ∧ m ≤ 1048576 → 0 ≤ E.foldl (rfS D v) m ∧ E.foldl (rfS D v) m ≤ 1048576 := by
  intro E
  induction E with
  | nil => intro m h; exact h
  | cons e E ih => intro m h; exact ih _ (rfS_rng e h)
theorem QAt.below {w w' : World} {base : Nat} {v : Value} {q : List Int} (h : QAt w base v q) (hb : Below w.heap.size w w') : QAt w' base v q := h.keep fun k o _ ho => bblock hb ho
theorem QAt.ints {w : World} {base : Nat} {v : Value} {q : List Int} (h : QAt w base v q) : IntsV w v q := by
  rcases h with ⟨rfl, rfl⟩ | ⟨b, off, cap, cs, rfl, h1, h2, h3, h4, h5, h6⟩
  · exact ⟨none, 0, rfl, Nat.le_refl _, by omega, .inl rfl⟩
  · exact ⟨_, cap, rfl, h4, h5, .inr ⟨b, off, rfl, fun i x hx => by rw [cell_of_block h2]; exact h6 i x hx⟩⟩
theorem QAt.made (w : World) {base : Nat} (hb : base ≤ w.heap.size) : QAt (w.alloc (.cells #[] 3)) base (.slice (some ⟨w.heap.size, 0, none⟩) 0 0) [] :=
  .inr ⟨_, 0, 0, _, rfl, hb, alloc_get _ _, by simp, by simp, by omega, fun i x hx => by simp at hx⟩
theorem step_append_row {w : World} {ops : Array Oper} {rest : List Oper} {o : Oper} {a : Act} {Q : Exit → Act → World → Prop} (hgd : o.guard = none) (s x : Operand)
    (ho : o.op = .call { callee := .builtin .append, args := #[s, x], argTypes := #[22, 22] })
    {base : Nat} {wb : World} {q : List Int} {v : Value} (hs : a.eval s = v) (y : Int) (W0 : World) (hw : w = W0.alloc (.cells #[.int .i64 y] 3)) (hq : QAt W0 base v q) {g : Nat} (hx : a.eval x = .slice (some ⟨g, 0, none⟩) 1 1) (hg : W0.heap.size = g)
    (hbl : Below base wb W0) (hb : base ≤ W0.heap.size) (hl : q.length ≤ 100000)
    (h : ∀ v' w', QAt w' base v' (q ++ [y]) → Below base wb w' → W0.heap.size ≤ w'.heap.size → wpList Try.prog ops Q rest (a.put o.dst v') w') : wpList Try.prog ops Q (o :: rest) a w := by
  subst hw hg
  refine wpList_append_q hgd s x ho hs (hq.alloc _) y _ hx (cell_one_new W0 (.int .i64 y) 3 0 _ rfl) (by rw [World.size_alloc]; omega) hl fun v' w' h1 h2 => ?_
  refine h v' w' h1 ((hbl.alloc hb _).trans h2) (Nat.le_trans ?_ h2.size)
  rw [World.size_alloc]; omega
def rrow (E : List (Int × Int)) (R D : List Int) (t : Nat) : List Int := (List.range t).map (fun v : Nat => refV E R D (v : Int))
theorem rrow_succ (E : List (Int × Int)) (R D : List Int) (t : Nat) : rrow E R D (t + 1) = rrow E R D t ++ [refV E R D (t : Int)] := by
  unfold rrow
  rw [List.range_succ, List.map_append]
  rfl
theorem rrow_len (E : List (Int × Int)) (R D : List Int) (t : Nat) : (rrow E R D t).length = t := by unfold rrow; simp
theorem rrow_all (E : List (Int × Int)) (R D : List Int) {N : Nat} (hN : vtN E R D.length = (N : Int)) (hN2 : N ≤ 10001) : rrow E R D N = rndA E R D := by
  unfold rrow rndA
  rw [hN, Int.toNat_natCast]
  refine List.map_congr_left fun v hv => ?_
  have := List.mem_range.1 hv
  exact ref_round E R D (vB_iff.2 (by omega))
set_option maxRecDepth 100000 in
set_option maxHeartbeats 8000000 in
theorem rround_any {w : World} {ve vr vd : Value} {E : List (Int × Int)} {R D : List Int} (he : EdgV w ve E) (hr : IntsV w vr R) (hd : IntsV w vd D) (hn : D.length ≤ 10001) (hEl : E.length ≤ 1000) :
    Calls Try.prog 17 #[ve, vr, vd] w fun e w' => ∃ v, e = .returned v ∧ IntsV w' v (rndA E R D) ∧ Below w.heap.size w w' := by
  have hV := fun W (H : Below w.heap.size w W) => vertices_any (he.below H) (hr.below H) (hd.below H) hn
  have hRt := fun W (H : Below w.heap.size w W) (x : Int) => root_any x (hr.below H)
  obtain ⟨ae, ce, rfl, ne1, me1, re⟩ := he
  obtain ⟨ad, cd, rfl, nd1, md1, rd⟩ := hd
  have rE := fun t (ht : t < E.length) => EdgV.get re ht
  have rD := fun t (ht : t < D.length) => IntsV.get rd ht
  have RE := Lib.hid rE
  have RD := Lib.hid rD
  have hvb := vtN_bd E R (n := D.length) (by omega)
  obtain ⟨N, hN⟩ : ∃ N : Nat, vtN E R D.length = (N : Int) := ⟨(vtN E R D.length).toNat, by omega⟩
  rw [hN] at hV hvb
  have HNV := Lib.hid hN
  have Hra := Lib.hid (rrow_all E R D hN (by omega))
  have HV := Lib.hid hV
  have HRt := Lib.hid hRt
  clear hr re rd rE rD hN hV hRt
  obtain ⟨ne, hne⟩ : ∃ n, E.length = n := ⟨_, rfl⟩
  obtain ⟨nd, hnd⟩ : ∃ n, D.length = n := ⟨_, rfl⟩
  have HNE := Lib.hid hne
  have HND := Lib.hid hnd
  rw [hne] at hEl ne1 RE
  rw [hnd] at hn nd1 RD
  simp only [hne, hnd] at HV
  rw [hne, hnd]
  clear hne hnd
  go_enter Try.func17, Try.ntmps17
  go_wp2_with fail
  go_loopw [7, 8] (fun v7 i wr => ∃ t : Nat, t ≤ N ∧ i = .int .i64 t ∧ QAt wr w.heap.size v7 (rrow E R D t) ∧ Below w.heap.size w wr) (fun v7 i _ => N - (intOf i).toNat)
  case atStart => exact ⟨0, Nat.zero_le _, rfl, QAt.made w (Nat.le_refl _), balloc (Below.refl _ _) _⟩
  case round =>
    obtain ⟨t, ht, rfl, hQ0, hbr0⟩ := hrel
    have hV1 := fun W (H : Below w.heap.size w W) => HV.out W H
    go_wp2_with fail
    refine (hV1 _ (by (repeat (first | exact Below.refl _ _ | assumption | refine Below.drew ?_ | refine below_drewN ?_ _ | refine balloc ?_ _ | refine Below.setCell ?_ (by first | (simp; done) | (simp; omega) | omega) _ | refine bchain (by assumption) ?_)))).mono ?_
    rintro e w1 ⟨rfl, hb1⟩
    have hbr := bchain hb1 hbr0
    have hQ := hQ0.below hb1
    clear hb1 hV1 hQ0 hbr0
    by_cases hlt : t < N
    · obtain ⟨wo, hwo⟩ : ∃ W, W = wr := ⟨_, rfl⟩
      subst hwo
      go_wp2_with fail
      go_loopw [9, 10] (fun m i wr => ∃ k : Nat, k ≤ ne ∧ i = .int .i64 k ∧ m = .int .i64 ((E.take k).foldl (rfS D (t : Int)) 1048576) ∧ Below w1.heap.size w1 wr) (fun m i _ => ne - (intOf i).toNat)
      case atStart => exact ⟨0, Nat.zero_le _, rfl, rfl, Below.refl _ _⟩
      case round =>
        obtain ⟨k, hk, rfl, rfl, hbk⟩ := hrel
        have hbw := bchain hbk hbr
        obtain ⟨hm0, hm1⟩ := rfF_rng (D := D) (v := (t : Int)) (E.take k) 1048576 (by omega)
        by_cases hkn : k < ne
        · obtain ⟨b1, f1, p, q, rfl, hx, q1, q2⟩ := RE.out k hkn
          have q1 := bcellv hbw q1
          have q2 := bcellv hbw q2
          have hs := fold_snoc (f := rfS D (t : Int)) hx 1048576
          have s1 : ((k : Int)).toNat = k := by omega
          have hvp := fun W => rvertex_any p W
          have HS := Lib.hid hs
          clear hx hs
          generalize (E.take k).foldl (rfS D (t : Int)) 1048576 = m0 at *
          by_cases hq : q = (t : Int)
          · subst hq
            cases hp : vB p
            · rw [hp] at hvp
              have HS := Lib.hid (HS.out.trans (show rfS D (t : Int) m0 (p, (t : Int)) = m0 by unfold rfS; simp [hp]))
              have hnn : ((t : Int) != (t : Int)) = false := by simp
              clear hp
              go_wp2_with fail
              refine (hvp _).mono ?_
              rintro e w2 ⟨rfl, hb2⟩
              have hbk := bchain hb2 hbk
              go_wp2
              go_roundw
              case rel => exact ⟨k + 1, by omega, by go_num, by rw [HS.out], hbk⟩
              case measure => simp [intOf]; omega
            · rw [hp] at hvp
              obtain ⟨p0, p1⟩ := vB_iff.1 hp
              obtain ⟨p, rfl⟩ := Int.eq_ofNat_of_zero_le p0
              have hnn : ((t : Int) != (t : Int)) = false := by simp
              have s3 : ((p : Int)).toNat = p := by omega
              by_cases hpd : p < nd
              · obtain ⟨b2, f2, x, rfl, hx, q3⟩ := RD.out p hpd
                have q3 := bcellv hbw q3
                have HS := Lib.hid (HS.out.trans (show rfS D (t : Int) m0 ((p : Int), (t : Int)) = min m0 (max x 0) by
                  unfold rfS
                  simp only [hp, HND.out, Int.toNat_natCast, List.getD_eq_getElem?_getD, hx, Option.getD_some]
                  simp [hpd]))
                have hd1 : decide ((p : Int) < (nd : Int)) = true := by simpa using hpd
                clear hp hx
                go_wp2_with fail
                refine (hvp _).mono ?_
                rintro e w2 ⟨rfl, hb2⟩
                have hbk := bchain hb2 hbk
                have q1 := bcellv hb2 q1
                have q2 := bcellv hb2 q2
                have q3 := bcellv hb2 q3
                clear hb2 hvp
                go_upto_region 8 with fail
                have hz : (if (if x < 0 then 0 else x) < m0 then if x < 0 then 0 else x else m0) = min m0 (max x 0) := by (repeat' split) <;> omega
                rw [hz]
                clear hz
                generalize min m0 (max x 0) = m1 at *
                go_wp2
                go_roundw
                case rel => exact ⟨k + 1, by omega, by go_num, by rw [HS.out], hbk⟩
                case measure => simp [intOf]; omega
              · have HS := Lib.hid (HS.out.trans (show rfS D (t : Int) m0 ((p : Int), (t : Int)) = 0 by
                  unfold rfS
                  simp only [hp, HND.out]
                  simp [hpd]
                  omega))
                have hd1 : decide ((p : Int) < (nd : Int)) = false := by simpa using hpd
                clear hp
                go_wp2_with fail
                refine (hvp _).mono ?_
                rintro e w2 ⟨rfl, hb2⟩
                have hbk := bchain hb2 hbk
                have q1 := bcellv hb2 q1
                have q2 := bcellv hb2 q2
                clear hb2 hvp
                go_upto_region 8 with fail
                have hz : (if 0 < m0 then 0 else m0) = 0 := by split <;> omega
                try rw [hz]
                clear hz
                go_wp2
                go_roundw
                case rel => exact ⟨k + 1, by omega, by go_num, by rw [HS.out], hbk⟩
                case measure => simp [intOf]; omega
          · have HS := Lib.hid (HS.out.trans (show rfS D (t : Int) m0 (p, q) = m0 by unfold rfS; simp [hq]))
            have hnn : (q != (t : Int)) = true := by simpa using hq
            go_wp2
            go_roundw
            case rel => exact ⟨k + 1, by omega, by go_num, by rw [HS.out], hbk⟩
            case measure => simp [intOf]; omega
        · have hkn' : k = ne := by omega
          have he1 : E.take k = E := by rw [hkn', ← HNE.out, List.take_length]
          rw [he1] at hm0 hm1 ⊢
          have hrs := rrow_succ E R D t
          have hrl := rrow_len E R D t
          have hrv := refV_eq E R D (t : Int)
          have hRt := fun W (H : Below w.heap.size w W) => HRt.out W H (t : Int)
          generalize E.foldl (rfS D (t : Int)) 1048576 = m0 at *
          have s5 : wrap64 (m0 + 1) = m0 + 1 := IntWalk.wrap64_in _ (by omega)
          have s6 : IntKind.i64.wrap (m0 + 1) = m0 + 1 := IntWalk.i64_in _ (by omega)
          have hQw := hQ.below hbk
          generalize R.contains (t : Int) = rc at *
          rw [hrv] at hrs
          have HRS := Lib.hid hrs
          have HRL := Lib.hid hrl
          clear hrs hrv he1 hrl hQ
          go_upto_region 15 with fail
          have hz : (if m0 + 1 < 1048576 then m0 + 1 else 1048576) = min 1048576 (m0 + 1) := by split <;> omega
          rw [hz]
          clear hz
          generalize min 1048576 (m0 + 1) = d0 at *
          go_wp2_with fail
          refine (hRt _ (by (repeat (first | exact Below.refl _ _ | assumption | refine Below.drew ?_ | refine below_drewN ?_ _ | refine balloc ?_ _ | refine Below.setCell ?_ (by first | (simp; done) | (simp; omega) | omega) _ | refine bchain (by assumption) ?_)))).mono ?_
          rintro e w2 ⟨rfl, hb2⟩
          have hbw := bchain hb2 hbw
          have hQw := hQw.below hb2
          have hzw := hbw.size
          clear hb2 hRt
          have hql := HRL.out
          generalize rrow E R D t = row at *
          obtain ⟨a7, c7, e7⟩ := id hQw.form
          subst e7
          have HQL := Lib.hid (show row.length ≤ 100000 by omega)
          clear hql
          cases rc
          · go_wp2_with (at_builtin; refine step_append_row rfl _ _ rfl rfl d0 _ rfl hQw rfl rfl hbw hzw HQL.out ?_; intro v' w4 hq4 hb4 hz4)
            go_wp2
            go_roundw
            case rel => exact ⟨t + 1, by omega, by go_num, by rw [HRS.out]; exact hq4, hb4⟩
            case measure => simp [intOf]; omega
          · go_wp2_with (at_builtin; refine step_append_row rfl _ _ rfl rfl 0 _ rfl hQw rfl rfl hbw hzw HQL.out ?_; intro v' w4 hq4 hb4 hz4)
            go_wp2
            go_roundw
            case rel => exact ⟨t + 1, by omega, by go_num, by rw [HRS.out]; exact hq4, hb4⟩
            case measure => simp [intOf]; omega
    · have htn : t = N := by omega
      subst htn
      rw [Hra.out] at hQ
      have hfin := hQ.ints
      go_wp2
      go_ret
      exact ⟨_, rfl, hfin, hbr⟩
end Go.Proofs.Ytbkfjhbebhnijaa
