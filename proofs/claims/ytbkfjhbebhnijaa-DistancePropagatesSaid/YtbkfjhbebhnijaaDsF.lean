/-
  law 31: the number of vertices; small graphs.
-/
import Derived.Test.YtbkfjhbebhnijaaDsE
namespace Go.Proofs.Ytbkfjhbebhnijaa
open Go.RowKit
set_option linter.unusedSimpArgs false
set_option linter.unusedVariables false

theorem fold_snoc {α β : Type} {f : β → α → β} {l : List α} {t : Nat} {x : α} (h : l[t]? = some x) (b : β) : (l.take (t + 1)).foldl f b = f ((l.take t).foldl f b) x := by
  obtain ⟨h1, h2⟩ := List.getElem?_eq_some_iff.1 h
  rw [List.take_succ_eq_append_getElem h1, h2, List.foldl_append]
  rfl
theorem EdgV.get {w : World} {a : Option Addr} {E : List (Int × Int)} (h : E = [] ∨ ∃ b off : Nat, a = some ⟨b, off, none⟩ ∧ ∀ i e, E[i]? = some e → w.cell? ⟨b, off + i * 2, none⟩ = some (.int .i64 e.1) ∧ w.cell? ⟨b, off + i * 2 + 1, none⟩ = some (.int .i64 e.2)) {t : Nat} (ht : t < E.length) : ∃ b off : Nat, ∃ p q : Int, a = some ⟨b, off, none⟩ ∧ E[t]? = some (p, q) ∧ w.cell? ⟨b, off + t * 2, none⟩ = some (.int .i64 p) ∧ w.cell? ⟨b, off + t * 2 + 1, none⟩ = some (.int .i64 q) := by
  rcases h with h | ⟨b, off, ha, h⟩
  · rw [h] at ht
    simp at ht
  · have he := List.getElem?_eq_getElem ht
    obtain ⟨h1, h2⟩ := h t _ he
    exact ⟨b, off, E[t].1, E[t].2, ha, he, h1, h2⟩
theorem IntsV.get {w : World} {a : Option Addr} {xs : List Int} (h : xs = [] ∨ ∃ b off : Nat, a = some ⟨b, off, none⟩ ∧ ∀ i x, xs[i]? = some x → w.cell? ⟨b, off + i, none⟩ = some (.int .i64 x)) {t : Nat} (ht : t < xs.length) : ∃ b off : Nat, ∃ x : Int, a = some ⟨b, off, none⟩ ∧ xs[t]? = some x ∧ w.cell? ⟨b, off + t, none⟩ = some (.int .i64 x) := by
  rcases h with h | ⟨b, off, ha, h⟩
  · rw [h] at ht
    simp at ht
  · have he := List.getElem?_eq_getElem ht
    exact ⟨b, off, _, ha, he, h t _ he⟩
theorem vtE_rng {E : List (Int × Int)} {n : Int} (h0 : 0 ≤ n) (h1 : n ≤ 10001) (t : Nat) : 0 ≤ (E.take t).foldl vtE n ∧ (E.take t).foldl vtE n ≤ 10001 := ⟨Int.le_trans h0 (vtE_ge _ n), vtE_le _ n h1⟩
theorem vtR_rng {R : List Int} {n : Int} (h0 : 0 ≤ n) (h1 : n ≤ 10001) (t : Nat) : 0 ≤ (R.take t).foldl vtR n ∧ (R.take t).foldl vtR n ≤ 10001 := ⟨Int.le_trans h0 (vtR_ge _ n), vtR_le _ n h1⟩
set_option maxRecDepth 100000 in
set_option maxHeartbeats 4000000 in
theorem vertices_any {w : World} {ve vr vd : Value} {E : List (Int × Int)} {R D : List Int} (he : EdgV w ve E) (hr : IntsV w vr R) (hd : IntsV w vd D) (hD : D.length ≤ 10001) : Calls Try.prog 19 #[ve, vr, vd] w fun e w' => e = .returned (.int .i64 (vtN E R D.length)) ∧ Below w.heap.size w w' := by
  obtain ⟨a1, c1, rfl, n1, m1, r1⟩ := he
  obtain ⟨a2, c2, rfl, n2, m2, r2⟩ := hr
  obtain ⟨a3, c3, rfl, n3, m3, _⟩ := hd
  have hvt : vtN E R D.length = R.foldl vtR (E.foldl vtE (D.length : Int)) := by unfold vtN; rw [show min (D.length : Int) 10001 = D.length by omega]
  rw [hvt]
  generalize D.length = dl at *
  have hdi : (dl : Int) ≤ 10001 := by omega
  have hdn : ¬ (10001 : Int) < (dl : Int) := by omega
  have hd0 : (0 : Int) ≤ (dl : Int) := by omega
  obtain ⟨ne, hne⟩ : ∃ n, n = E.length := ⟨_, rfl⟩
  obtain ⟨nr, hnr⟩ : ∃ n, n = R.length := ⟨_, rfl⟩
  rw [← hne] at n1 ⊢
  rw [← hnr] at n2 ⊢
  have hE := vtE_rng (E := E) hd0 hdi
  have hE9 : E.foldl vtE (dl : Int) = (E.take ne).foldl vtE (dl : Int) := by rw [hne, List.take_length]
  rw [hE9]
  have HE := Lib.hid hE
  clear hE9 hE
  have hw0 : Below w.heap.size w w := Below.refl _ _
  go_enter Try.func19, Try.ntmps19
  go_wp2
  go_loopw [7, 8] (fun m i wr => ∃ t : Nat, t ≤ ne ∧ i = .int .i64 t ∧ m = .int .i64 ((E.take t).foldl vtE (dl : Int)) ∧ Below w.heap.size w wr) (fun m i _ => ne - (intOf i).toNat)
  case atStart => exact ⟨0, Nat.zero_le _, rfl, rfl, Below.refl _ _⟩
  case round =>
    obtain ⟨t, ht, rfl, rfl, hbr⟩ := hrel
    obtain ⟨hm0, hm1⟩ := HE.out t
    by_cases hlt : t < ne
    · obtain ⟨b1, f1, p, q, rfl, hx, q1, q2⟩ := EdgV.get r1 (show t < E.length by omega)
      have q1 := bcellv hbr q1
      have q2 := bcellv hbr q2
      have hs := fold_snoc (f := vtE) hx (dl : Int)
      have s1 : ((t : Int)).toNat = t := by omega
      have HS := Lib.hid hs
      clear r1 hx hs
      generalize (E.take t).foldl vtE (dl : Int) = m0 at *
      have hvp := fun W => rvertex_any p W
      have hvq := fun W => rvertex_any q W
      cases hp : vB p
      · rw [hp] at hvp
        have HS := Lib.hid (HS.out.trans (show vtE m0 (p, q) = m0 by unfold vtE; simp [hp]))
        go_wp2_with fail
        refine (hvp _).mono ?_
        rintro e w1 ⟨rfl, hb1⟩
        have hbr := bchain hb1 hbr
        go_wp2
        go_roundw
        case rel => exact ⟨t + 1, by omega, by go_num, by rw [HS.out], by (repeat (first | exact Below.refl _ _ | assumption | refine Below.drew ?_ | refine below_drewN ?_ _ | refine balloc ?_ _ | refine Below.setCell ?_ (by first | (simp; done) | (simp; omega) | omega) _ | refine bchain (by assumption) ?_))⟩
        case measure => simp [intOf]; omega
      · rw [hp] at hvp
        go_wp2_with fail
        refine (hvp _).mono ?_
        rintro e w1 ⟨rfl, hb1⟩
        have hbr := bchain hb1 hbr
        have q1 := bcellv hb1 q1
        have q2 := bcellv hb1 q2
        clear hb1 hvp
        cases hq : vB q
        · rw [hq] at hvq
          have HS := Lib.hid (HS.out.trans (show vtE m0 (p, q) = m0 by unfold vtE; simp [hq]))
          go_wp2_with fail
          refine (hvq _).mono ?_
          rintro e w2 ⟨rfl, hb2⟩
          have hbr := bchain hb2 hbr
          go_wp2
          go_roundw
          case rel => exact ⟨t + 1, by omega, by go_num, by rw [HS.out], by (repeat (first | exact Below.refl _ _ | assumption | refine Below.drew ?_ | refine below_drewN ?_ _ | refine balloc ?_ _ | refine Below.setCell ?_ (by first | (simp; done) | (simp; omega) | omega) _ | refine bchain (by assumption) ?_))⟩
          case measure => simp [intOf]; omega
        · rw [hq] at hvq
          have HS := Lib.hid (HS.out.trans (show vtE m0 (p, q) = max (max m0 (p + 1)) (q + 1) by unfold vtE; simp [hp, hq]))
          have hp0 := vB_iff.1 hp
          have hq0 := vB_iff.1 hq
          have s2 : wrap64 (p + 1) = p + 1 := IntWalk.wrap64_in _ (by omega)
          have s3 : wrap64 (q + 1) = q + 1 := IntWalk.wrap64_in _ (by omega)
          have s4 : IntKind.i64.wrap (p + 1) = p + 1 := IntWalk.i64_in _ (by omega)
          have s5 : IntKind.i64.wrap (q + 1) = q + 1 := IntWalk.i64_in _ (by omega)
          clear hp hq
          go_wp2_with fail
          refine (hvq _).mono ?_
          rintro e w2 ⟨rfl, hb2⟩
          have hbr := bchain hb2 hbr
          have q1 := bcellv hb2 q1
          have q2 := bcellv hb2 q2
          clear hb2 hvq
          have o1 : ∀ x, (over w2 x).cell? ⟨b1, f1 + t * 2, none⟩ = some (.int .i64 p) := over_cell q1
          have o2 : ∀ x, (over w2 x).cell? ⟨b1, f1 + t * 2 + 1, none⟩ = some (.int .i64 q) := over_cell q2
          go_wp2_with fail
          (refine wp_region_over (by kernel_rfl) (by kernel_rfl) ?_); (repeat (go_big_quiet_step ((fail)))); (refine wpQuiet_nil ?_)
          intro w3 hb3
          have hbr := bchain hb3 hbr
          have hz : (if (if m0 < p + 1 then p + 1 else m0) < q + 1 then q + 1 else if m0 < p + 1 then p + 1 else m0) = max (max m0 (p + 1)) (q + 1) := by (repeat' split) <;> omega
          rw [hz]
          generalize max (max m0 (p + 1)) (q + 1) = z at *
          clear o1 o2 hz
          go_wp2
          go_roundw
          case rel => exact ⟨t + 1, by omega, by go_num, by rw [HS.out], by (repeat (first | exact Below.refl _ _ | assumption | refine Below.drew ?_ | refine below_drewN ?_ _ | refine balloc ?_ _ | refine Below.setCell ?_ (by first | (simp; done) | (simp; omega) | omega) _ | refine bchain (by assumption) ?_))⟩
          case measure => simp [intOf]; omega
    · have htn : t = ne := by omega
      subst htn
      have hR := vtR_rng (R := R) hm0 hm1
      have HR := Lib.hid hR
      obtain ⟨z0, hz0⟩ : ∃ z, (E.take t).foldl vtE (dl : Int) = z := ⟨_, rfl⟩
      rw [hz0] at HR ⊢
      have HZ := Lib.hid hz0
      clear hz0
      have hR9 : R.foldl vtR z0 = (R.take nr).foldl vtR z0 := by rw [hnr, List.take_length]
      have HR9 := Lib.hid hR9
      have HNR := Lib.hid hnr
      have hn9 : ¬ t < E.length := by omega
      have hd9 : decide ((t : Int) < (E.length : Int)) = false := by simp; omega
      clear hR hR9 r1 hne hnr
      go_wp2
      go_loopw [7, 9] (fun m i wr => ∃ t : Nat, t ≤ nr ∧ i = .int .i64 t ∧ m = .int .i64 ((R.take t).foldl vtR z0) ∧ Below w.heap.size w wr) (fun m i _ => nr - (intOf i).toNat)
      case atStart => exact ⟨0, Nat.zero_le _, rfl, rfl, hbr⟩
      case round =>
        clear hbr hlt
        obtain ⟨k, hk, rfl, rfl, hbr⟩ := hrel
        obtain ⟨hm0, hm1⟩ := HR.out k
        by_cases hlt : k < nr
        · obtain ⟨b1, f1, p, rfl, hx, q1⟩ := IntsV.get r2 (show k < R.length by have := HNR.out; omega)
          have q1 := bcellv hbr q1
          have hs := fold_snoc (f := vtR) hx z0
          have s1 : ((k : Int)).toNat = k := by omega
          have hn8 : k < R.length := by have := HNR.out; omega
          have hd8 : decide ((k : Int) < (R.length : Int)) = true := by have := HNR.out; simp; omega
          have hl8 : (k : Int) < (R.length : Int) := by have := HNR.out; omega
          have HS := Lib.hid hs
          clear r2 hx hs
          generalize (R.take k).foldl vtR z0 = m0 at *
          have hvp := fun W => rvertex_any p W
          cases hp : vB p
          · rw [hp] at hvp
            have HS := Lib.hid (HS.out.trans (show vtR m0 p = m0 by unfold vtR; simp [hp]))
            go_wp2_with fail
            refine (hvp _).mono ?_
            rintro e w1 ⟨rfl, hb1⟩
            have hbr := bchain hb1 hbr
            go_wp2
            go_roundw
            case rel => exact ⟨k + 1, by omega, by go_num, by rw [HS.out], by (repeat (first | exact Below.refl _ _ | assumption | refine Below.drew ?_ | refine below_drewN ?_ _ | refine balloc ?_ _ | refine Below.setCell ?_ (by first | (simp; done) | (simp; omega) | omega) _ | refine bchain (by assumption) ?_))⟩
            case measure => simp [intOf]; omega
          · rw [hp] at hvp
            have HS := Lib.hid (HS.out.trans (show vtR m0 p = max m0 (p + 1) by unfold vtR; simp [hp]))
            have hp0 := vB_iff.1 hp
            have s2 : wrap64 (p + 1) = p + 1 := IntWalk.wrap64_in _ (by omega)
            have s4 : IntKind.i64.wrap (p + 1) = p + 1 := IntWalk.i64_in _ (by omega)
            clear hp
            go_wp2_with fail
            refine (hvp _).mono ?_
            rintro e w1 ⟨rfl, hb1⟩
            have hbr := bchain hb1 hbr
            have q1 := bcellv hb1 q1
            clear hb1 hvp
            go_wp2
            go_roundw
            case rel => exact ⟨k + 1, by omega, by go_num, by rw [HS.out]; congr 1; (repeat' split) <;> omega, by (repeat (first | exact Below.refl _ _ | assumption | refine Below.drew ?_ | refine below_drewN ?_ _ | refine balloc ?_ _ | refine Below.setCell ?_ (by first | (simp; done) | (simp; omega) | omega) _ | refine bchain (by assumption) ?_))⟩
            case measure => simp [intOf]; omega
        · have hkn : k = nr := by omega
          subst hkn
          have H9 := HR9
          have hn8 : ¬ k < R.length := by have := HNR.out; omega
          have hd8 : decide ((k : Int) < (R.length : Int)) = false := by have := HNR.out; simp; omega
          clear HR HR9
          generalize (R.take k).foldl vtR z0 = m0 at *
          go_wp2
          go_ret
          exact ⟨ret_int (by rw [HZ.out]; exact H9.out.symm), by (repeat (first | exact Below.refl _ _ | assumption | refine Below.drew ?_ | refine below_drewN ?_ _ | refine balloc ?_ _ | refine Below.setCell ?_ (by first | (simp; done) | (simp; omega) | omega) _ | refine bchain (by assumption) ?_))⟩
end Go.Proofs.Ytbkfjhbebhnijaa
