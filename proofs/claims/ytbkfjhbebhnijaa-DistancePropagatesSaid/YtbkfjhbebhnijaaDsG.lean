/-
  law 31: is a graph small?
-/
import Derived.Test.YtbkfjhbebhnijaaDsF
namespace Go.Proofs.Ytbkfjhbebhnijaa
open Go.RowKit
set_option linter.unusedSimpArgs false
set_option linter.unusedVariables false

/-- What Few says. -/
def FewP (w : World) (ne nr nd : Nat) (e : Ending) (w' : World) : Prop := ∃ b : Bool, e = .returned (.bool b) ∧ (b = true → ne ≤ 60 ∧ nr ≤ 10 ∧ nd ≤ 40) ∧ Below w.heap.size w w'
set_option maxRecDepth 100000 in
set_option maxHeartbeats 8000000 in
theorem few_any {w : World} {ve vr vd : Value} {E : List (Int × Int)} {R D : List Int} (he : EdgV w ve E) (hr : IntsV w vr R) (hd : IntsV w vd D) : Calls Try.prog 14 #[ve, vr, vd] w (FewP w E.length R.length D.length) := by
  obtain ⟨a1, c1, rfl, n1, m1, r1⟩ := he
  obtain ⟨a2, c2, rfl, n2, m2, r2⟩ := hr
  obtain ⟨a3, c3, rfl, n3, m3, _⟩ := hd
  have rE := fun t (ht : t < E.length) => EdgV.get r1 ht
  have rR := fun t (ht : t < R.length) => IntsV.get r2 ht
  have RE := Lib.hid rE
  have RR := Lib.hid rR
  clear r1 r2 rE rR
  generalize E.length = ne at *
  generalize R.length = nr at *
  generalize D.length = nd at *
  go_enter Try.func14, Try.ntmps14
  go_wp2
  go_loopw [7] (fun i wr => ∃ t : Nat, t ≤ ne ∧ i = .int .i64 t ∧ Below w.heap.size w wr) (fun i _ => ne - (intOf i).toNat)
  case atStart => exact ⟨0, Nat.zero_le _, rfl, Below.refl _ _⟩
  case round =>
    obtain ⟨t, ht, rfl, hbr⟩ := hrel
    by_cases hlt : t < ne
    · obtain ⟨b1, f1, p, q, rfl, _, q1, q2⟩ := RE.out t hlt
      have q1 := bcellv hbr q1
      have q2 := bcellv hbr q2
      have s1 : ((t : Int)).toNat = t := by omega
      clear RE RR
      by_cases a1 : 40 < p <;> by_cases a2 : p ≤ 10000 <;> by_cases a3 : 40 < q <;> by_cases a4 : q ≤ 10000
      all_goals first
        | (exfalso; omega)
        | (go_wp2
           go_ret
           exact ⟨false, rfl, (fun h => by cases h), by (repeat (first | exact Below.refl _ _ | assumption | refine Below.drew ?_ | refine below_drewN ?_ _ | refine balloc ?_ _ | refine Below.setCell ?_ (by first | (simp; done) | (simp; omega) | omega) _ | refine bchain (by assumption) ?_))⟩)
        | (go_wp2
           go_roundw
           case rel => exact ⟨t + 1, by omega, by go_num, by (repeat (first | exact Below.refl _ _ | assumption | refine Below.drew ?_ | refine below_drewN ?_ _ | refine balloc ?_ _ | refine Below.setCell ?_ (by first | (simp; done) | (simp; omega) | omega) _ | refine bchain (by assumption) ?_))⟩
           case measure => simp [intOf]; omega)
    · have htn : t = ne := by omega
      subst htn
      clear RE
      go_wp2
      go_loopw [8] (fun i wr => ∃ t : Nat, t ≤ nr ∧ i = .int .i64 t ∧ Below w.heap.size w wr) (fun i _ => nr - (intOf i).toNat)
      case atStart => exact ⟨0, Nat.zero_le _, rfl, hbr⟩
      case round =>
        clear hbr hlt
        obtain ⟨k, hk, rfl, hbr⟩ := hrel
        by_cases hlt : k < nr
        · obtain ⟨b1, f1, p, rfl, _, q1⟩ := RR.out k hlt
          have q1 := bcellv hbr q1
          have s1 : ((k : Int)).toNat = k := by omega
          clear RR
          by_cases a1 : 40 < p <;> by_cases a2 : p ≤ 10000
          all_goals first
            | (exfalso; omega)
            | (go_wp2
               go_ret
               exact ⟨false, rfl, (fun h => by cases h), by (repeat (first | exact Below.refl _ _ | assumption | refine Below.drew ?_ | refine below_drewN ?_ _ | refine balloc ?_ _ | refine Below.setCell ?_ (by first | (simp; done) | (simp; omega) | omega) _ | refine bchain (by assumption) ?_))⟩)
            | (go_wp2
               go_roundw
               case rel => exact ⟨k + 1, by omega, by go_num, by (repeat (first | exact Below.refl _ _ | assumption | refine Below.drew ?_ | refine below_drewN ?_ _ | refine balloc ?_ _ | refine Below.setCell ?_ (by first | (simp; done) | (simp; omega) | omega) _ | refine bchain (by assumption) ?_))⟩
               case measure => simp [intOf]; omega)
        · have htn : k = nr := by omega
          subst htn
          clear RR
          by_cases a1 : t ≤ 60 <;> by_cases a2 : k ≤ 10 <;> by_cases a3 : nd ≤ 40
          all_goals (go_wp2; go_ret)
          all_goals first
            | exact ⟨decide ((nd : Int) ≤ 40), rfl, fun h => ⟨by omega, by omega, by have := of_decide_eq_true h; omega⟩, by (repeat (first | exact Below.refl _ _ | assumption | refine Below.drew ?_ | refine below_drewN ?_ _ | refine balloc ?_ _ | refine Below.setCell ?_ (by first | (simp; done) | (simp; omega) | omega) _ | refine bchain (by assumption) ?_))⟩
            | exact ⟨true, rfl, fun _ => ⟨by omega, by omega, by omega⟩, by (repeat (first | exact Below.refl _ _ | assumption | refine Below.drew ?_ | refine below_drewN ?_ _ | refine balloc ?_ _ | refine Below.setCell ?_ (by first | (simp; done) | (simp; omega) | omega) _ | refine bchain (by assumption) ?_))⟩
            | exact ⟨false, rfl, (fun h => by cases h), by (repeat (first | exact Below.refl _ _ | assumption | refine Below.drew ?_ | refine below_drewN ?_ _ | refine balloc ?_ _ | refine Below.setCell ?_ (by first | (simp; done) | (simp; omega) | omega) _ | refine bchain (by assumption) ?_))⟩
end Go.Proofs.Ytbkfjhbebhnijaa
