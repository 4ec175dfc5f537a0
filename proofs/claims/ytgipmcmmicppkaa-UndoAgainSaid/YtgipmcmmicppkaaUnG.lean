/-
  law 13: a turn on both sides.
-/
import Derived.Test.YtgipmcmmicppkaaUnF
import Derived.Test.YtgipmcmmicppkaaUnO
import Derived.Deep.CutRange
namespace Go.Proofs.Ytgipmcmmicppkaa
open Go.RowKit
set_option linter.unusedSimpArgs false
set_option linter.unusedVariables false

noncomputable def stp (lo ly : Int) (x : M13 × Int) (o : Op13) : M13 × Int := (stpS lo ly x.1 x.2 o.kd o.nf o.a o.u o.raw, stpN x.2 o.kd)
noncomputable def tnS (lo ly : Int) (x : M13 × Int) (o : Op13) : M13 × Int := if o.kd = 1 ∨ o.kd = 4 then (stpS lo ly x.1 x.2 o.kd o.nf o.a o.u false, stpN x.2 o.kd) else x
noncomputable def tnR (lo ly : Int) (x : M13 × Int) (l : List Op13) : M13 × Int := l.foldl (tnS lo ly) x
theorem tnR_snoc (lo ly : Int) (x : M13 × Int) (l : List Op13) (o : Op13) : tnR lo ly x (l ++ [o]) = tnS lo ly (tnR lo ly x l) o := by
  unfold tnR
  rw [List.foldl_append]
  rfl
theorem ntS_len (s : M13) (a : Int) : (ntS s a).nt.length ≤ s.nt.length + 1 := by
  unfold ntS
  split
  · split
    · simp
    · omega
  · omega
theorem stpS_len (lo ly : Int) (s : M13) (nn kd nf a u : Int) (raw : Bool) : (stpS lo ly s nn kd nf a u raw).nt.length ≤ s.nt.length + 1 := by
  unfold stpS
  repeat' split
  · exact Nat.le_succ _
  · exact Nat.le_succ _
  · exact ntS_len _ _
  · exact Nat.le_succ _
  · exact ntS_len _ _
  · unfold bgS
    split
    · exact Nat.le_succ _
    · exact Nat.zero_le _
  · unfold cmS
    split
    · exact Nat.zero_le _
    · exact Nat.le_succ _
  · unfold rlS
    split
    · exact Nat.zero_le _
    · exact Nat.le_succ _
  · exact Nat.le_succ _
theorem stpN_bd (nn kd : Int) : nn ≤ stpN nn kd ∧ stpN nn kd ≤ nn + 1 := by
  unfold stpN
  repeat' split
  all_goals omega
theorem tnS_bd (lo ly : Int) (x : M13 × Int) (o : Op13) : (tnS lo ly x o).1.nt.length ≤ x.1.nt.length + 1 ∧ x.2 ≤ (tnS lo ly x o).2 ∧ (tnS lo ly x o).2 ≤ x.2 + 1 := by
  unfold tnS
  split
  · exact ⟨stpS_len _ _ _ _ _ _ _ _ _, stpN_bd _ _⟩
  · exact ⟨Nat.le_succ _, by omega, by omega⟩
theorem tnR_bd (lo ly : Int) : ∀ (l : List Op13) (x : M13 × Int), (tnR lo ly x l).1.nt.length ≤ x.1.nt.length + l.length ∧ x.2 ≤ (tnR lo ly x l).2 ∧ (tnR lo ly x l).2 ≤ x.2 + l.length := by
  intro l
  induction l with
  | nil => intro x; exact ⟨Nat.le_refl _, by simp [tnR], by simp [tnR]⟩
  | cons o l ih =>
    intro x
    have h1 := ih (tnS lo ly x o)
    have h2 := tnS_bd lo ly x o
    have e : tnR lo ly x (o :: l) = tnR lo ly (tnS lo ly x o) l := rfl
    rw [e, List.length_cons]
    omega
theorem take_snoc13 {α : Type} {l : List α} {t : Nat} {o : α} (h : l[t]? = some o) : l.take (t + 1) = l.take t ++ [o] := by
  rw [List.take_add_one, h]
  rfl
set_option maxRecDepth 100000 in
set_option maxHeartbeats 4000000 in
theorem turn_any {w : World} {D : Dom} {p : Nat} {lo ly nn : Int} {s : M13} {n : Nat} {a : Option Addr} {l : List Op13} {cap : Nat} (h : WW w D p lo ly s s nn) (hops : Ops13 w n a l) (hD : ∀ k, D.D k → n ≤ k) (hcap : l.length ≤ cap) (hc63 : cap ≤ 9223372036854775807) (hnn : 0 ≤ nn) (hnn1 : nn + l.length < 4611686018427387904) (hn : s.nt.length + l.length ≤ 100000) :
    Calls Try.prog 24 #[.pointer (some ⟨p, 0, none⟩), .slice a l.length cap] w fun e w' => e = .returned (.bool true) ∧ WNx w D p lo ly (tnR lo ly (s, nn) l).1 (tnR lo ly (s, nn) l).1 (tnR lo ly (s, nn) l).2 w' := by
  go_enter Try.func24, Try.ntmps24
  go_wp2_with fail
  have h0 : WNx w D p lo ly (tnR lo ly (s, nn) (l.take 0)).1 (tnR lo ly (s, nn) (l.take 0)).1 (tnR lo ly (s, nn) (l.take 0)).2 w := ⟨h, Mods.refl _ _⟩
  clear h
  go_loopw [9] (fun q wr => ∃ t : Nat, t ≤ l.length ∧ q = .int .i64 t ∧ WNx w D p lo ly (tnR lo ly (s, nn) (l.take t)).1 (tnR lo ly (s, nn) (l.take t)).1 (tnR lo ly (s, nn) (l.take t)).2 wr) (fun q _ => l.length - (intOf q).toNat)
  case atStart => exact ⟨0, Nat.zero_le _, rfl, h0⟩
  case round =>
    clear h0
    obtain ⟨t, ht, rfl, hA⟩ := hrel
    by_cases hlt : t < l.length
    · have hops := hops.mods hA.2 hD
      obtain ⟨b, off, rfl, hbw, hO⟩ := hops.get t hlt
      obtain ⟨o, ho⟩ : ∃ o, l[t]? = some o := ⟨_, List.getElem?_eq_getElem hlt⟩
      rw [(List.getElem?_eq_some_iff.1 ho).2] at hO
      obtain ⟨kd, nf, oa, u, orw⟩ := o
      obtain ⟨c0, c1, c2, c3, c4, ok⟩ := hO
      simp only [Addr.add_lit, Nat.add_zero] at c0 c1 c2 c3 c4
      have s1 : ((t : Int)).toNat = t := by omega
      have hbd := tnR_bd lo ly (l.take t) (s, nn)
      rw [List.length_take, Nat.min_eq_left ht] at hbd
      simp only at hbd
      have hrun := tnR_snoc lo ly (s, nn) (l.take t) ⟨kd, nf, oa, u, orw⟩
      rw [← take_snoc13 ho] at hrun
      unfold tnS at hrun
      have Hrun := Lib.hid hrun
      obtain ⟨X, hX⟩ : ∃ X, tnR lo ly (s, nn) (l.take t) = X := ⟨_, rfl⟩
      rw [hX] at hA hbd Hrun
      have hA1 := hA.1
      have hST := fun (W : World) (H : Below wr.heap.size wr W) => step_any kd nf oa u false (hA1.below H) (by omega) (by omega) ok.k0 ok.n0 ok.n1 ok.u0 (by omega)
      have HST := Lib.hid hST
      have HA := Lib.hid hA
      have hcb := World.block_lt_of_cell? _ _ c0
      clear hrun hX hA hA1 hST hbd hops ho ok
      by_cases h1 : kd = 1
      · subst h1
        go_wp2_with fail
        refine (HST.out _ (by (repeat (first | exact Below.refl _ _ | assumption | refine Below.drew ?_ | refine below_drewN ?_ _ | refine balloc ?_ _ | refine Below.setCell ?_ (by first | (simp; done) | (simp; omega) | omega) _ | refine bchain (by assumption) ?_)))).mono ?_
        rintro e w4 ⟨rfl, h4⟩
        have hfin := WNx.trans HA.out (WNx.pre HA.out.1 (by (repeat (first | exact Below.refl _ _ | assumption | refine Below.drew ?_ | refine below_drewN ?_ _ | refine balloc ?_ _ | refine Below.setCell ?_ (by first | (simp; done) | (simp; omega) | omega) _ | refine bchain (by assumption) ?_))) h4)
        have HF := Lib.hid hfin
        clear h4 hfin
        go_wp2_with fail
        go_roundw
        case rel => exact ⟨t + 1, by omega, by go_num, (by rw [Hrun.out]; exact HF.out)⟩
        case measure => simp [intOf]; omega
      by_cases h4 : kd = 4
      · subst h4
        go_wp2_with fail
        refine (HST.out _ (by (repeat (first | exact Below.refl _ _ | assumption | refine Below.drew ?_ | refine below_drewN ?_ _ | refine balloc ?_ _ | refine Below.setCell ?_ (by first | (simp; done) | (simp; omega) | omega) _ | refine bchain (by assumption) ?_)))).mono ?_
        rintro e w4 ⟨rfl, h4⟩
        have hfin := WNx.trans HA.out (WNx.pre HA.out.1 (by (repeat (first | exact Below.refl _ _ | assumption | refine Below.drew ?_ | refine below_drewN ?_ _ | refine balloc ?_ _ | refine Below.setCell ?_ (by first | (simp; done) | (simp; omega) | omega) _ | refine bchain (by assumption) ?_))) h4)
        have HF := Lib.hid hfin
        clear h4 hfin
        go_wp2_with fail
        go_roundw
        case rel => exact ⟨t + 1, by omega, by go_num, (by rw [Hrun.out]; exact HF.out)⟩
        case measure => simp [intOf]; omega
      have e1 : (kd == 1) = false := by simpa using h1
      have e4 : (kd == 4) = false := by simpa using h4
      have f1 : (kd != 1) = true := by simpa using h1
      have f4 : (kd != 4) = true := by simpa using h4
      have hrun : tnR lo ly (s, nn) (l.take (t + 1)) = X := by rw [Hrun.out]; simp [h1, h4]
      have Hrun := Lib.hid hrun
      clear hrun
      go_wp2_with fail
      go_roundw
      case rel => exact ⟨t + 1, by omega, by go_num, (by rw [Hrun.out]; exact HA.out.post (by (repeat (first | exact Below.refl _ _ | assumption | refine Below.drew ?_ | refine below_drewN ?_ _ | refine balloc ?_ _ | refine Below.setCell ?_ (by first | (simp; done) | (simp; omega) | omega) _ | refine bchain (by assumption) ?_))))⟩
      case measure => simp [intOf]; omega
    · have htl : t = l.length := by omega
      subst htl
      rw [List.take_length] at hA
      have HA := Lib.hid hA
      clear hA hops ht hlt
      go_wp2
      go_ret
      exact ⟨rfl, HA.out⟩
end Go.Proofs.Ytgipmcmmicppkaa
