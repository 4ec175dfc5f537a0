/-
  law 13: UndoOperations.
-/
import Derived.Test.YtgipmcmmicppkaaUnQ
import Derived.Deep.CutRange
namespace Go.Proofs.Ytgipmcmmicppkaa
open Go.RowKit
set_option linter.unusedSimpArgs false
set_option linter.unusedVariables false

noncomputable def opR (lo ly : Int) (x : M13 × Int) (l : List Op13) : M13 × Int := l.foldl (stp lo ly) x
theorem opR_snoc (lo ly : Int) (x : M13 × Int) (l : List Op13) (o : Op13) : opR lo ly x (l ++ [o]) = stp lo ly (opR lo ly x l) o := by
  unfold opR
  rw [List.foldl_append]
  rfl
theorem opR_bd (lo ly : Int) : ∀ (l : List Op13) (x : M13 × Int), (opR lo ly x l).1.nt.length ≤ x.1.nt.length + l.length ∧ x.2 ≤ (opR lo ly x l).2 ∧ (opR lo ly x l).2 ≤ x.2 + l.length := by
  intro l
  induction l with
  | nil => intro x; exact ⟨Nat.le_refl _, by simp [opR], by simp [opR]⟩
  | cons o l ih =>
    intro x
    have h1 := ih (stp lo ly x o)
    have h2 := stpS_len lo ly x.1 x.2 o.kd o.nf o.a o.u o.raw
    have h3 := stpN_bd x.2 o.kd
    have e : opR lo ly x (o :: l) = opR lo ly (stp lo ly x o) l := rfl
    have e1 : (stp lo ly x o).1 = stpS lo ly x.1 x.2 o.kd o.nf o.a o.u o.raw := rfl
    have e2 : (stp lo ly x o).2 = stpN x.2 o.kd := rfl
    rw [e1, e2] at h1
    rw [e, List.length_cons]
    omega
set_option maxRecDepth 100000 in
set_option maxHeartbeats 4000000 in
theorem uops_any (a : Option Addr) (l : List Op13) (cap : Nat) (hcap : l.length ≤ cap) (hc63 : cap ≤ 9223372036854775807) (w : World) (hops : Ops13 w w.heap.size a l) : Calls Try.prog 6 #[.slice a l.length cap] w fun e w' => e = .returned (.bool true) ∧ Below w.heap.size w w' := by
  go_enter Try.func6, Try.ntmps6
  by_cases h30 : 30 < l.length
  · have hd : decide ((30 : Int) < (l.length : Int)) = true := by simp; omega
    go_wp2_with fail
    refine (awake_any _).mono ?_
    rintro e w0 ⟨rfl, hb0⟩
    have HB0 := Lib.hid hb0
    clear hb0
    go_wp2_with fail
    refine (awake_any _).mono ?_
    rintro e w1 ⟨rfl, hb1⟩
    have HF := Lib.hid (bchain hb1 HB0.out)
    clear hb1
    go_wp2
    go_ret
    exact ⟨rfl, HF.out⟩
  have hd : decide ((30 : Int) < (l.length : Int)) = false := by simp; omega
  go_wp2_with fail
  refine (awake_any _).mono ?_
  rintro e w0 ⟨rfl, hb0⟩
  have HB0 := Lib.hid hb0
  go_wp2_with fail
  clear hd
  refine (open_any _).mono ?_
  rintro e w1 ⟨p, rfl, hw, hb1⟩
  have HB1 := Lib.hid (bchain hb1 HB0.out)
  obtain ⟨D, hD⟩ : ∃ D : Nat → Prop, D = fun k => w0.heap.size ≤ k := ⟨_, rfl⟩
  rw [← hD] at hw
  have HD := Lib.hid hD
  have hDn : ∀ k, D k → w.heap.size ≤ k := fun k hk => by rw [hD] at hk; exact Nat.le_trans hb0.size hk
  have hops := (hops.below hb0).below hb1
  clear hD hb0 hb1
  go_wp2_with fail
  have h0 : WNx w1 ⟨D, fun _ _ _ => True⟩ p L13 Y13 (opR L13 Y13 (s13, 2) (l.take 0)).1 (opR L13 Y13 (s13, 2) (l.take 0)).1 (opR L13 Y13 (s13, 2) (l.take 0)).2 w1 := ⟨hw, Mods.refl _ _⟩
  clear hw
  generalize hlo : L13 = lo at *
  generalize hly : Y13 = ly at *
  go_loopw [23] (fun q wr => ∃ t : Nat, t ≤ l.length ∧ q = .int .i64 t ∧ WNx w1 ⟨D, fun _ _ _ => True⟩ p lo ly (opR lo ly (s13, 2) (l.take t)).1 (opR lo ly (s13, 2) (l.take t)).1 (opR lo ly (s13, 2) (l.take t)).2 wr) (fun q _ => l.length - (intOf q).toNat)
  case atStart => exact ⟨0, Nat.zero_le _, rfl, h0⟩
  case round =>
    clear h0
    obtain ⟨t, ht, rfl, hA⟩ := hrel
    by_cases hlt : t < l.length
    · have hops := hops.mods hA.2 hDn
      obtain ⟨b, off, rfl, hbw, hO⟩ := hops.get t hlt
      obtain ⟨o, ho⟩ : ∃ o, l[t]? = some o := ⟨_, List.getElem?_eq_getElem hlt⟩
      rw [(List.getElem?_eq_some_iff.1 ho).2] at hO
      obtain ⟨kd, nf, oa, u, orw⟩ := o
      obtain ⟨c0, c1, c2, c3, c4, ok⟩ := hO
      simp only [Addr.add_lit, Nat.add_zero] at c0 c1 c2 c3 c4
      have s1 : ((t : Int)).toNat = t := by omega
      have hbd := opR_bd lo ly (l.take t) (s13, 2)
      rw [List.length_take, Nat.min_eq_left ht] at hbd
      simp only [s13, List.length_nil] at hbd
      have hrun := opR_snoc lo ly (s13, 2) (l.take t) ⟨kd, nf, oa, u, orw⟩
      rw [← take_snoc13 ho] at hrun
      unfold stp at hrun
      have Hrun := Lib.hid hrun
      change _ ≤ _ ∧ _ ≤ (opR lo ly (s13, 2) (l.take t)).2 ∧ (opR lo ly (s13, 2) (l.take t)).2 ≤ _ at hbd
      obtain ⟨X, hX⟩ : ∃ X, opR lo ly (s13, 2) (l.take t) = X := ⟨_, rfl⟩
      have hb1 : X.1.nt.length ≤ 0 + t := by rw [← hX]; exact hbd.1
      rw [hX] at hA hbd Hrun
      have hA1 := hA.1
      have hST := fun (W : World) (H : Below wr.heap.size wr W) => step_any kd nf oa u orw (hA1.below H) (by omega) (by omega) ok.k0 ok.n0 ok.n1 ok.u0 (by omega)
      have HST := Lib.hid hST
      have HA := Lib.hid hA
      have hcb := World.block_lt_of_cell? _ _ c0
      clear hrun hX hA hA1 hST hbd hops ho ok hb1
      go_wp2_with fail
      refine (HST.out _ (by (repeat (first | exact Below.refl _ _ | assumption | refine Below.drew ?_ | refine below_drewN ?_ _ | refine balloc ?_ _ | refine Below.setCell ?_ (by first | (simp; done) | (simp; omega) | omega) _ | refine bchain (by assumption) ?_)))).mono ?_
      rintro e w4 ⟨rfl, h4⟩
      have hSM := same_any h4.1
      have hfin := WNx.trans HA.out (WNx.pre HA.out.1 (by (repeat (first | exact Below.refl _ _ | assumption | refine Below.drew ?_ | refine below_drewN ?_ _ | refine balloc ?_ _ | refine Below.setCell ?_ (by first | (simp; done) | (simp; omega) | omega) _ | refine bchain (by assumption) ?_))) h4)
      have HF := Lib.hid hfin
      clear h4 hfin
      go_wp2_with fail
      refine hSM.mono ?_
      rintro e w5 ⟨rfl, hb5⟩
      have HF5 := Lib.hid (HF.out.post hb5)
      clear hb5 hSM
      go_wp2_with fail
      go_roundw
      case rel => exact ⟨t + 1, by omega, by go_num, (by rw [Hrun.out]; exact HF5.out)⟩
      case measure => simp [intOf]; omega
    · have HA := Lib.hid hA
      clear hA hops ht
      go_wp2
      go_ret
      exact ⟨rfl, HB1.out.trans (HA.out.2.below HB1.out.size hDn)⟩
end Go.Proofs.Ytgipmcmmicppkaa
