/-
  law 31: the reference of Suspects; the walk of DistanceSuspects.
-/
import Derived.Test.YtbkfjhbebhnijaaDtD
namespace Go.Proofs.Ytbkfjhbebhnijaa
open Go.RowKit Go.Maps Go.WideElems Go.ChangeShapes Go.MapKept
set_option linter.unusedSimpArgs false
set_option linter.unusedVariables false

set_option maxRecDepth 100000 in
set_option maxHeartbeats 8000000 in
theorem rsuspects_any {w : World} {ep : Int} {v : Value} {l : List Stb} (h : StbV w v l) (hl : l.length ≤ 20) :
    Calls Try.prog 26 #[.agg #[.int .i64 ep, v]] w fun e w' => ∃ v', e = .returned v' ∧ StbV w' v' (l.filter susB) ∧ Below w.heap.size w w' := by
  obtain ⟨a1, c1, rfl, n1, m1, _, r1⟩ := h
  have r1' := fun t (ht : t < l.length) => StbV.get r1 ht
  have R1 := Lib.hid r1'
  clear r1 r1'
  obtain ⟨n, hn⟩ : ∃ n, l.length = n := ⟨_, rfl⟩
  have HN := Lib.hid hn
  rw [hn] at R1 n1 hl ⊢
  clear hn
  go_enter Try.func26, Try.ntmps26
  go_wp2_with fail
  have hm := RowK.made (w.alloc (.cells #[.int .i64 ep, .slice a1 n c1] 42)) (N := w.heap.size + 1) (by simp)
  rw [World.size_alloc] at hm
  have kb0 : ((w.alloc (.cells #[.int .i64 ep, .slice a1 n c1] 42)).alloc (.cells #[] 52)).cell? ⟨w.heap.size, 1, none⟩ = some (.slice a1 n c1) := bcellv (balloc (Below.refl _ _) _) (by rw [cell_of_block (alloc_get _ _)]; rfl)
  have hb0 : Below w.heap.size w ((w.alloc (.cells #[.int .i64 ep, .slice a1 n c1] 42)).alloc (.cells #[] 52)) := balloc (balloc (Below.refl _ _) _) _
  have hz0 : w.heap.size + 1 ≤ ((w.alloc (.cells #[.int .i64 ep, .slice a1 n c1] 42)).alloc (.cells #[] 52)).heap.size := by simp
  go_loopw [3, 4] (fun v3 i wr => ∃ (t : Nat) (P : List (Stb × Value)), t ≤ n ∧ i = .int .i64 t ∧ RowK wr (w.heap.size + 1) v3 P ∧ P.map (·.1) = (l.take t).filter susB ∧ P.length ≤ t ∧ Below w.heap.size w wr ∧ wr.cell? ⟨w.heap.size, 1, none⟩ = some (.slice a1 n c1) ∧ w.heap.size + 1 ≤ wr.heap.size) (fun v3 i _ => n - (intOf i).toNat)
  case atStart => exact ⟨0, [], Nat.zero_le _, rfl, hm, rfl, Nat.le_refl _, hb0, kb0, hz0⟩
  case round =>
    clear hm kb0 hb0 hz0
    obtain ⟨t, P, ht, rfl, hP, hPl, hPn, hbr, kb, hzb⟩ := hrel
    have HPL := Lib.hid hPl
    clear hPl
    by_cases htn : t < n
    · obtain ⟨b1, f1, ⟨zo, zn, zr, zd, zi⟩, e1, hz, p0, p1, p2, p3, i1, p4, j1⟩ := R1.out t htn
      cases e1
      dsimp only at p0 p1 p2 p3 p4 j1
      have p0 := bcellv hbr p0
      have p1 := bcellv hbr p1
      have p2 := bcellv hbr p2
      have p3 := bcellv hbr p3
      have p4 := bcellv hbr p4
      obtain ⟨ai, ci, e4, _⟩ := id j1
      subst e4
      have hK := (j1.old.below hbr).mono (Nat.le_succ _)
      have hy := fun h => sus_yes hz h
      have hno := fun h => sus_no hz h
      have HY := Lib.hid hy
      have HNo := Lib.hid hno
      have s1 : ((t : Int)).toNat = t := by omega
      generalize hki : zi.length = ki at *
      have HK := Lib.hid hK
      clear hz hy hno j1 hki hK
      cases zr
      case true =>
        have hR2 := HPL.out.trans (HNo.out rfl).symm
        have HR2 := Lib.hid hR2
        clear hR2
        go_wp2
        go_roundw
        case rel => exact ⟨t + 1, P, by omega, by go_num, hP, HR2.out, by omega, hbr, kb, hzb⟩
        case measure => simp [intOf]; omega
      case false =>
      by_cases hd3 : 3 ≤ zd
      case neg =>
        have hd : decide (3 ≤ zd) = false := by simpa using hd3
        have hR2 := HPL.out.trans (HNo.out (by unfold susB; exact hd)).symm
        have HR2 := Lib.hid hR2
        clear hR2
        go_wp2
        go_roundw
        case rel => exact ⟨t + 1, P, by omega, by go_num, hP, HR2.out, by omega, hbr, kb, hzb⟩
        case measure => simp [intOf]; omega
      case pos =>
        have hd : decide (3 ≤ zd) = true := by simpa using hd3
        have HR2 := Lib.hid (HY.out (by unfold susB; exact hd))
        have HP := Lib.hid hP
        have HKB := Lib.hid kb
        clear hP
        obtain ⟨a7, c7, e7⟩ := id HP.out.form
        subst e7
        go_wp2_with (at_builtin; refine wpList_append_stb rfl _ _ rfl rfl ⟨zo, zn, false, zd, zi⟩ (.slice ai ki ci) _ rfl HP.out rfl rfl hzb (by omega) HK.out ?_; intro v9 w9 hP9 hb9)
        have hb9' := hb9.mono (Nat.le_succ w.heap.size)
        have hbw9 := hbr.trans hb9'
        have kb9 : w9.cell? ⟨w.heap.size, 1, none⟩ = some (.slice (some ⟨b1, f1, none⟩) n c1) := (hb9.cell (p := ⟨w.heap.size, 1, none⟩) (Nat.lt_succ_self _)).trans HKB.out
        have hzb9 := Nat.le_trans hzb hb9.size
        go_wp2
        go_roundw
        case rel => exact ⟨t + 1, _, by omega, by go_num, hP9, by rw [List.map_append, HPL.out, HR2.out]; rfl, by rw [List.length_append]; simp; omega, hbw9, kb9, hzb9⟩
        case measure => simp [intOf]; omega
    · have htn' : t = n := by omega
      subst htn'
      have hfin := hP.stb
      rw [HPL.out, ← HN.out, List.take_length] at hfin
      go_wp2
      go_ret
      exact ⟨_, rfl, hfin, hbr⟩
end Go.Proofs.Ytbkfjhbebhnijaa
