/-
  law 31: Suspects and its reference.
-/
import Derived.Test.YtbkfjhbebhnijaaDtC
namespace Go.Proofs.Ytbkfjhbebhnijaa
open Go.RowKit Go.Maps Go.WideElems Go.ChangeShapes Go.MapKept
set_option linter.unusedSimpArgs false
set_option linter.unusedVariables false

def susB (x : Stb) : Bool := !x.r && decide (3 ≤ x.d)
theorem sus_yes {l : List Stb} {t : Nat} {x : Stb} (hx : l[t]? = some x) (h : susB x = true) : (l.take (t + 1)).filter susB = (l.take t).filter susB ++ [x] := by
  obtain ⟨h1, h2⟩ := List.getElem?_eq_some_iff.1 hx
  rw [List.take_succ_eq_append_getElem h1, h2, List.filter_append]
  simp [h]
theorem sus_no {l : List Stb} {t : Nat} {x : Stb} (hx : l[t]? = some x) (h : susB x = false) : (l.take (t + 1)).filter susB = (l.take t).filter susB := by
  obtain ⟨h1, h2⟩ := List.getElem?_eq_some_iff.1 hx
  rw [List.take_succ_eq_append_getElem h1, h2, List.filter_append]
  simp [h]
theorem RowK.kept {w w' : World} {N : Nat} {v : Value} {P : List (Stb × Value)} (h : RowK w N v P) {k i : Nat} {u : Value} {cs : Array Value} (hw : w' = w.setCell ⟨k, i, none⟩ u) (hk : w.heap[k]? = some (.cells cs 52 (0, 0))) (hN : N ≤ k) (hv : v.ownBlock ≠ some k) : RowK w' N v P := by
  subst hw
  refine ⟨row_keep h.own fun G o hG ho => ?_, fun p hp => (h.ins p hp).kept grown_set (row := some k) (fun g e => by cases e; exact ⟨hN, _, hk⟩)⟩
  rw [Below.heap_setCell _ _ _ _ (by show G ≠ k; intro e; rw [e] at hG; exact hv hG)]
  exact ho
set_option maxRecDepth 100000 in
set_option maxHeartbeats 8000000 in
theorem suspects_any {w : World} {ep : Int} {v : Value} {l : List Stb} (h : StbV w v l) (hl : l.length ≤ 20) (hins : ∀ (i : Nat) (x : Stb), l[i]? = some x → x.ins.length ≤ 20) :
    Calls Try.prog 25 #[.agg #[.int .i64 ep, v]] w fun e w' => ∃ v', e = .returned v' ∧ StbV w' v' (l.filter susB) ∧ Below w.heap.size w w' := by
  obtain ⟨a1, c1, rfl, n1, m1, _, r1⟩ := h
  have r1' := fun t (ht : t < l.length) => StbV.get r1 ht
  have R1 := Lib.hid r1'
  have HI := Lib.hid hins
  clear r1 r1' hins
  obtain ⟨n, hn⟩ : ∃ n, l.length = n := ⟨_, rfl⟩
  have HN := Lib.hid hn
  rw [hn] at R1 n1 hl ⊢
  clear hn
  go_enter Try.func25, Try.ntmps25
  go_wp2_with fail
  go_loopw [3, 9] (fun v3 i wr => ∃ (t : Nat) (P : List (Stb × Value)), t ≤ n ∧ i = .int .i64 t ∧ RowK wr w.heap.size v3 P ∧ P.map (·.1) = (l.take t).filter susB ∧ P.length ≤ t ∧ Below w.heap.size w wr) (fun v3 i _ => n - (intOf i).toNat)
  case atStart => exact ⟨0, [], Nat.zero_le _, rfl, RowK.nil _ _, rfl, Nat.le_refl _, balloc (Below.refl _ _) _⟩
  case round =>
    obtain ⟨t, P, ht, rfl, hP, hPl, hPn, hbr⟩ := hrel
    have HPL := Lib.hid hPl
    clear hPl
    by_cases htn : t < n
    · obtain ⟨b1, f1, ⟨zo, zn, zr, zd, zi⟩, e1, hz, p0, p1, p2, p3, i1, p4, j1⟩ := R1.out t htn
      cases e1
      dsimp only at p0 p1 p2 p3 p4 j1
      have p0 := bcellv hbr p0
      have p1 := bcellv hbr p1
      have p2 := bcellv hbr p2
      have p3 := bcellv hbr p3
      have p4 := bcellv hbr p4
      obtain ⟨ai, ci, e4, _⟩ := id j1
      subst e4
      have j1 := j1.below hbr
      have hzi := HI.out t _ hz
      dsimp only at hzi
      have hC := fun W (H : Below wr.heap.size wr W) => clone_any (j1.below H) (by omega)
      have HC := Lib.hid hC
      have hy := fun h => sus_yes hz h
      have hno := fun h => sus_no hz h
      have HY := Lib.hid hy
      have HNo := Lib.hid hno
      have s1 : ((t : Int)).toNat = t := by omega
      obtain ⟨ki, hki⟩ : ∃ k, zi.length = k := ⟨_, rfl⟩
      have HKI := Lib.hid hki
      rw [hki] at p4 HC
      clear hz hy hno hC j1 hzi hki
      have hP2 := hP.below (balloc (Below.refl _ _) (.cells #[.int .i64 zo, .int .u64 zn, .bool zr, .int .i64 zd, .slice ai ki ci] 52))
      cases zr
      case true =>
        have hR2 := HPL.out.trans (HNo.out rfl).symm
        have HR2 := Lib.hid hR2
        clear hR2
        go_wp2
        go_roundw
        case rel => exact ⟨t + 1, P, by omega, by go_num, hP2, HR2.out, by omega, by (repeat (first | exact Below.refl _ _ | assumption | refine Below.drew ?_ | refine below_drewN ?_ _ | refine balloc ?_ _ | refine Below.setCell ?_ (by first | (simp; done) | (simp; omega) | omega) _ | refine bchain (by assumption) ?_))⟩
        case measure => simp [intOf]; omega
      case false =>
      by_cases hd3 : 3 ≤ zd
      case neg =>
        have hd : decide (3 ≤ zd) = false := by simpa using hd3
        have hR2 := HPL.out.trans (HNo.out (by unfold susB; exact hd)).symm
        have HR2 := Lib.hid hR2
        clear hR2
        go_wp2
        go_roundw
        case rel => exact ⟨t + 1, P, by omega, by go_num, hP2, HR2.out, by omega, by (repeat (first | exact Below.refl _ _ | assumption | refine Below.drew ?_ | refine below_drewN ?_ _ | refine balloc ?_ _ | refine Below.setCell ?_ (by first | (simp; done) | (simp; omega) | omega) _ | refine bchain (by assumption) ?_))⟩
        case measure => simp [intOf]; omega
      case pos =>
        have hd : decide (3 ≤ zd) = true := by simpa using hd3
        have HR2 := Lib.hid (HY.out (by unfold susB; exact hd))
        have kx : (wr.alloc (.cells #[.int .i64 zo, .int .u64 zn, .bool false, .int .i64 zd, .slice ai ki ci] 52)).heap[wr.heap.size]? = some (.cells #[.int .i64 zo, .int .u64 zn, .bool false, .int .i64 zd, .slice ai ki ci] 52 (0, 0)) := alloc_get _ _
        have hne : u3.ownBlock ≠ some wr.heap.size := fun e => by
          obtain ⟨_, cs, hcs⟩ := hP.block _ e
          have := (Array.getElem?_eq_some_iff.1 hcs).1
          omega
        have HNE := Lib.hid hne
        clear hne
        go_wp2_with fail
        refine (HC.out _ (by (repeat (first | exact Below.refl _ _ | assumption | refine Below.drew ?_ | refine below_drewN ?_ _ | refine balloc ?_ _ | refine Below.setCell ?_ (by first | (simp; done) | (simp; omega) | omega) _ | refine bchain (by assumption) ?_)))).mono ?_
        rintro e w2 ⟨v', rfl, hk', hb2⟩
        have hP3 := hP2.below hb2
        have kx2 := bblock hb2 kx
        have hbw2 : Below w.heap.size w w2 := bchain hb2 (balloc hbr _)
        have hzx : wr.heap.size < w2.heap.size := (Array.getElem?_eq_some_iff.1 kx2).1
        have hzr : w.heap.size ≤ wr.heap.size := hbr.size
        obtain ⟨a', c', e', _⟩ := id (hk' 0)
        rw [HKI.out] at e'
        subst e'
        have kx3 := block_set (i := 4) (v := .slice a' ki c') kx2
        have hP4 := hP3.kept (i := 4) (u := .slice a' ki c') rfl kx2 hzr HNE.out
        have hk3 : InsK (w2.setCell ⟨wr.heap.size, 4, none⟩ (.slice a' ki c')) w.heap.size (.slice a' ki c') zi := (hk' _).kept grown_set (row := some wr.heap.size) (fun g e => by cases e; exact ⟨hzr, _, kx2⟩)
        have q4 : w2.cell? ⟨wr.heap.size, 4, none⟩ = some (.slice ai ki ci) := by rw [cell_of_block kx2]; rfl
        have qf : ∀ i, w2.frozen? ⟨wr.heap.size, i, none⟩ = false := frozen_of_block kx2
        have c0 : (w2.setCell ⟨wr.heap.size, 4, none⟩ (.slice a' ki c')).cell? ⟨wr.heap.size, 0, none⟩ = some (.int .i64 zo) := by rw [cell_of_block kx3]; rfl
        have c1 : (w2.setCell ⟨wr.heap.size, 4, none⟩ (.slice a' ki c')).cell? ⟨wr.heap.size, 1, none⟩ = some (.int .u64 zn) := by rw [cell_of_block kx3]; rfl
        have c2 : (w2.setCell ⟨wr.heap.size, 4, none⟩ (.slice a' ki c')).cell? ⟨wr.heap.size, 2, none⟩ = some (.bool false) := by rw [cell_of_block kx3]; rfl
        have c3 : (w2.setCell ⟨wr.heap.size, 4, none⟩ (.slice a' ki c')).cell? ⟨wr.heap.size, 3, none⟩ = some (.int .i64 zd) := by rw [cell_of_block kx3]; rfl
        have c4 : (w2.setCell ⟨wr.heap.size, 4, none⟩ (.slice a' ki c')).cell? ⟨wr.heap.size, 4, none⟩ = some (.slice a' ki c') := by rw [cell_of_block kx3]; rfl
        have hz3 : (w2.setCell ⟨wr.heap.size, 4, none⟩ (.slice a' ki c')).heap.size = w2.heap.size := by simp
        have hbw3 : Below w.heap.size w (w2.setCell ⟨wr.heap.size, 4, none⟩ (.slice a' ki c')) := hbw2.setCell (p := ⟨wr.heap.size, 4, none⟩) hzr _
        have HK3 := Lib.hid hk3
        have HP4 := Lib.hid hP4
        clear kx kx2 kx3 hk' hk3 hP hP2 hP3 hP4 hb2
        obtain ⟨a7, c7, e7⟩ := id HP4.out.form
        subst e7
        go_wp2_with (at_builtin; refine wpList_append_stb rfl _ _ rfl rfl ⟨zo, zn, false, zd, zi⟩ (.slice a' ki c') _ rfl HP4.out rfl hz3 (by omega) (by omega) HK3.out ?_; intro v9 w9 hP9 hb9)
        have hbw9 := hbw3.trans hb9
        go_wp2
        go_roundw
        case rel => exact ⟨t + 1, _, by omega, by go_num, hP9, by rw [List.map_append, HPL.out, HR2.out]; rfl, by rw [List.length_append]; simp; omega, hbw9⟩
        case measure => simp [intOf]; omega
    · have htn' : t = n := by omega
      subst htn'
      have hfin := hP.stb
      rw [HPL.out, ← HN.out, List.take_length] at hfin
      go_wp2
      go_ret
      exact ⟨_, rfl, hfin, hbr⟩
end Go.Proofs.Ytbkfjhbebhnijaa
