/-
  law 31: the reference of Propagate.
-/
import Derived.Test.YtbkfjhbebhnijaaDpD
namespace Go.Proofs.Ytbkfjhbebhnijaa
open Go.RowKit Go.Maps Go.WideElems Go.ChangeShapes Go.MapKept
set_option linter.unusedSimpArgs false
set_option linter.unusedVariables false

theorem map_snoc {S : List Sce} {l : List Stb} {t : Nat} {x : Stb} (h : l[t]? = some x) : (l.take (t + 1)).map (proS S) = (l.take t).map (proS S) ++ [proS S x] := by
  obtain ⟨h1, h2⟩ := List.getElem?_eq_some_iff.1 h
  rw [List.take_succ_eq_append_getElem h1, h2, List.map_append]
  rfl
set_option maxRecDepth 100000 in
set_option maxHeartbeats 16000000 in
theorem rpropagate_any {w : World} {v1 v2 : Value} {l : List Stb} {S : List Sce} (h1 : StbV w v1 l) (h2 : SceV w v2 S) (hl : l.length ≤ 20) (hins : ∀ (i : Nat) (x : Stb), l[i]? = some x → x.ins.length ≤ 20) :
    Calls Try.prog 28 #[v1, v2] w fun e w' => ∃ v', e = .returned v' ∧ StbV w' v' (l.map (proS S)) ∧ Below w.heap.size w w' := by
  have HI := Lib.hid hins
  have HOF := Lib.hid (fun W (H : Below w.heap.size w W) (c n o : Int) => of_any c n o (h2.below H))
  clear hins
  obtain ⟨a1, c1, rfl, n1, m1, _, r1⟩ := h1
  obtain ⟨a2, c2, rfl, _⟩ := h2
  have r1' := fun t (ht : t < l.length) => StbV.get r1 ht
  have R1 := Lib.hid r1'
  clear r1 r1'
  obtain ⟨n, hn⟩ : ∃ n, l.length = n := ⟨_, rfl⟩
  have HN := Lib.hid hn
  rw [hn] at R1 n1 hl ⊢
  clear hn
  generalize S.length = m at *
  go_enter Try.func28, Try.ntmps28
  go_wp2_with fail
  have hm0 := RowK.made w (N := w.heap.size) (Nat.le_refl _)
  have hb0 : Below w.heap.size w (w.alloc (.cells #[] 52)) := balloc (Below.refl _ _) _
  generalize w.alloc (.cells #[] 52) = w0 at *
  go_loopw [5, 6] (fun v5 i wr => ∃ (t : Nat) (P : List (Stb × Value)), t ≤ n ∧ i = .int .i64 t ∧ RowK wr w.heap.size v5 P ∧ P.map (·.1) = (l.take t).map (proS S) ∧ P.length ≤ t ∧ Below w.heap.size w wr) (fun v5 i _ => n - (intOf i).toNat)
  case atStart => exact ⟨0, [], Nat.zero_le _, rfl, hm0, rfl, Nat.le_refl _, hb0⟩
  case round =>
    clear hm0 hb0
    obtain ⟨wo, hwo⟩ : ∃ W, W = wr := ⟨_, rfl⟩
    subst hwo
    obtain ⟨t, P, ht, rfl, hP, hPl, hPn, hbr⟩ := hrel
    have HPL := Lib.hid hPl
    clear hPl
    by_cases htn : t < n
    · obtain ⟨b1, f1, ⟨xo, xn, xr, xd, xi⟩, e1, hz, p0, p1, p2, p3, i1, p4, j1⟩ := R1.out t htn
      cases e1
      dsimp only at p0 p1 p2 p3 p4 j1
      have p0 := bcellv hbr p0
      have p1 := bcellv hbr p1
      have p2 := bcellv hbr p2
      have p3 := bcellv hbr p3
      have p4 := bcellv hbr p4
      have hI0 := j1.old.below hbr
      obtain ⟨ai, ci, e4, _⟩ := id j1
      subst e4
      have j1 := j1.below hbr
      have hk20 := HI.out t _ hz
      have HSN := Lib.hid (map_snoc (S := S) hz)
      have HPS := Lib.hid (proS_eq (S := S) (x := ⟨xo, xn, xr, xd, xi⟩) rfl)
      dsimp only at hk20 HPS
      have s1 : ((t : Int)).toNat = t := by omega
      have hNo := hbr.size
      have hne : u5.ownBlock ≠ some wo.heap.size := fun e => by
        obtain ⟨_, cs, hcs⟩ := hP.block _ e
        have := (Array.getElem?_eq_some_iff.1 hcs).1
        omega
      have HNE := Lib.hid hne
      obtain ⟨k, hk⟩ : ∃ k, xi.length = k := ⟨_, rfl⟩
      rw [hk] at p4 j1 HPS hk20 hI0
      have HI1 := Lib.hid (fun j (hj : j < k) => InsV.at j1 hj)
      have HI0 := Lib.hid hI0
      have HP := Lib.hid hP
      clear hz hk hne j1 hI0 hP
      obtain ⟨a5, c5, e5⟩ := id HP.out.form
      subst e5
      go_wp2_with fail
      have kV := alloc_get wo (.cells #[.int .i64 xo, .int .u64 xn, .bool xr, .int .i64 xd, .slice ai k ci] 52)
      have hbV : Below wo.heap.size wo (wo.alloc (.cells #[.int .i64 xo, .int .u64 xn, .bool xr, .int .i64 xd, .slice ai k ci] 52)) := balloc (Below.refl _ _) _
      have hzV : (wo.alloc (.cells #[.int .i64 xo, .int .u64 xn, .bool xr, .int .i64 xd, .slice ai k ci] 52)).heap.size = wo.heap.size + 1 := by simp
      generalize wo.alloc (.cells #[.int .i64 xo, .int .u64 xn, .bool xr, .int .i64 xd, .slice ai k ci] 52) = wV at *
      have hq0 := QAt.made wV (Nat.le_refl _)
      have hbq0 : Below wV.heap.size wV (wV.alloc (.cells #[] 3)) := balloc (Below.refl _ _) _
      rw [hzV] at hq0
      generalize wV.alloc (.cells #[] 3) = wW at *
      go_loopw [8, 9] (fun v8 i wx => ∃ j : Nat, j ≤ k ∧ i = .int .i64 j ∧ QAt wx (wo.heap.size + 1) v8 (dRow S xi j) ∧ Below wV.heap.size wV wx) (fun v8 i _ => k - (intOf i).toNat)
      case atStart => exact ⟨0, Nat.zero_le _, rfl, hq0, hbq0⟩
      case round =>
        clear hq0 hbq0
        obtain ⟨wx, hwx⟩ : ∃ W, W = wr := ⟨_, rfl⟩
        subst hwx
        obtain ⟨j, hj, rfl, hq, hbx⟩ := hrel
        have kx := bblock hbx kV
        have hbwx : Below w.heap.size w wx := bchain hbx (bchain hbV hbr)
        have hzx := hbx.size
        rw [hzV] at hzx
        by_cases hjk : j < k
        · obtain ⟨bb, oo, ⟨yc, yn, yo⟩, ea, hy, hya⟩ := HI1.out j hjk
          cases ea
          obtain ⟨y0, y1, y2⟩ := hya.below (bchain hbx hbV)
          dsimp only at y0 y1 y2
          have k4 : wx.cell? ⟨wo.heap.size, 4, none⟩ = some (.slice (some ⟨bb, oo, none⟩) k ci) := by rw [cell_of_block kx]; rfl
          have HSN2 := Lib.hid (dRow_snoc (S := S) hy)
          have hql := Nat.le_trans (dRow_len (S := S) (l := xi) (u := j)) (by omega : j ≤ 100000)
          have HQL := Lib.hid hql
          have s2 : ((j : Int)).toNat = j := by omega
          dsimp only at HSN2
          have HO := Lib.hid (fun W (H : Below w.heap.size w W) => HOF.out W H yc yn yo)
          clear hya hy hql kx
          generalize dOf yc yn S = dv at *
          generalize dRow S xi j = row at *
          go_wp2_with fail
          refine (HO.out _ hbwx).mono ?_
          rintro e w3 ⟨rfl, hb3⟩
          have hq3 := hq.below hb3
          have hbx3 := bchain hb3 hbx
          have hz3 := Nat.le_trans hzx hb3.size
          obtain ⟨a7, c7, e7⟩ := id hq3.form
          subst e7
          clear hq
          rw [hzV] at hbx3
          go_wp2_with (at_builtin; refine step_append_row rfl _ _ rfl rfl dv _ rfl hq3 rfl rfl hbx3 hz3 HQL.out ?_; intro v' w6 hq6 hb6 hz6)
          go_wp2
          go_roundw
          case rel => exact ⟨j + 1, by omega, by go_num, by rw [HSN2.out]; exact hq6, by rw [hzV]; exact hb6⟩
          case measure => simp [intOf]; omega
        · have hjk' : j = k := by omega
          subst hjk'
          have hi := hq.ints
          have HST := Lib.hid (fun W (H : Below wx.heap.size wx W) => rstub_any xr (hi.below H))
          have k2 : wx.cell? ⟨wo.heap.size, 2, none⟩ = some (.bool xr) := by rw [cell_of_block kx]; rfl
          have k4 : wx.cell? ⟨wo.heap.size, 4, none⟩ = some (.slice ai j ci) := by rw [cell_of_block kx]; rfl
          have HKX := Lib.hid kx
          obtain ⟨a7, c7, e7⟩ := id hq.form
          subst e7
          generalize stubA xr (dRow S xi j) = sv at *
          generalize (dRow S xi j).length = lr at *
          clear hi hq kx
          go_wp2_with fail
          refine (HST.out _ (by (repeat (first | exact Below.refl _ _ | assumption | refine Below.drew ?_ | refine below_drewN ?_ _ | refine balloc ?_ _ | refine Below.setCell ?_ (by first | (simp; done) | (simp; omega) | omega) _ | refine bchain (by assumption) ?_)))).mono ?_
          rintro e w7 ⟨rfl, hb7⟩
          have k7 := bblock hb7 HKX.out
          have hb7w := bchain hb7 hbwx
          have hb7o : Below wo.heap.size wo w7 := bchain hb7 (bchain hbx hbV)
          have hz7 : wo.heap.size < w7.heap.size := (Array.getElem?_eq_some_iff.1 k7).1
          have k8 := block_set (i := 3) (v := .int .i64 sv) k7
          have qf : ∀ i, w7.frozen? ⟨wo.heap.size, i, none⟩ = false := frozen_of_block k7
          have q3 : w7.cell? ⟨wo.heap.size, 3, none⟩ = some (.int .i64 xd) := by rw [cell_of_block k7]; rfl
          have hP8 := (HP.out.below hb7o).kept (i := 3) (u := .int .i64 sv) rfl k7 hNo HNE.out
          have hI8 : InsK (w7.setCell ⟨wo.heap.size, 3, none⟩ (.int .i64 sv)) w.heap.size (.slice ai j ci) xi := (HI0.out.below hb7o).kept grown_set (row := some wo.heap.size) (fun g e => by cases e; exact ⟨hNo, _, k7⟩)
          have c0 : (w7.setCell ⟨wo.heap.size, 3, none⟩ (.int .i64 sv)).cell? ⟨wo.heap.size, 0, none⟩ = some (.int .i64 xo) := by rw [cell_of_block k8]; rfl
          have c1 : (w7.setCell ⟨wo.heap.size, 3, none⟩ (.int .i64 sv)).cell? ⟨wo.heap.size, 1, none⟩ = some (.int .u64 xn) := by rw [cell_of_block k8]; rfl
          have c2 : (w7.setCell ⟨wo.heap.size, 3, none⟩ (.int .i64 sv)).cell? ⟨wo.heap.size, 2, none⟩ = some (.bool xr) := by rw [cell_of_block k8]; rfl
          have c3 : (w7.setCell ⟨wo.heap.size, 3, none⟩ (.int .i64 sv)).cell? ⟨wo.heap.size, 3, none⟩ = some (.int .i64 sv) := by rw [cell_of_block k8]; rfl
          have c4 : (w7.setCell ⟨wo.heap.size, 3, none⟩ (.int .i64 sv)).cell? ⟨wo.heap.size, 4, none⟩ = some (.slice ai j ci) := by rw [cell_of_block k8]; rfl
          have hz8 : (w7.setCell ⟨wo.heap.size, 3, none⟩ (.int .i64 sv)).heap.size = w7.heap.size := by simp
          have hb8 : Below w.heap.size w (w7.setCell ⟨wo.heap.size, 3, none⟩ (.int .i64 sv)) := hb7w.setCell (p := ⟨wo.heap.size, 3, none⟩) hNo _
          have HP8 := Lib.hid hP8
          have HI8 := Lib.hid hI8
          clear k7 k8 hP8 hI8
          go_wp2_with (at_builtin; refine wpList_append_stb rfl _ _ rfl rfl ⟨xo, xn, xr, sv, xi⟩ (.slice ai j ci) _ rfl HP8.out rfl hz8 (by omega) (by omega) HI8.out ?_; intro v9 w9 hP9 hb9)
          have hbw9 := hb8.trans hb9
          go_wp2
          go_roundw
          case rel => exact ⟨t + 1, _, by omega, by go_num, hP9, by rw [List.map_append, HPL.out, HSN.out, HPS.out]; rfl, by rw [List.length_append]; simp; omega, hbw9⟩
          case measure => simp [intOf]; omega
    · have htn' : t = n := by omega
      subst htn'
      have hfin := hP.stb
      rw [HPL.out, ← HN.out, List.take_length] at hfin
      go_wp2
      go_ret
      exact ⟨_, rfl, hfin, hbr⟩
end Go.Proofs.Ytbkfjhbebhnijaa
