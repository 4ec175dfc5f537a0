/-
  refmeshref07.Alloc.
-/
import Derived.Test.YtcmhgjkijegpnaaRfI
namespace Go.Proofs.Ytcmhgjkijegpnaa
open Go.RowKit
set_option linter.unusedSimpArgs false
set_option linter.unusedVariables false

def Four (w : World) : Nat → Prop := fun k => k = w.heap.size ∨ k = w.heap.size + 3
theorem four_set {w wk W : World} (h : Mods (Four w) wk W) (b off : Nat) (u : Value) (hb : b = w.heap.size ∨ b = w.heap.size + 3) : Mods (Four w) wk (W.setCell ⟨b, off, none⟩ u) := h.setCell (p := ⟨b, off, none⟩) (.inl hb) u
theorem rnext_fin4 {w wk W : World} {mk : Value → Value} {lo ly : Int} {wo wy wo' wy' : List Int} {gO gY gO' gY' : Option Nat} {aO : Option Addr} {nO cO : Nat} {aY : Option Addr} {nY cY : Nat} {aO' : Option Addr} {nO' cO' : Nat} {aY' : Option Addr} {nY' cY' : Nat}
    (hm : RMem w aO nO cO aY nY cY lo ly wo wy gO gY) (hk : RMem wk aO' nO' cO' aY' nY' cY' lo ly wo' wy' gO' gY') (hF : Mods (Four w) wk W) (hgO : ∀ G, gO' = some G → gO = some G ∨ w.heap.size + 4 ≤ G) (hgY : ∀ G, gY' = some G → gY = some G ∨ w.heap.size + 4 ≤ G) (hB : Below w.heap.size w W) :
    RNext w mk lo ly wo' wy' gO gY (.returned (mk (.agg #[.int .i64 0, .int .i64 lo, .slice aO' nO' cO', .int .i64 16777216, .int .i64 ly, .slice aY' nY' cY']))) W := by
  have l1 := hm.old.lt'
  have l2 := hm.yng.lt'
  refine ⟨aO', nO', cO', aY', nY', cY', gO', gY', rfl, ⟨hk.lO, hk.lY, hk.old.mods hF (fun G e => ?_), hk.yng.mods hF (fun G e => ?_), hk.okO, hk.okY, hk.lim⟩, fun G e => (hgO G e).imp id (fun h => by omega), fun G e => (hgY G e).imp id (fun h => by omega), hB⟩
  · rintro (h | h) <;> rcases hgO G e with h' | h' <;> first | omega | (have := l1 G h'; omega)
  · rintro (h | h) <;> rcases hgY G e with h' | h' <;> first | omega | (have := l2 G h'; omega)
set_option maxRecDepth 100000 in
set_option maxHeartbeats 2000000 in
theorem rmalloc_O {w : World} {aO : Option Addr} {nO cO : Nat} {aY : Option Addr} {nY cY : Nat} {lo ly : Int} {wo wy : List Int} {gO gY : Option Nat} (hm : RMem w aO nO cO aY nY cY lo ly wo wy gO gY) (k c f m s : Int) :
    Calls Try.prog 14 #[.agg #[.int .i64 0, .int .i64 lo, .slice aO nO cO, .int .i64 16777216, .int .i64 ly, .slice aY nY cY], .bool false, .agg #[.int .i64 k, .int .i64 c, .int .i64 f], .agg #[.int .i64 m, .int .i64 s]] w (RNext w (fun v => .tuple #[v, .int .i64 (alA 0 lo wo k c f m s), .int .i64 (alE 0 lo wo k c f m s)]) lo ly (alW 0 lo wo k c f m s) (wy) gO gY) := by
  have hS := fun W (H : Below w.heap.size w W) => ralloc_any (hm.below H).mdO hm.okO k c f m s
  have hk2 := alOk hm.okO k c f m s
  have hmB := fun W (H : Below w.heap.size w W) => hm.below H
  generalize alE 0 lo wo k c f m s = er at *
  generalize alA 0 lo wo k c f m s = ad at *
  generalize hw2 : alW 0 lo wo k c f m s = ws2 at *
  clear hw2
  have hw0 : Below w.heap.size w w := Below.refl _ _
  go_enter Try.func14, Try.ntmps14
  go_wp2_with fail
  refine (hS _ (by (repeat (first | exact Below.refl _ _ | assumption | refine Below.drew ?_ | refine below_drewN ?_ _ | refine balloc ?_ _ | refine Below.setCell ?_ (by first | (simp; done) | (simp; omega) | omega) _ | refine bchain (by assumption) ?_)))).mono ?_
  rintro e w1 ⟨v2, rfl, g2, hmd2, hg2, hb1⟩
  have hB1 : Below w.heap.size w w1 := by (repeat (first | exact Below.refl _ _ | assumption | refine Below.drew ?_ | refine below_drewN ?_ _ | refine balloc ?_ _ | refine Below.setCell ?_ (by first | (simp; done) | (simp; omega) | omega) _ | refine bchain (by assumption) ?_))
  have k0 : w1.heap[w.heap.size]? = some (.cells #[.int .i64 0, .int .i64 lo, .slice aO nO cO, .int .i64 16777216, .int .i64 ly, .slice aY nY cY] 35 (0, 0)) := bblock hb1 (by repeat (first | exact alloc_at _ (by simp) | refine alloc_lt _ ?_))
  have hb : w1.heap[w.heap.size + 1]? = some (.cells #[.int .i64 k, .int .i64 c, .int .i64 f] 23 (0, 0)) := bblock hb1 (by repeat (first | exact alloc_at _ (by simp) | refine alloc_lt _ ?_))
  have ib : w1.heap[w.heap.size + 2]? = some (.cells #[.int .i64 m, .int .i64 s] 25 (0, 0)) := bblock hb1 (by repeat (first | exact alloc_at _ (by simp) | refine alloc_lt _ ?_))
  have r : w1.heap[w.heap.size + 3]? = some (.cells #[.int .i64 0, .int .i64 0, .slice none 0 0, .int .i64 0, .int .i64 0, .slice none 0 0] 35 (0, 0)) := bblock hb1 (by repeat (first | exact alloc_at _ (by simp) | refine alloc_lt _ ?_))
  have hw1 := bchain hB1 hw0
  have hp1 : w.heap.size + 4 ≤ w1.heap.size := by have := (Array.getElem?_eq_some_iff.1 r).1; omega
  have hz_k0 : w.heap.size < w1.heap.size := (Array.getElem?_eq_some_iff.1 k0).1
  have hz_hb : w.heap.size + 1 < w1.heap.size := (Array.getElem?_eq_some_iff.1 hb).1
  have hz_ib : w.heap.size + 2 < w1.heap.size := (Array.getElem?_eq_some_iff.1 ib).1
  have hz_r : w.heap.size + 3 < w1.heap.size := (Array.getElem?_eq_some_iff.1 r).1
  clear hB1
  have hmd3 := hmd2
  obtain ⟨A2, c2, rfl, hr2⟩ := hmd2
  have hgl : ∀ G, g2 = some G → gO = some G ∨ w.heap.size + 4 ≤ G := fun G e => (hg2 G e).imp id (fun h => by simp at h; omega)
  have hmk := hmB _ hw1
  generalize hL : ws2.length = N2 at *
  have HL := Lib.hid hL
  have k0_0 : w1.cell? ⟨w.heap.size, 0, none⟩ = some (.int .i64 0) := by rw [cell_of_block k0]; rfl
  have k0_1 : w1.cell? ⟨w.heap.size, 1, none⟩ = some (.int .i64 lo) := by rw [cell_of_block k0]; rfl
  have k0_2 : w1.cell? ⟨w.heap.size, 2, none⟩ = some (.slice aO nO cO) := by rw [cell_of_block k0]; rfl
  have k0_3 : w1.cell? ⟨w.heap.size, 3, none⟩ = some (.int .i64 16777216) := by rw [cell_of_block k0]; rfl
  have k0_4 : w1.cell? ⟨w.heap.size, 4, none⟩ = some (.int .i64 ly) := by rw [cell_of_block k0]; rfl
  have k0_5 : w1.cell? ⟨w.heap.size, 5, none⟩ = some (.slice aY nY cY) := by rw [cell_of_block k0]; rfl
  have k0_f : ∀ i, w1.frozen? ⟨w.heap.size, i, none⟩ = false := frozen_of_block k0
  have hb_0 : w1.cell? ⟨w.heap.size + 1, 0, none⟩ = some (.int .i64 k) := by rw [cell_of_block hb]; rfl
  have hb_1 : w1.cell? ⟨w.heap.size + 1, 1, none⟩ = some (.int .i64 c) := by rw [cell_of_block hb]; rfl
  have hb_2 : w1.cell? ⟨w.heap.size + 1, 2, none⟩ = some (.int .i64 f) := by rw [cell_of_block hb]; rfl
  have ib_0 : w1.cell? ⟨w.heap.size + 2, 0, none⟩ = some (.int .i64 m) := by rw [cell_of_block ib]; rfl
  have ib_1 : w1.cell? ⟨w.heap.size + 2, 1, none⟩ = some (.int .i64 s) := by rw [cell_of_block ib]; rfl
  have r_0 : w1.cell? ⟨w.heap.size + 3, 0, none⟩ = some (.int .i64 0) := by rw [cell_of_block r]; rfl
  have r_1 : w1.cell? ⟨w.heap.size + 3, 1, none⟩ = some (.int .i64 0) := by rw [cell_of_block r]; rfl
  have r_2 : w1.cell? ⟨w.heap.size + 3, 2, none⟩ = some (.slice none 0 0) := by rw [cell_of_block r]; rfl
  have r_3 : w1.cell? ⟨w.heap.size + 3, 3, none⟩ = some (.int .i64 0) := by rw [cell_of_block r]; rfl
  have r_4 : w1.cell? ⟨w.heap.size + 3, 4, none⟩ = some (.int .i64 0) := by rw [cell_of_block r]; rfl
  have r_5 : w1.cell? ⟨w.heap.size + 3, 5, none⟩ = some (.slice none 0 0) := by rw [cell_of_block r]; rfl
  have r_f : ∀ i, w1.frozen? ⟨w.heap.size + 3, i, none⟩ = false := frozen_of_block r
  have hRM : RMem w1 A2 N2 c2 aY nY cY lo ly ws2 wy g2 gY := ⟨hL, hmk.lY, hr2, hmk.yng, hk2, hmk.okY, hmk.lim⟩
  clear hL hr2 hmd3 hmk hS hmB hg2
  go_wp2
  refine bodyPost_ret (v := .tuple #[.agg #[.int .i64 0, .int .i64 lo, .slice A2 N2 c2, .int .i64 16777216, .int .i64 ly, .slice aY nY cY], .int .i64 ad, .int .i64 er]) (by simp [results, Try.results14, go_sem, k0_0, k0_1, k0_2, k0_3, k0_4, k0_5, k0_f, hb_0, hb_1, hb_2, ib_0, ib_1, r_0, r_1, r_2, r_3, r_4, r_5, r_f, hz_k0, hz_hb, hz_ib, hz_r]) rfl ?_
  refine rnext_fin4 (w := w) (wk := w1) (mk := fun v => .tuple #[v, .int .i64 ad, .int .i64 er]) hm hRM ?_ hgl (fun G e => .inl e) ?_
  · (repeat (first | (with_reducible refine Mods.alloc ?_ _) | (with_reducible refine four_set ?_ _ _ _ (.inl rfl)) | (with_reducible refine four_set ?_ _ _ _ (.inr rfl)) | (with_reducible exact Mods.refl _ _)))
  · (repeat (first | (with_reducible refine balloc ?_ _) | (with_reducible refine below_set ?_ _ _ _ (by omega)) | (with_reducible assumption)))
set_option maxRecDepth 100000 in
set_option maxHeartbeats 2000000 in
theorem rmalloc_Y {w : World} {aO : Option Addr} {nO cO : Nat} {aY : Option Addr} {nY cY : Nat} {lo ly : Int} {wo wy : List Int} {gO gY : Option Nat} (hm : RMem w aO nO cO aY nY cY lo ly wo wy gO gY) (k c f m s : Int) :
    Calls Try.prog 14 #[.agg #[.int .i64 0, .int .i64 lo, .slice aO nO cO, .int .i64 16777216, .int .i64 ly, .slice aY nY cY], .bool true, .agg #[.int .i64 k, .int .i64 c, .int .i64 f], .agg #[.int .i64 m, .int .i64 s]] w (RNext w (fun v => .tuple #[v, .int .i64 (alA 16777216 ly wy k c f m s), .int .i64 (alE 16777216 ly wy k c f m s)]) lo ly (wo) (alW 16777216 ly wy k c f m s) gO gY) := by
  have hS := fun W (H : Below w.heap.size w W) => ralloc_any (hm.below H).mdY hm.okY k c f m s
  have hk2 := alOk hm.okY k c f m s
  have hmB := fun W (H : Below w.heap.size w W) => hm.below H
  generalize alE 16777216 ly wy k c f m s = er at *
  generalize alA 16777216 ly wy k c f m s = ad at *
  generalize hw2 : alW 16777216 ly wy k c f m s = ws2 at *
  clear hw2
  have hw0 : Below w.heap.size w w := Below.refl _ _
  go_enter Try.func14, Try.ntmps14
  go_wp2_with fail
  refine (hS _ (by (repeat (first | exact Below.refl _ _ | assumption | refine Below.drew ?_ | refine below_drewN ?_ _ | refine balloc ?_ _ | refine Below.setCell ?_ (by first | (simp; done) | (simp; omega) | omega) _ | refine bchain (by assumption) ?_)))).mono ?_
  rintro e w1 ⟨v2, rfl, g2, hmd2, hg2, hb1⟩
  have hB1 : Below w.heap.size w w1 := by (repeat (first | exact Below.refl _ _ | assumption | refine Below.drew ?_ | refine below_drewN ?_ _ | refine balloc ?_ _ | refine Below.setCell ?_ (by first | (simp; done) | (simp; omega) | omega) _ | refine bchain (by assumption) ?_))
  have k0 : w1.heap[w.heap.size]? = some (.cells #[.int .i64 0, .int .i64 lo, .slice aO nO cO, .int .i64 16777216, .int .i64 ly, .slice aY nY cY] 35 (0, 0)) := bblock hb1 (by repeat (first | exact alloc_at _ (by simp) | refine alloc_lt _ ?_))
  have hb : w1.heap[w.heap.size + 1]? = some (.cells #[.int .i64 k, .int .i64 c, .int .i64 f] 23 (0, 0)) := bblock hb1 (by repeat (first | exact alloc_at _ (by simp) | refine alloc_lt _ ?_))
  have ib : w1.heap[w.heap.size + 2]? = some (.cells #[.int .i64 m, .int .i64 s] 25 (0, 0)) := bblock hb1 (by repeat (first | exact alloc_at _ (by simp) | refine alloc_lt _ ?_))
  have r : w1.heap[w.heap.size + 3]? = some (.cells #[.int .i64 0, .int .i64 0, .slice none 0 0, .int .i64 0, .int .i64 0, .slice none 0 0] 35 (0, 0)) := bblock hb1 (by repeat (first | exact alloc_at _ (by simp) | refine alloc_lt _ ?_))
  have hw1 := bchain hB1 hw0
  have hp1 : w.heap.size + 4 ≤ w1.heap.size := by have := (Array.getElem?_eq_some_iff.1 r).1; omega
  have hz_k0 : w.heap.size < w1.heap.size := (Array.getElem?_eq_some_iff.1 k0).1
  have hz_hb : w.heap.size + 1 < w1.heap.size := (Array.getElem?_eq_some_iff.1 hb).1
  have hz_ib : w.heap.size + 2 < w1.heap.size := (Array.getElem?_eq_some_iff.1 ib).1
  have hz_r : w.heap.size + 3 < w1.heap.size := (Array.getElem?_eq_some_iff.1 r).1
  clear hB1
  have hmd3 := hmd2
  obtain ⟨A2, c2, rfl, hr2⟩ := hmd2
  have hgl : ∀ G, g2 = some G → gY = some G ∨ w.heap.size + 4 ≤ G := fun G e => (hg2 G e).imp id (fun h => by simp at h; omega)
  have hmk := hmB _ hw1
  generalize hL : ws2.length = N2 at *
  have HL := Lib.hid hL
  have k0_0 : w1.cell? ⟨w.heap.size, 0, none⟩ = some (.int .i64 0) := by rw [cell_of_block k0]; rfl
  have k0_1 : w1.cell? ⟨w.heap.size, 1, none⟩ = some (.int .i64 lo) := by rw [cell_of_block k0]; rfl
  have k0_2 : w1.cell? ⟨w.heap.size, 2, none⟩ = some (.slice aO nO cO) := by rw [cell_of_block k0]; rfl
  have k0_3 : w1.cell? ⟨w.heap.size, 3, none⟩ = some (.int .i64 16777216) := by rw [cell_of_block k0]; rfl
  have k0_4 : w1.cell? ⟨w.heap.size, 4, none⟩ = some (.int .i64 ly) := by rw [cell_of_block k0]; rfl
  have k0_5 : w1.cell? ⟨w.heap.size, 5, none⟩ = some (.slice aY nY cY) := by rw [cell_of_block k0]; rfl
  have k0_f : ∀ i, w1.frozen? ⟨w.heap.size, i, none⟩ = false := frozen_of_block k0
  have hb_0 : w1.cell? ⟨w.heap.size + 1, 0, none⟩ = some (.int .i64 k) := by rw [cell_of_block hb]; rfl
  have hb_1 : w1.cell? ⟨w.heap.size + 1, 1, none⟩ = some (.int .i64 c) := by rw [cell_of_block hb]; rfl
  have hb_2 : w1.cell? ⟨w.heap.size + 1, 2, none⟩ = some (.int .i64 f) := by rw [cell_of_block hb]; rfl
  have ib_0 : w1.cell? ⟨w.heap.size + 2, 0, none⟩ = some (.int .i64 m) := by rw [cell_of_block ib]; rfl
  have ib_1 : w1.cell? ⟨w.heap.size + 2, 1, none⟩ = some (.int .i64 s) := by rw [cell_of_block ib]; rfl
  have r_0 : w1.cell? ⟨w.heap.size + 3, 0, none⟩ = some (.int .i64 0) := by rw [cell_of_block r]; rfl
  have r_1 : w1.cell? ⟨w.heap.size + 3, 1, none⟩ = some (.int .i64 0) := by rw [cell_of_block r]; rfl
  have r_2 : w1.cell? ⟨w.heap.size + 3, 2, none⟩ = some (.slice none 0 0) := by rw [cell_of_block r]; rfl
  have r_3 : w1.cell? ⟨w.heap.size + 3, 3, none⟩ = some (.int .i64 0) := by rw [cell_of_block r]; rfl
  have r_4 : w1.cell? ⟨w.heap.size + 3, 4, none⟩ = some (.int .i64 0) := by rw [cell_of_block r]; rfl
  have r_5 : w1.cell? ⟨w.heap.size + 3, 5, none⟩ = some (.slice none 0 0) := by rw [cell_of_block r]; rfl
  have r_f : ∀ i, w1.frozen? ⟨w.heap.size + 3, i, none⟩ = false := frozen_of_block r
  have hRM : RMem w1 aO nO cO A2 N2 c2 lo ly wo ws2 gO g2 := ⟨hmk.lO, hL, hmk.old, hr2, hmk.okO, hk2, hmk.lim⟩
  clear hL hr2 hmd3 hmk hS hmB hg2
  go_wp2
  refine bodyPost_ret (v := .tuple #[.agg #[.int .i64 0, .int .i64 lo, .slice aO nO cO, .int .i64 16777216, .int .i64 ly, .slice A2 N2 c2], .int .i64 ad, .int .i64 er]) (by simp [results, Try.results14, go_sem, k0_0, k0_1, k0_2, k0_3, k0_4, k0_5, k0_f, hb_0, hb_1, hb_2, ib_0, ib_1, r_0, r_1, r_2, r_3, r_4, r_5, r_f, hz_k0, hz_hb, hz_ib, hz_r]) rfl ?_
  refine rnext_fin4 (w := w) (wk := w1) (mk := fun v => .tuple #[v, .int .i64 ad, .int .i64 er]) hm hRM ?_ (fun G e => .inl e) hgl ?_
  · (repeat (first | (with_reducible refine Mods.alloc ?_ _) | (with_reducible refine four_set ?_ _ _ _ (.inl rfl)) | (with_reducible refine four_set ?_ _ _ _ (.inr rfl)) | (with_reducible exact Mods.refl _ _)))
  · (repeat (first | (with_reducible refine balloc ?_ _) | (with_reducible refine below_set ?_ _ _ _ (by omega)) | (with_reducible assumption)))
/-- Alloc, at every input. -/
def amE (lo ly : Int) (wo wy : List Int) (y : Bool) (k c f m s : Int) : Int := if y then alE 16777216 ly wy k c f m s else alE 0 lo wo k c f m s
def amA (lo ly : Int) (wo wy : List Int) (y : Bool) (k c f m s : Int) : Int := if y then alA 16777216 ly wy k c f m s else alA 0 lo wo k c f m s
def amO (lo : Int) (wo : List Int) (y : Bool) (k c f m s : Int) : List Int := if y then wo else alW 0 lo wo k c f m s
def amY (ly : Int) (wy : List Int) (y : Bool) (k c f m s : Int) : List Int := if y then alW 16777216 ly wy k c f m s else wy
theorem rmalloc_any {w : World} {aO : Option Addr} {nO cO : Nat} {aY : Option Addr} {nY cY : Nat} {lo ly : Int} {wo wy : List Int} {gO gY : Option Nat} (hm : RMem w aO nO cO aY nY cY lo ly wo wy gO gY) (y : Bool) (k c f m s : Int) : Calls Try.prog 14 #[.agg #[.int .i64 0, .int .i64 lo, .slice aO nO cO, .int .i64 16777216, .int .i64 ly, .slice aY nY cY], .bool y, .agg #[.int .i64 k, .int .i64 c, .int .i64 f], .agg #[.int .i64 m, .int .i64 s]] w (RNext w (fun v => .tuple #[v, .int .i64 (amA lo ly wo wy y k c f m s), .int .i64 (amE lo ly wo wy y k c f m s)]) lo ly (amO lo wo y k c f m s) (amY ly wy y k c f m s) gO gY) := by
  unfold amE amA amO amY
  cases y
  · exact rmalloc_O hm k c f m s
  · exact rmalloc_Y hm k c f m s
end Go.Proofs.Ytcmhgjkijegpnaa
