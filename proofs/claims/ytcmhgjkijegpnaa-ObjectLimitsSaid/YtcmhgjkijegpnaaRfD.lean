/-
  refmeshref07.Store, SetField.
-/
import Derived.Test.YtcmhgjkijegpnaaRfC
namespace Go.Proofs.Ytcmhgjkijegpnaa
open Go.RowKit
set_option linter.unusedSimpArgs false
set_option linter.unusedVariables false

/-- A memory that is handed back: its rows are the old ones, or new. -/
def RNext (w : World) (mk : Value → Value) (lo ly : Int) (wo wy : List Int) (gO gY : Option Nat) (e : Ending) (w' : World) : Prop :=
  ∃ (aO : Option Addr) (nO cO : Nat) (aY : Option Addr) (nY cY : Nat) (gO' gY' : Option Nat), e = .returned (mk (.agg #[.int .i64 0, .int .i64 lo, .slice aO nO cO, .int .i64 16777216, .int .i64 ly, .slice aY nY cY])) ∧ RMem w' aO nO cO aY nY cY lo ly wo wy gO' gY' ∧ (∀ G, gO' = some G → gO = some G ∨ w.heap.size ≤ G) ∧ (∀ G, gY' = some G → gY = some G ∨ w.heap.size ≤ G) ∧ Below w.heap.size w w'
theorem RowAt.lt' {w : World} {a : Option Addr} {cap : Nat} {ws : List Int} {g : Option Nat} (h : RowAt w a cap ws g) : ∀ G, g = some G → G < w.heap.size := by
  rintro G rfl
  obtain ⟨_, _, h2⟩ := h
  rcases h2 with ⟨h, _⟩ | ⟨G', cur, e, _, hh, _⟩
  · cases h
  · cases e
    exact (Array.getElem?_eq_some_iff.1 hh).1
theorem RowAt.mods {S : Nat → Prop} {w w' : World} {a : Option Addr} {cap : Nat} {ws : List Int} {g : Option Nat} (h : RowAt w a cap ws g) (hM : Mods S w w') (hS : ∀ G, g = some G → ¬ S G) : RowAt w' a cap ws g :=
  h.keep (fun G o e ho => mblock hM ho (hS G e))
/-- Two blocks behind the old heap: the result's, and the variable's. -/
def Two (w : World) : Nat → Prop := fun k => k = w.heap.size ∨ k = w.heap.size + 1
theorem two_set {w wk W : World} (h : Mods (Two w) wk W) (b off : Nat) (u : Value) (hb : b = w.heap.size ∨ b = w.heap.size + 1) : Mods (Two w) wk (W.setCell ⟨b, off, none⟩ u) := h.setCell (p := ⟨b, off, none⟩) (.inl hb) u
theorem below_set {w W : World} (h : Below w.heap.size w W) (b off : Nat) (u : Value) (hb : w.heap.size ≤ b) : Below w.heap.size w (W.setCell ⟨b, off, none⟩ u) := h.setCell (p := ⟨b, off, none⟩) hb u
theorem rnext_fin {w wk W : World} {mk : Value → Value} {lo ly : Int} {wo wy wo' wy' : List Int} {gO gY gO' gY' : Option Nat} {aO : Option Addr} {nO cO : Nat} {aY : Option Addr} {nY cY : Nat} {aO' : Option Addr} {nO' cO' : Nat} {aY' : Option Addr} {nY' cY' : Nat}
    (hm : RMem w aO nO cO aY nY cY lo ly wo wy gO gY) (hk : RMem wk aO' nO' cO' aY' nY' cY' lo ly wo' wy' gO' gY') (hF : Mods (Two w) wk W) (hgO : ∀ G, gO' = some G → gO = some G ∨ w.heap.size + 2 ≤ G) (hgY : ∀ G, gY' = some G → gY = some G ∨ w.heap.size + 2 ≤ G) (hB : Below w.heap.size w W) :
    RNext w mk lo ly wo' wy' gO gY (.returned (mk (.agg #[.int .i64 0, .int .i64 lo, .slice aO' nO' cO', .int .i64 16777216, .int .i64 ly, .slice aY' nY' cY']))) W := by
  have l1 := hm.old.lt'
  have l2 := hm.yng.lt'
  refine ⟨aO', nO', cO', aY', nY', cY', gO', gY', rfl, ⟨hk.lO, hk.lY, hk.old.mods hF (fun G e => ?_), hk.yng.mods hF (fun G e => ?_), hk.okO, hk.okY, hk.lim⟩, fun G e => (hgO G e).imp id (fun h => by omega), fun G e => (hgY G e).imp id (fun h => by omega), hB⟩
  · rintro (h | h) <;> rcases hgO G e with h' | h' <;> first | omega | (have := l1 G h'; omega)
  · rintro (h | h) <;> rcases hgY G e with h' | h' <;> first | omega | (have := l2 G h'; omega)
set_option maxRecDepth 100000 in
set_option maxHeartbeats 400000 in
theorem rmstore_O {w : World} {aO : Option Addr} {nO cO : Nat} {aY : Option Addr} {nY cY : Nat} {lo ly : Int} {wo wy : List Int} {gO gY : Option Nat} (hm : RMem w aO nO cO aY nY cY lo ly wo wy gO gY) (a u : Int) (hu : U64 u) (hi : inB 0 wo.length a = true) :
    Calls Try.prog 61 #[.agg #[.int .i64 0, .int .i64 lo, .slice aO nO cO, .int .i64 16777216, .int .i64 ly, .slice aY nY cY], .int .i64 a, .int .u64 u] w (RNext w (fun v => .tuple #[v, .int .i64 (ioE 0 wo a)]) lo ly (stW 0 wo a u) (wy) gO gY) := by
  have hC := fun W (H : Below w.heap.size w W) => rcontains_any (hm.below H).mdO hm.okO a
  have hS := fun W (H : Below w.heap.size w W) => rstore_any (hm.below H).mdO hm.okO a u
  have hk2 := stOk hm.okO a hu
  have hmB := fun W (H : Below w.heap.size w W) => hm.below H
  rw [hi] at hC
  generalize ioE 0 wo a = er at *
  generalize hw2 : stW 0 wo a u = ws2 at *
  clear hi hw2 hu
  have hw0 : Below w.heap.size w w := Below.refl _ _
  go_enter Try.func61, Try.ntmps61
  go_wp2_with fail
  refine (hC _ (by (repeat (first | exact Below.refl _ _ | assumption | refine Below.drew ?_ | refine below_drewN ?_ _ | refine balloc ?_ _ | refine Below.setCell ?_ (by first | (simp; done) | (simp; omega) | omega) _ | refine bchain (by assumption) ?_)))).mono ?_
  rintro e w1 ⟨rfl, hb1⟩
  have hB1 : Below w.heap.size w w1 := by (repeat (first | exact Below.refl _ _ | assumption | refine Below.drew ?_ | refine below_drewN ?_ _ | refine balloc ?_ _ | refine Below.setCell ?_ (by first | (simp; done) | (simp; omega) | omega) _ | refine bchain (by assumption) ?_))
  have k0 : w1.heap[w.heap.size]? = some (.cells #[.int .i64 0, .int .i64 lo, .slice aO nO cO, .int .i64 16777216, .int .i64 ly, .slice aY nY cY] 35 (0, 0)) := bblock hb1 (by repeat (first | exact alloc_at _ (by simp) | refine alloc_lt _ ?_))
  have r : w1.heap[w.heap.size + 1]? = some (.cells #[.int .i64 0, .int .i64 0, .slice none 0 0, .int .i64 0, .int .i64 0, .slice none 0 0] 35 (0, 0)) := bblock hb1 (by repeat (first | exact alloc_at _ (by simp) | refine alloc_lt _ ?_))
  have hw1 := bchain hB1 hw0
  have hp1 : w.heap.size + 2 ≤ w1.heap.size := by have := (Array.getElem?_eq_some_iff.1 r).1; omega
  have hz_k0 : w.heap.size < w1.heap.size := (Array.getElem?_eq_some_iff.1 k0).1
  have hz_r : w.heap.size + 1 < w1.heap.size := (Array.getElem?_eq_some_iff.1 r).1
  clear hB1
  have k0_0 : w1.cell? ⟨w.heap.size, 0, none⟩ = some (.int .i64 0) := by rw [cell_of_block k0]; rfl
  have k0_1 : w1.cell? ⟨w.heap.size, 1, none⟩ = some (.int .i64 lo) := by rw [cell_of_block k0]; rfl
  have k0_2 : w1.cell? ⟨w.heap.size, 2, none⟩ = some (.slice aO nO cO) := by rw [cell_of_block k0]; rfl
  have k0_3 : w1.cell? ⟨w.heap.size, 3, none⟩ = some (.int .i64 16777216) := by rw [cell_of_block k0]; rfl
  have k0_4 : w1.cell? ⟨w.heap.size, 4, none⟩ = some (.int .i64 ly) := by rw [cell_of_block k0]; rfl
  have k0_5 : w1.cell? ⟨w.heap.size, 5, none⟩ = some (.slice aY nY cY) := by rw [cell_of_block k0]; rfl
  have k0_f : ∀ i, w1.frozen? ⟨w.heap.size, i, none⟩ = false := frozen_of_block k0
  have r_0 : w1.cell? ⟨w.heap.size + 1, 0, none⟩ = some (.int .i64 0) := by rw [cell_of_block r]; rfl
  have r_1 : w1.cell? ⟨w.heap.size + 1, 1, none⟩ = some (.int .i64 0) := by rw [cell_of_block r]; rfl
  have r_2 : w1.cell? ⟨w.heap.size + 1, 2, none⟩ = some (.slice none 0 0) := by rw [cell_of_block r]; rfl
  have r_3 : w1.cell? ⟨w.heap.size + 1, 3, none⟩ = some (.int .i64 0) := by rw [cell_of_block r]; rfl
  have r_4 : w1.cell? ⟨w.heap.size + 1, 4, none⟩ = some (.int .i64 0) := by rw [cell_of_block r]; rfl
  have r_5 : w1.cell? ⟨w.heap.size + 1, 5, none⟩ = some (.slice none 0 0) := by rw [cell_of_block r]; rfl
  have r_f : ∀ i, w1.frozen? ⟨w.heap.size + 1, i, none⟩ = false := frozen_of_block r
  go_wp2_with fail
  refine (hS _ (by (repeat (first | exact Below.refl _ _ | assumption | refine Below.drew ?_ | refine below_drewN ?_ _ | refine balloc ?_ _ | refine Below.setCell ?_ (by first | (simp; done) | (simp; omega) | omega) _ | refine bchain (by assumption) ?_)))).mono ?_
  rintro e w2 ⟨v2, rfl, g2, hmd2, hg2, hb2⟩
  have hB2 : Below w1.heap.size w1 w2 := by (repeat (first | exact Below.refl _ _ | assumption | refine Below.drew ?_ | refine below_drewN ?_ _ | refine balloc ?_ _ | refine Below.setCell ?_ (by first | (simp; done) | (simp; omega) | omega) _ | refine bchain (by assumption) ?_))
  have k0 := bblock hB2 k0
  have r := bblock hB2 r
  have hw2 := bchain hB2 hw1
  have hp2 : w.heap.size + 2 ≤ w2.heap.size := by have := (Array.getElem?_eq_some_iff.1 r).1; omega
  clear hz_k0 hz_r
  have hz_k0 : w.heap.size < w2.heap.size := (Array.getElem?_eq_some_iff.1 k0).1
  have hz_r : w.heap.size + 1 < w2.heap.size := (Array.getElem?_eq_some_iff.1 r).1
  clear hB2
  have hmd3 := hmd2
  obtain ⟨A2, c2, rfl, hr2⟩ := hmd2
  have hgl : ∀ G, g2 = some G → gO = some G ∨ w.heap.size + 2 ≤ G := fun G e => (hg2 G e).imp id (fun h => by omega)
  have hmk := hmB _ hw2
  generalize hL : ws2.length = N2 at *
  have HL := Lib.hid hL
  clear k0_0 k0_1 k0_2 k0_3 k0_4 k0_5 k0_f r_0 r_1 r_2 r_3 r_4 r_5 r_f
  have k0_0 : w2.cell? ⟨w.heap.size, 0, none⟩ = some (.int .i64 0) := by rw [cell_of_block k0]; rfl
  have k0_1 : w2.cell? ⟨w.heap.size, 1, none⟩ = some (.int .i64 lo) := by rw [cell_of_block k0]; rfl
  have k0_2 : w2.cell? ⟨w.heap.size, 2, none⟩ = some (.slice aO nO cO) := by rw [cell_of_block k0]; rfl
  have k0_3 : w2.cell? ⟨w.heap.size, 3, none⟩ = some (.int .i64 16777216) := by rw [cell_of_block k0]; rfl
  have k0_4 : w2.cell? ⟨w.heap.size, 4, none⟩ = some (.int .i64 ly) := by rw [cell_of_block k0]; rfl
  have k0_5 : w2.cell? ⟨w.heap.size, 5, none⟩ = some (.slice aY nY cY) := by rw [cell_of_block k0]; rfl
  have k0_f : ∀ i, w2.frozen? ⟨w.heap.size, i, none⟩ = false := frozen_of_block k0
  have r_0 : w2.cell? ⟨w.heap.size + 1, 0, none⟩ = some (.int .i64 0) := by rw [cell_of_block r]; rfl
  have r_1 : w2.cell? ⟨w.heap.size + 1, 1, none⟩ = some (.int .i64 0) := by rw [cell_of_block r]; rfl
  have r_2 : w2.cell? ⟨w.heap.size + 1, 2, none⟩ = some (.slice none 0 0) := by rw [cell_of_block r]; rfl
  have r_3 : w2.cell? ⟨w.heap.size + 1, 3, none⟩ = some (.int .i64 0) := by rw [cell_of_block r]; rfl
  have r_4 : w2.cell? ⟨w.heap.size + 1, 4, none⟩ = some (.int .i64 0) := by rw [cell_of_block r]; rfl
  have r_5 : w2.cell? ⟨w.heap.size + 1, 5, none⟩ = some (.slice none 0 0) := by rw [cell_of_block r]; rfl
  have r_f : ∀ i, w2.frozen? ⟨w.heap.size + 1, i, none⟩ = false := frozen_of_block r
  have hRM : RMem w2 A2 N2 c2 aY nY cY lo ly ws2 wy g2 gY := ⟨hL, hmk.lY, hr2, hmk.yng, hk2, hmk.okY, hmk.lim⟩
  clear hL hr2 hmd3 hmk hS hC hmB hg2
  go_wp2
  refine bodyPost_ret (v := .tuple #[.agg #[.int .i64 0, .int .i64 lo, .slice A2 N2 c2, .int .i64 16777216, .int .i64 ly, .slice aY nY cY], .int .i64 er]) (by simp [results, Try.results61, go_sem, k0_0, k0_1, k0_2, k0_3, k0_4, k0_5, k0_f, r_0, r_1, r_2, r_3, r_4, r_5, r_f, hz_k0, hz_r]) rfl ?_
  refine rnext_fin (w := w) (wk := w2) (mk := fun v => .tuple #[v, .int .i64 er]) hm hRM ?_ hgl (fun G e => .inl e) ?_
  · (repeat (first | (with_reducible refine Mods.alloc ?_ _) | (with_reducible refine two_set ?_ _ _ _ (.inl rfl)) | (with_reducible refine two_set ?_ _ _ _ (.inr rfl)) | (with_reducible exact Mods.refl _ _)))
  · (repeat (first | (with_reducible refine balloc ?_ _) | (with_reducible refine below_set ?_ _ _ _ (Nat.le_refl _)) | (with_reducible refine below_set ?_ _ _ _ (Nat.le_add_right _ _)) | (with_reducible assumption)))
set_option maxRecDepth 100000 in
set_option maxHeartbeats 400000 in
theorem rmstore_Y {w : World} {aO : Option Addr} {nO cO : Nat} {aY : Option Addr} {nY cY : Nat} {lo ly : Int} {wo wy : List Int} {gO gY : Option Nat} (hm : RMem w aO nO cO aY nY cY lo ly wo wy gO gY) (a u : Int) (hu : U64 u) (hi : inB 0 wo.length a = false) :
    Calls Try.prog 61 #[.agg #[.int .i64 0, .int .i64 lo, .slice aO nO cO, .int .i64 16777216, .int .i64 ly, .slice aY nY cY], .int .i64 a, .int .u64 u] w (RNext w (fun v => .tuple #[v, .int .i64 (ioE 16777216 wy a)]) lo ly (wo) (stW 16777216 wy a u) gO gY) := by
  have hC := fun W (H : Below w.heap.size w W) => rcontains_any (hm.below H).mdO hm.okO a
  have hS := fun W (H : Below w.heap.size w W) => rstore_any (hm.below H).mdY hm.okY a u
  have hk2 := stOk hm.okY a hu
  have hmB := fun W (H : Below w.heap.size w W) => hm.below H
  rw [hi] at hC
  generalize ioE 16777216 wy a = er at *
  generalize hw2 : stW 16777216 wy a u = ws2 at *
  clear hi hw2 hu
  have hw0 : Below w.heap.size w w := Below.refl _ _
  go_enter Try.func61, Try.ntmps61
  go_wp2_with fail
  refine (hC _ (by (repeat (first | exact Below.refl _ _ | assumption | refine Below.drew ?_ | refine below_drewN ?_ _ | refine balloc ?_ _ | refine Below.setCell ?_ (by first | (simp; done) | (simp; omega) | omega) _ | refine bchain (by assumption) ?_)))).mono ?_
  rintro e w1 ⟨rfl, hb1⟩
  have hB1 : Below w.heap.size w w1 := by (repeat (first | exact Below.refl _ _ | assumption | refine Below.drew ?_ | refine below_drewN ?_ _ | refine balloc ?_ _ | refine Below.setCell ?_ (by first | (simp; done) | (simp; omega) | omega) _ | refine bchain (by assumption) ?_))
  have k0 : w1.heap[w.heap.size]? = some (.cells #[.int .i64 0, .int .i64 lo, .slice aO nO cO, .int .i64 16777216, .int .i64 ly, .slice aY nY cY] 35 (0, 0)) := bblock hb1 (by repeat (first | exact alloc_at _ (by simp) | refine alloc_lt _ ?_))
  have r : w1.heap[w.heap.size + 1]? = some (.cells #[.int .i64 0, .int .i64 0, .slice none 0 0, .int .i64 0, .int .i64 0, .slice none 0 0] 35 (0, 0)) := bblock hb1 (by repeat (first | exact alloc_at _ (by simp) | refine alloc_lt _ ?_))
  have hw1 := bchain hB1 hw0
  have hp1 : w.heap.size + 2 ≤ w1.heap.size := by have := (Array.getElem?_eq_some_iff.1 r).1; omega
  have hz_k0 : w.heap.size < w1.heap.size := (Array.getElem?_eq_some_iff.1 k0).1
  have hz_r : w.heap.size + 1 < w1.heap.size := (Array.getElem?_eq_some_iff.1 r).1
  clear hB1
  have k0_0 : w1.cell? ⟨w.heap.size, 0, none⟩ = some (.int .i64 0) := by rw [cell_of_block k0]; rfl
  have k0_1 : w1.cell? ⟨w.heap.size, 1, none⟩ = some (.int .i64 lo) := by rw [cell_of_block k0]; rfl
  have k0_2 : w1.cell? ⟨w.heap.size, 2, none⟩ = some (.slice aO nO cO) := by rw [cell_of_block k0]; rfl
  have k0_3 : w1.cell? ⟨w.heap.size, 3, none⟩ = some (.int .i64 16777216) := by rw [cell_of_block k0]; rfl
  have k0_4 : w1.cell? ⟨w.heap.size, 4, none⟩ = some (.int .i64 ly) := by rw [cell_of_block k0]; rfl
  have k0_5 : w1.cell? ⟨w.heap.size, 5, none⟩ = some (.slice aY nY cY) := by rw [cell_of_block k0]; rfl
  have k0_f : ∀ i, w1.frozen? ⟨w.heap.size, i, none⟩ = false := frozen_of_block k0
  have r_0 : w1.cell? ⟨w.heap.size + 1, 0, none⟩ = some (.int .i64 0) := by rw [cell_of_block r]; rfl
  have r_1 : w1.cell? ⟨w.heap.size + 1, 1, none⟩ = some (.int .i64 0) := by rw [cell_of_block r]; rfl
  have r_2 : w1.cell? ⟨w.heap.size + 1, 2, none⟩ = some (.slice none 0 0) := by rw [cell_of_block r]; rfl
  have r_3 : w1.cell? ⟨w.heap.size + 1, 3, none⟩ = some (.int .i64 0) := by rw [cell_of_block r]; rfl
  have r_4 : w1.cell? ⟨w.heap.size + 1, 4, none⟩ = some (.int .i64 0) := by rw [cell_of_block r]; rfl
  have r_5 : w1.cell? ⟨w.heap.size + 1, 5, none⟩ = some (.slice none 0 0) := by rw [cell_of_block r]; rfl
  have r_f : ∀ i, w1.frozen? ⟨w.heap.size + 1, i, none⟩ = false := frozen_of_block r
  go_wp2_with fail
  refine (hS _ (by (repeat (first | exact Below.refl _ _ | assumption | refine Below.drew ?_ | refine below_drewN ?_ _ | refine balloc ?_ _ | refine Below.setCell ?_ (by first | (simp; done) | (simp; omega) | omega) _ | refine bchain (by assumption) ?_)))).mono ?_
  rintro e w2 ⟨v2, rfl, g2, hmd2, hg2, hb2⟩
  have hB2 : Below w1.heap.size w1 w2 := by (repeat (first | exact Below.refl _ _ | assumption | refine Below.drew ?_ | refine below_drewN ?_ _ | refine balloc ?_ _ | refine Below.setCell ?_ (by first | (simp; done) | (simp; omega) | omega) _ | refine bchain (by assumption) ?_))
  have k0 := bblock hB2 k0
  have r := bblock hB2 r
  have hw2 := bchain hB2 hw1
  have hp2 : w.heap.size + 2 ≤ w2.heap.size := by have := (Array.getElem?_eq_some_iff.1 r).1; omega
  clear hz_k0 hz_r
  have hz_k0 : w.heap.size < w2.heap.size := (Array.getElem?_eq_some_iff.1 k0).1
  have hz_r : w.heap.size + 1 < w2.heap.size := (Array.getElem?_eq_some_iff.1 r).1
  clear hB2
  have hmd3 := hmd2
  obtain ⟨A2, c2, rfl, hr2⟩ := hmd2
  have hgl : ∀ G, g2 = some G → gY = some G ∨ w.heap.size + 2 ≤ G := fun G e => (hg2 G e).imp id (fun h => by omega)
  have hmk := hmB _ hw2
  generalize hL : ws2.length = N2 at *
  have HL := Lib.hid hL
  clear k0_0 k0_1 k0_2 k0_3 k0_4 k0_5 k0_f r_0 r_1 r_2 r_3 r_4 r_5 r_f
  have k0_0 : w2.cell? ⟨w.heap.size, 0, none⟩ = some (.int .i64 0) := by rw [cell_of_block k0]; rfl
  have k0_1 : w2.cell? ⟨w.heap.size, 1, none⟩ = some (.int .i64 lo) := by rw [cell_of_block k0]; rfl
  have k0_2 : w2.cell? ⟨w.heap.size, 2, none⟩ = some (.slice aO nO cO) := by rw [cell_of_block k0]; rfl
  have k0_3 : w2.cell? ⟨w.heap.size, 3, none⟩ = some (.int .i64 16777216) := by rw [cell_of_block k0]; rfl
  have k0_4 : w2.cell? ⟨w.heap.size, 4, none⟩ = some (.int .i64 ly) := by rw [cell_of_block k0]; rfl
  have k0_5 : w2.cell? ⟨w.heap.size, 5, none⟩ = some (.slice aY nY cY) := by rw [cell_of_block k0]; rfl
  have k0_f : ∀ i, w2.frozen? ⟨w.heap.size, i, none⟩ = false := frozen_of_block k0
  have r_0 : w2.cell? ⟨w.heap.size + 1, 0, none⟩ = some (.int .i64 0) := by rw [cell_of_block r]; rfl
  have r_1 : w2.cell? ⟨w.heap.size + 1, 1, none⟩ = some (.int .i64 0) := by rw [cell_of_block r]; rfl
  have r_2 : w2.cell? ⟨w.heap.size + 1, 2, none⟩ = some (.slice none 0 0) := by rw [cell_of_block r]; rfl
  have r_3 : w2.cell? ⟨w.heap.size + 1, 3, none⟩ = some (.int .i64 0) := by rw [cell_of_block r]; rfl
  have r_4 : w2.cell? ⟨w.heap.size + 1, 4, none⟩ = some (.int .i64 0) := by rw [cell_of_block r]; rfl
  have r_5 : w2.cell? ⟨w.heap.size + 1, 5, none⟩ = some (.slice none 0 0) := by rw [cell_of_block r]; rfl
  have r_f : ∀ i, w2.frozen? ⟨w.heap.size + 1, i, none⟩ = false := frozen_of_block r
  have hRM : RMem w2 aO nO cO A2 N2 c2 lo ly wo ws2 gO g2 := ⟨hmk.lO, hL, hmk.old, hr2, hmk.okO, hk2, hmk.lim⟩
  clear hL hr2 hmd3 hmk hS hC hmB hg2
  go_wp2
  refine bodyPost_ret (v := .tuple #[.agg #[.int .i64 0, .int .i64 lo, .slice aO nO cO, .int .i64 16777216, .int .i64 ly, .slice A2 N2 c2], .int .i64 er]) (by simp [results, Try.results61, go_sem, k0_0, k0_1, k0_2, k0_3, k0_4, k0_5, k0_f, r_0, r_1, r_2, r_3, r_4, r_5, r_f, hz_k0, hz_r]) rfl ?_
  refine rnext_fin (w := w) (wk := w2) (mk := fun v => .tuple #[v, .int .i64 er]) hm hRM ?_ (fun G e => .inl e) hgl ?_
  · (repeat (first | (with_reducible refine Mods.alloc ?_ _) | (with_reducible refine two_set ?_ _ _ _ (.inl rfl)) | (with_reducible refine two_set ?_ _ _ _ (.inr rfl)) | (with_reducible exact Mods.refl _ _)))
  · (repeat (first | (with_reducible refine balloc ?_ _) | (with_reducible refine below_set ?_ _ _ _ (Nat.le_refl _)) | (with_reducible refine below_set ?_ _ _ _ (Nat.le_add_right _ _)) | (with_reducible assumption)))
theorem rmstore_any {w : World} {aO : Option Addr} {nO cO : Nat} {aY : Option Addr} {nY cY : Nat} {lo ly : Int} {wo wy : List Int} {gO gY : Option Nat} (hm : RMem w aO nO cO aY nY cY lo ly wo wy gO gY) (a u : Int) (hu : U64 u) : Calls Try.prog 61 #[.agg #[.int .i64 0, .int .i64 lo, .slice aO nO cO, .int .i64 16777216, .int .i64 ly, .slice aY nY cY], .int .i64 a, .int .u64 u] w (RNext w (fun v => .tuple #[v, .int .i64 (LE wo wy a)]) lo ly (stO wo a u) (stY wy a u) gO gY) := by
  unfold LE stO stY
  rcases prt_same hm a with ⟨h1, h2, h3⟩ | ⟨h1, h2, h3⟩ | ⟨h1, h2, h3, h4⟩
  · have hn : ¬ 16777216 ≤ a := by
      obtain ⟨_, h5⟩ := inB_iff.1 h1
      have := hm.okO.top
      have := hm.lim
      omega
    rw [if_neg hn, if_neg hn, h2, h3]
    exact rmstore_O hm a u hu h1
  · have hn : 16777216 ≤ a := by
      unfold bsA at h2
      by_cases h : 16777216 ≤ a
      · exact h
      · rw [if_neg h] at h2; cases h2
    rw [if_pos hn, if_pos hn, h2, h3]
    exact rmstore_Y hm a u hu h1
  · have hn : ¬ 16777216 ≤ a := by
      unfold bsA at h2
      intro h
      rw [if_pos h] at h2; cases h2
    rw [if_neg hn, if_neg hn, h2, h3]
    have e1 : stW 0 wo a u = wo := by unfold stW; rw [h1]; rfl
    have e2 : ioE 0 wo a = ioE 16777216 wy a := by unfold ioE; rw [h1, h4]
    have e3 : stW 16777216 wy a u = wy := by unfold stW; rw [h4]; rfl
    have := rmstore_Y hm a u hu h1
    rw [e3] at this
    rw [e1, e2]
    exact this
end Go.Proofs.Ytcmhgjkijegpnaa
