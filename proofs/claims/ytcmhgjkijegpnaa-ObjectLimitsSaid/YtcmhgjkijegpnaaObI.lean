/-
  object.Resolve at every address; ToForward.
-/
import Derived.Test.YtcmhgjkijegpnaaObH
namespace Go.Proofs.Ytcmhgjkijegpnaa
open Go.RowKit
set_option linter.unusedSimpArgs false
set_option linter.unusedVariables false

theorem mresolve_any {w : World} {bO bY : Nat} {lo ly : Int} {wo wy : List Int} {gO gY : Option Nat} (hm : MemAt w bO bY lo ly wo wy gO gY) (a : Int) : Calls Try.prog 16 #[.agg #[.pointer (some ⟨bO, 0, none⟩), .pointer (some ⟨bY, 0, none⟩)], .int .i64 a] w fun e w' => e = .returned (.tuple #[.int .i64 (RA wo wy a), .int .i64 (RE wo wy a)]) ∧ Below w.heap.size w w' := by
  unfold RA RE
  by_cases hl : LE wo wy a = 0
  · rw [if_pos hl, if_pos hl]
    exact mresolve_in hm a hl _ _ rfl
  · rw [if_neg hl, if_neg hl]
    exact mresolve_out hm a hl
def tfB (wo wy : List Int) (a t : Int) : Bool := decide (RE wo wy t ≠ 0 ∨ RA wo wy t = a)
def tfE (wo wy : List Int) (a t : Int) : Int := if isE (fun k => k != 4) wo wy a ≠ 0 then isE (fun k => k != 4) wo wy a else if tfB wo wy a t then 1 else 0
def tfM (wo wy : List Int) (a t : Int) : List Int × List Int := if tfE wo wy a t = 0 then wrM wo wy a 4 [faW t] else (wo, wy)
set_option maxRecDepth 100000 in
set_option maxHeartbeats 1000000 in
theorem tofwd_e {w : World} {bO bY : Nat} {lo ly : Int} {wo wy : List Int} {gO gY : Option Nat} (hm : MemAt w bO bY lo ly wo wy gO gY) (a t : Int) (he : isE (fun k => k != 4) wo wy a ≠ 0) :
    Calls Try.prog 18 #[.agg #[.pointer (some ⟨bO, 0, none⟩), .pointer (some ⟨bY, 0, none⟩)], .int .i64 a, .int .i64 t] w fun e w' => e = .returned (.int .i64 (isE (fun k => k != 4) wo wy a)) ∧ MemAt w' bO bY lo ly (wo) (wy) gO gY ∧ Mods (MS bO bY gO gY) w w' := by
  have hH := fun (W : World) (H : MemAt W bO bY lo ly wo wy gO gY) => is_nofw H a
  generalize isE (fun k => k != 4) wo wy a = er at *
  have hb1 : (er != 0) = true := by simpa using he
  clear he
  have hM0 : Mods (MS bO bY gO gY) w w := Mods.refl _ _
  have hm0 := hm
  have hn0 := hm.fresh
  go_enter Try.func18, Try.ntmps18
  go_wp2_with fail
  refine (hH _ (hm0.below (by (repeat (first | exact Below.refl _ _ | assumption | refine Below.drew ?_ | refine below_drewN ?_ _ | refine balloc ?_ _ | refine Below.setCell ?_ (by first | (simp; done) | (simp; omega) | omega) _ | refine bchain (by assumption) ?_))))).mono ?_
  rintro e w1 ⟨rfl, hb1⟩
  have hB1 : Below w.heap.size w w1 := by (repeat (first | exact Below.refl _ _ | assumption | refine Below.drew ?_ | refine below_drewN ?_ _ | refine balloc ?_ _ | refine Below.setCell ?_ (by first | (simp; done) | (simp; omega) | omega) _ | refine bchain (by assumption) ?_))
  have k0 : w1.heap[w.heap.size]? = some (.cells #[.pointer (some ⟨bO, 0, none⟩), .pointer (some ⟨bY, 0, none⟩)] 29 (0, 0)) := bblock hb1 (by repeat (first | exact alloc_at _ (by simp) | refine alloc_lt _ ?_))
  have hM1 := Mods.chain hB1 hM0
  have hm1 := hm0.below hB1
  have hs1 : w.heap.size ≤ w1.heap.size := hM1.size
  have hz_k0 : w.heap.size < w1.heap.size := (Array.getElem?_eq_some_iff.1 k0).1
  clear hB1 hm0 hM0 hb1
  have k0_0 : w1.cell? ⟨w.heap.size, 0, none⟩ = some (.pointer (some ⟨bO, 0, none⟩)) := by rw [cell_of_block k0]; rfl
  have k0_1 : w1.cell? ⟨w.heap.size, 1, none⟩ = some (.pointer (some ⟨bY, 0, none⟩)) := by rw [cell_of_block k0]; rfl
  go_wp2
  go_ret
  exact ⟨rfl, hm1.below (by (repeat (first | exact Below.refl _ _ | assumption | refine Below.drew ?_ | refine below_drewN ?_ _ | refine balloc ?_ _ | refine Below.setCell ?_ (by first | (simp; done) | (simp; omega) | omega) _ | refine bchain (by assumption) ?_))), Mods.chain (show Below w1.heap.size w1 _ from by (repeat (first | exact Below.refl _ _ | assumption | refine Below.drew ?_ | refine below_drewN ?_ _ | refine balloc ?_ _ | refine Below.setCell ?_ (by first | (simp; done) | (simp; omega) | omega) _ | refine bchain (by assumption) ?_))) hM1⟩
set_option maxRecDepth 100000 in
set_option maxHeartbeats 1000000 in
theorem tofwd_r {w : World} {bO bY : Nat} {lo ly : Int} {wo wy : List Int} {gO gY : Option Nat} (hm : MemAt w bO bY lo ly wo wy gO gY) (a t : Int) (he : isE (fun k => k != 4) wo wy a = 0) (hr : RE wo wy t ≠ 0) :
    Calls Try.prog 18 #[.agg #[.pointer (some ⟨bO, 0, none⟩), .pointer (some ⟨bY, 0, none⟩)], .int .i64 a, .int .i64 t] w fun e w' => e = .returned (.int .i64 1) ∧ MemAt w' bO bY lo ly (wo) (wy) gO gY ∧ Mods (MS bO bY gO gY) w w' := by
  have hH := fun (W : World) (H : MemAt W bO bY lo ly wo wy gO gY) => is_nofw H a
  have hR := fun (W : World) (H : MemAt W bO bY lo ly wo wy gO gY) => mresolve_any H t
  rw [he] at hH
  generalize RE wo wy t = er at *
  generalize RA wo wy t = ra at *
  have hb1 : (er != 0) = true := by simpa using hr
  clear he hr
  have hM0 : Mods (MS bO bY gO gY) w w := Mods.refl _ _
  have hm0 := hm
  have hn0 := hm.fresh
  go_enter Try.func18, Try.ntmps18
  go_wp2_with fail
  refine (hH _ (hm0.below (by (repeat (first | exact Below.refl _ _ | assumption | refine Below.drew ?_ | refine below_drewN ?_ _ | refine balloc ?_ _ | refine Below.setCell ?_ (by first | (simp; done) | (simp; omega) | omega) _ | refine bchain (by assumption) ?_))))).mono ?_
  rintro e w1 ⟨rfl, hb1⟩
  have hB1 : Below w.heap.size w w1 := by (repeat (first | exact Below.refl _ _ | assumption | refine Below.drew ?_ | refine below_drewN ?_ _ | refine balloc ?_ _ | refine Below.setCell ?_ (by first | (simp; done) | (simp; omega) | omega) _ | refine bchain (by assumption) ?_))
  have k0 : w1.heap[w.heap.size]? = some (.cells #[.pointer (some ⟨bO, 0, none⟩), .pointer (some ⟨bY, 0, none⟩)] 29 (0, 0)) := bblock hb1 (by repeat (first | exact alloc_at _ (by simp) | refine alloc_lt _ ?_))
  have hM1 := Mods.chain hB1 hM0
  have hm1 := hm0.below hB1
  have hs1 : w.heap.size ≤ w1.heap.size := hM1.size
  have hz_k0 : w.heap.size < w1.heap.size := (Array.getElem?_eq_some_iff.1 k0).1
  clear hB1 hm0 hM0 hb1
  have k0_0 : w1.cell? ⟨w.heap.size, 0, none⟩ = some (.pointer (some ⟨bO, 0, none⟩)) := by rw [cell_of_block k0]; rfl
  have k0_1 : w1.cell? ⟨w.heap.size, 1, none⟩ = some (.pointer (some ⟨bY, 0, none⟩)) := by rw [cell_of_block k0]; rfl
  go_wp2_with fail
  refine (hR _ (hm1.below (by (repeat (first | exact Below.refl _ _ | assumption | refine Below.drew ?_ | refine below_drewN ?_ _ | refine balloc ?_ _ | refine Below.setCell ?_ (by first | (simp; done) | (simp; omega) | omega) _ | refine bchain (by assumption) ?_))))).mono ?_
  rintro e w2 ⟨rfl, hb2⟩
  have hB2 : Below w1.heap.size w1 w2 := by (repeat (first | exact Below.refl _ _ | assumption | refine Below.drew ?_ | refine below_drewN ?_ _ | refine balloc ?_ _ | refine Below.setCell ?_ (by first | (simp; done) | (simp; omega) | omega) _ | refine bchain (by assumption) ?_))
  have k0 := bblock hB2 k0
  have hM2 := Mods.chain hB2 hM1
  have hm2 := hm1.below hB2
  have hs2 : w.heap.size ≤ w2.heap.size := hM2.size
  clear hz_k0
  have hz_k0 : w.heap.size < w2.heap.size := (Array.getElem?_eq_some_iff.1 k0).1
  clear hB2 hm1 hM1 hb2
  clear k0_0 k0_1
  have k0_0 : w2.cell? ⟨w.heap.size, 0, none⟩ = some (.pointer (some ⟨bO, 0, none⟩)) := by rw [cell_of_block k0]; rfl
  have k0_1 : w2.cell? ⟨w.heap.size, 1, none⟩ = some (.pointer (some ⟨bY, 0, none⟩)) := by rw [cell_of_block k0]; rfl
  go_wp2
  go_ret
  exact ⟨rfl, hm2.below (by (repeat (first | exact Below.refl _ _ | assumption | refine Below.drew ?_ | refine below_drewN ?_ _ | refine balloc ?_ _ | refine Below.setCell ?_ (by first | (simp; done) | (simp; omega) | omega) _ | refine bchain (by assumption) ?_))), Mods.chain (show Below w2.heap.size w2 _ from by (repeat (first | exact Below.refl _ _ | assumption | refine Below.drew ?_ | refine below_drewN ?_ _ | refine balloc ?_ _ | refine Below.setCell ?_ (by first | (simp; done) | (simp; omega) | omega) _ | refine bchain (by assumption) ?_))) hM2⟩
set_option maxRecDepth 100000 in
set_option maxHeartbeats 1000000 in
theorem tofwd_s {w : World} {bO bY : Nat} {lo ly : Int} {wo wy : List Int} {gO gY : Option Nat} (hm : MemAt w bO bY lo ly wo wy gO gY) (a t : Int) (he : isE (fun k => k != 4) wo wy a = 0) (hr : RE wo wy t = 0) (hs : RA wo wy t = a) :
    Calls Try.prog 18 #[.agg #[.pointer (some ⟨bO, 0, none⟩), .pointer (some ⟨bY, 0, none⟩)], .int .i64 a, .int .i64 t] w fun e w' => e = .returned (.int .i64 1) ∧ MemAt w' bO bY lo ly (wo) (wy) gO gY ∧ Mods (MS bO bY gO gY) w w' := by
  have hH := fun (W : World) (H : MemAt W bO bY lo ly wo wy gO gY) => is_nofw H a
  have hR := fun (W : World) (H : MemAt W bO bY lo ly wo wy gO gY) => mresolve_any H t
  rw [he] at hH
  rw [hr, hs] at hR
  clear he hr hs
  have hM0 : Mods (MS bO bY gO gY) w w := Mods.refl _ _
  have hm0 := hm
  have hn0 := hm.fresh
  go_enter Try.func18, Try.ntmps18
  go_wp2_with fail
  refine (hH _ (hm0.below (by (repeat (first | exact Below.refl _ _ | assumption | refine Below.drew ?_ | refine below_drewN ?_ _ | refine balloc ?_ _ | refine Below.setCell ?_ (by first | (simp; done) | (simp; omega) | omega) _ | refine bchain (by assumption) ?_))))).mono ?_
  rintro e w1 ⟨rfl, hb1⟩
  have hB1 : Below w.heap.size w w1 := by (repeat (first | exact Below.refl _ _ | assumption | refine Below.drew ?_ | refine below_drewN ?_ _ | refine balloc ?_ _ | refine Below.setCell ?_ (by first | (simp; done) | (simp; omega) | omega) _ | refine bchain (by assumption) ?_))
  have k0 : w1.heap[w.heap.size]? = some (.cells #[.pointer (some ⟨bO, 0, none⟩), .pointer (some ⟨bY, 0, none⟩)] 29 (0, 0)) := bblock hb1 (by repeat (first | exact alloc_at _ (by simp) | refine alloc_lt _ ?_))
  have hM1 := Mods.chain hB1 hM0
  have hm1 := hm0.below hB1
  have hs1 : w.heap.size ≤ w1.heap.size := hM1.size
  have hz_k0 : w.heap.size < w1.heap.size := (Array.getElem?_eq_some_iff.1 k0).1
  clear hB1 hm0 hM0 hb1
  have k0_0 : w1.cell? ⟨w.heap.size, 0, none⟩ = some (.pointer (some ⟨bO, 0, none⟩)) := by rw [cell_of_block k0]; rfl
  have k0_1 : w1.cell? ⟨w.heap.size, 1, none⟩ = some (.pointer (some ⟨bY, 0, none⟩)) := by rw [cell_of_block k0]; rfl
  go_wp2_with fail
  refine (hR _ (hm1.below (by (repeat (first | exact Below.refl _ _ | assumption | refine Below.drew ?_ | refine below_drewN ?_ _ | refine balloc ?_ _ | refine Below.setCell ?_ (by first | (simp; done) | (simp; omega) | omega) _ | refine bchain (by assumption) ?_))))).mono ?_
  rintro e w2 ⟨rfl, hb2⟩
  have hB2 : Below w1.heap.size w1 w2 := by (repeat (first | exact Below.refl _ _ | assumption | refine Below.drew ?_ | refine below_drewN ?_ _ | refine balloc ?_ _ | refine Below.setCell ?_ (by first | (simp; done) | (simp; omega) | omega) _ | refine bchain (by assumption) ?_))
  have k0 := bblock hB2 k0
  have hM2 := Mods.chain hB2 hM1
  have hm2 := hm1.below hB2
  have hs2 : w.heap.size ≤ w2.heap.size := hM2.size
  clear hz_k0
  have hz_k0 : w.heap.size < w2.heap.size := (Array.getElem?_eq_some_iff.1 k0).1
  clear hB2 hm1 hM1 hb2
  clear k0_0 k0_1
  have k0_0 : w2.cell? ⟨w.heap.size, 0, none⟩ = some (.pointer (some ⟨bO, 0, none⟩)) := by rw [cell_of_block k0]; rfl
  have k0_1 : w2.cell? ⟨w.heap.size, 1, none⟩ = some (.pointer (some ⟨bY, 0, none⟩)) := by rw [cell_of_block k0]; rfl
  go_wp2
  go_ret
  exact ⟨rfl, hm2.below (by (repeat (first | exact Below.refl _ _ | assumption | refine Below.drew ?_ | refine below_drewN ?_ _ | refine balloc ?_ _ | refine Below.setCell ?_ (by first | (simp; done) | (simp; omega) | omega) _ | refine bchain (by assumption) ?_))), Mods.chain (show Below w2.heap.size w2 _ from by (repeat (first | exact Below.refl _ _ | assumption | refine Below.drew ?_ | refine below_drewN ?_ _ | refine balloc ?_ _ | refine Below.setCell ?_ (by first | (simp; done) | (simp; omega) | omega) _ | refine bchain (by assumption) ?_))) hM2⟩
set_option maxRecDepth 100000 in
set_option maxHeartbeats 1000000 in
theorem tofwd_y {w : World} {bO bY : Nat} {lo ly : Int} {wo wy : List Int} {gO gY : Option Nat} (hm : MemAt w bO bY lo ly wo wy gO gY) (a t : Int) (he : isE (fun k => k != 4) wo wy a = 0) (hr : RE wo wy t = 0) (hs : RA wo wy t ≠ a) :
    Calls Try.prog 18 #[.agg #[.pointer (some ⟨bO, 0, none⟩), .pointer (some ⟨bY, 0, none⟩)], .int .i64 a, .int .i64 t] w fun e w' => e = .returned (.int .i64 0) ∧ MemAt w' bO bY lo ly ((wrM wo wy a 4 [faW t]).1) ((wrM wo wy a 4 [faW t]).2) gO gY ∧ Mods (MS bO bY gO gY) w w' := by
  have hH := fun (W : World) (H : MemAt W bO bY lo ly wo wy gO gY) => is_nofw H a
  have hR := fun (W : World) (H : MemAt W bO bY lo ly wo wy gO gY) => mresolve_any H t
  rw [he] at hH
  rw [hr] at hR
  have hF := fun W => fromaddr_any t W
  have hpu : ∀ x ∈ [faW t], U64 x := by
    intro x hx
    rw [List.mem_singleton.1 hx]
    exact faU t
  have hWr := fun (W : World) (H : MemAt W bO bY lo ly wo wy gO gY) => write_any (H.below (balloc (Below.refl _ W) (.cells #[.int .u64 (faW t)] 56))) a 4 (.inr rfl) W.heap.size 1 [faW t] (fun i x hx => by rw [cell_of_block (alloc_get _ _)]; rcases i with _ | i <;> simp at hx ⊢ <;> exact hx) hpu (H.fresh _ (Nat.le_refl _)) (by simp) (by omega) (isE_zero he).1
  have hb2 : (RA wo wy t == a) = false := by simpa using hs
  generalize (wrM wo wy a 4 [faW t]).1 = wo2 at *
  generalize (wrM wo wy a 4 [faW t]).2 = wy2 at *
  generalize RA wo wy t = ra at *
  generalize faW t = fw at *
  generalize faE t = fe at *
  clear he hr hs hpu
  have hM0 : Mods (MS bO bY gO gY) w w := Mods.refl _ _
  have hm0 := hm
  have hn0 := hm.fresh
  go_enter Try.func18, Try.ntmps18
  go_wp2_with fail
  refine (hH _ (hm0.below (by (repeat (first | exact Below.refl _ _ | assumption | refine Below.drew ?_ | refine below_drewN ?_ _ | refine balloc ?_ _ | refine Below.setCell ?_ (by first | (simp; done) | (simp; omega) | omega) _ | refine bchain (by assumption) ?_))))).mono ?_
  rintro e w1 ⟨rfl, hb1⟩
  have hB1 : Below w.heap.size w w1 := by (repeat (first | exact Below.refl _ _ | assumption | refine Below.drew ?_ | refine below_drewN ?_ _ | refine balloc ?_ _ | refine Below.setCell ?_ (by first | (simp; done) | (simp; omega) | omega) _ | refine bchain (by assumption) ?_))
  have k0 : w1.heap[w.heap.size]? = some (.cells #[.pointer (some ⟨bO, 0, none⟩), .pointer (some ⟨bY, 0, none⟩)] 29 (0, 0)) := bblock hb1 (by repeat (first | exact alloc_at _ (by simp) | refine alloc_lt _ ?_))
  have hM1 := Mods.chain hB1 hM0
  have hm1 := hm0.below hB1
  have hs1 : w.heap.size ≤ w1.heap.size := hM1.size
  have hz_k0 : w.heap.size < w1.heap.size := (Array.getElem?_eq_some_iff.1 k0).1
  clear hB1 hm0 hM0 hb1
  have k0_0 : w1.cell? ⟨w.heap.size, 0, none⟩ = some (.pointer (some ⟨bO, 0, none⟩)) := by rw [cell_of_block k0]; rfl
  have k0_1 : w1.cell? ⟨w.heap.size, 1, none⟩ = some (.pointer (some ⟨bY, 0, none⟩)) := by rw [cell_of_block k0]; rfl
  go_wp2_with fail
  refine (hR _ (hm1.below (by (repeat (first | exact Below.refl _ _ | assumption | refine Below.drew ?_ | refine below_drewN ?_ _ | refine balloc ?_ _ | refine Below.setCell ?_ (by first | (simp; done) | (simp; omega) | omega) _ | refine bchain (by assumption) ?_))))).mono ?_
  rintro e w2 ⟨rfl, hb2⟩
  have hB2 : Below w1.heap.size w1 w2 := by (repeat (first | exact Below.refl _ _ | assumption | refine Below.drew ?_ | refine below_drewN ?_ _ | refine balloc ?_ _ | refine Below.setCell ?_ (by first | (simp; done) | (simp; omega) | omega) _ | refine bchain (by assumption) ?_))
  have k0 := bblock hB2 k0
  have hM2 := Mods.chain hB2 hM1
  have hm2 := hm1.below hB2
  have hs2 : w.heap.size ≤ w2.heap.size := hM2.size
  clear hz_k0
  have hz_k0 : w.heap.size < w2.heap.size := (Array.getElem?_eq_some_iff.1 k0).1
  clear hB2 hm1 hM1 hb2
  clear k0_0 k0_1
  have k0_0 : w2.cell? ⟨w.heap.size, 0, none⟩ = some (.pointer (some ⟨bO, 0, none⟩)) := by rw [cell_of_block k0]; rfl
  have k0_1 : w2.cell? ⟨w.heap.size, 1, none⟩ = some (.pointer (some ⟨bY, 0, none⟩)) := by rw [cell_of_block k0]; rfl
  go_wp2_with fail
  refine (hF _).mono ?_
  rintro e w3 ⟨rfl, hb3⟩
  have hB3 : Below w2.heap.size w2 w3 := by (repeat (first | exact Below.refl _ _ | assumption | refine Below.drew ?_ | refine below_drewN ?_ _ | refine balloc ?_ _ | refine Below.setCell ?_ (by first | (simp; done) | (simp; omega) | omega) _ | refine bchain (by assumption) ?_))
  have k0 := bblock hB3 k0
  have hM3 := Mods.chain hB3 hM2
  have hm3 := hm2.below hB3
  have hs3 : w.heap.size ≤ w3.heap.size := hM3.size
  clear hz_k0
  have hz_k0 : w.heap.size < w3.heap.size := (Array.getElem?_eq_some_iff.1 k0).1
  clear hB3 hm2 hM2 hb3
  clear k0_0 k0_1
  have k0_0 : w3.cell? ⟨w.heap.size, 0, none⟩ = some (.pointer (some ⟨bO, 0, none⟩)) := by rw [cell_of_block k0]; rfl
  have k0_1 : w3.cell? ⟨w.heap.size, 1, none⟩ = some (.pointer (some ⟨bY, 0, none⟩)) := by rw [cell_of_block k0]; rfl
  go_wp2_with fail
  refine (hWr _ hm3).mono ?_
  rintro e w9 ⟨rfl, hm9, hX9⟩
  have hM9 := (hM3.alloc (.cells #[.int .u64 fw] 56)).trans hX9 (fun i hi => .inl hi)
  go_wp2
  go_ret
  exact ⟨rfl, hm9, hM9⟩
theorem tofwd_any {w : World} {bO bY : Nat} {lo ly : Int} {wo wy : List Int} {gO gY : Option Nat} (hm : MemAt w bO bY lo ly wo wy gO gY) (a t : Int) : Calls Try.prog 18 #[.agg #[.pointer (some ⟨bO, 0, none⟩), .pointer (some ⟨bY, 0, none⟩)], .int .i64 a, .int .i64 t] w fun e w' => e = .returned (.int .i64 (tfE wo wy a t)) ∧ MemAt w' bO bY lo ly (tfM wo wy a t).1 (tfM wo wy a t).2 gO gY ∧ Mods (MS bO bY gO gY) w w' := by
  by_cases he : isE (fun k => k != 4) wo wy a = 0
  · by_cases hb : RE wo wy t ≠ 0 ∨ RA wo wy t = a
    · have e : tfE wo wy a t = 1 := by unfold tfE tfB; rw [if_neg (by simpa using he), if_pos (by simpa using hb)]
      unfold tfM
      rw [e, if_neg (by decide)]
      by_cases hr : RE wo wy t = 0
      · exact tofwd_s hm a t he hr (hb.resolve_left (by simpa using hr))
      · exact tofwd_r hm a t he hr
    · have e : tfE wo wy a t = 0 := by unfold tfE tfB; rw [if_neg (by simpa using he), if_neg (by simpa using hb)]
      unfold tfM
      rw [e, if_pos rfl]
      have hb' : RE wo wy t = 0 ∧ RA wo wy t ≠ a := by
        constructor
        · by_cases h : RE wo wy t = 0
          · exact h
          · exact absurd (.inl h) hb
        · exact fun h => hb (.inr h)
      exact tofwd_y hm a t he hb'.1 hb'.2
  · have e : tfE wo wy a t = isE (fun k => k != 4) wo wy a := by unfold tfE; rw [if_pos he]
    unfold tfM
    rw [e, if_neg he]
    exact tofwd_e hm a t he
end Go.Proofs.Ytcmhgjkijegpnaa
