/-
  object.is, ToStub, Stub, Reroute.
-/
import Derived.Test.YtcmhgjkijegpnaaGD
import Derived.Maps.Views
import Derived.Maps.OwnOps
import Derived.Deep.LoopGhost
namespace Go.Proofs.Ytcmhgjkijegpnaa
open Go.RowKit
set_option linter.unusedSimpArgs false
set_option linter.unusedVariables false

def isE (p : Int → Bool) (wo wy : List Int) (a : Int) : Int := if HE wo wy a ≠ 0 then HE wo wy a else if p (HK wo wy a) then 0 else 7
set_option maxRecDepth 100000 in
set_option maxHeartbeats 1000000 in
theorem is_stub_e {w : World} {bO bY : Nat} {lo ly : Int} {wo wy : List Int} {gO gY : Option Nat} (hm : MemAt w bO bY lo ly wo wy gO gY) (a : Int) (he : HE wo wy a ≠ 0) :
    Calls Try.prog 52 #[.agg #[.pointer (some ⟨bO, 0, none⟩), .pointer (some ⟨bY, 0, none⟩)], .int .i64 a, .func (.func 71) #[] #[]] w fun e w' => e = .returned (.int .i64 (HE wo wy a)) ∧ Below w.heap.size w w' := by
  have hH := fun W (h : Below w.heap.size w W) => mhdr_any (hm.below h) a
  generalize HK wo wy a = hk at *
  generalize HC wo wy a = hc at *
  generalize HF wo wy a = hf at *
  generalize HE wo wy a = er at *
  have hb1 : (er == 0) = false := by simpa using he
  clear hm he
  have hw0 : Below w.heap.size w w := Below.refl _ _
  go_enter Try.func52, Try.ntmps52
  go_wp2_with fail
  refine (hH _ (by (repeat (first | exact Below.refl _ _ | assumption | refine Below.drew ?_ | refine below_drewN ?_ _ | refine balloc ?_ _ | refine Below.setCell ?_ (by first | (simp; done) | (simp; omega) | omega) _ | refine bchain (by assumption) ?_)))).mono ?_
  rintro e w1 ⟨rfl, hb1⟩
  have hB1 : Below w.heap.size w w1 := by (repeat (first | exact Below.refl _ _ | assumption | refine Below.drew ?_ | refine below_drewN ?_ _ | refine balloc ?_ _ | refine Below.setCell ?_ (by first | (simp; done) | (simp; omega) | omega) _ | refine bchain (by assumption) ?_))
  have k0 : w1.heap[w.heap.size]? = some (.cells #[.pointer (some ⟨bO, 0, none⟩), .pointer (some ⟨bY, 0, none⟩)] 29 (0, 0)) := bblock hb1 (by repeat (first | exact alloc_at _ (by simp) | refine alloc_lt _ ?_))
  have hw1 := bchain hB1 hw0
  have hz_k0 : w.heap.size < w1.heap.size := (Array.getElem?_eq_some_iff.1 k0).1
  clear hB1
  have k0_0 : w1.cell? ⟨w.heap.size, 0, none⟩ = some (.pointer (some ⟨bO, 0, none⟩)) := by rw [cell_of_block k0]; rfl
  have k0_1 : w1.cell? ⟨w.heap.size, 1, none⟩ = some (.pointer (some ⟨bY, 0, none⟩)) := by rw [cell_of_block k0]; rfl
  go_wp2
  go_ret
  exact ⟨rfl, by (repeat (first | exact Below.refl _ _ | assumption | refine Below.drew ?_ | refine below_drewN ?_ _ | refine balloc ?_ _ | refine Below.setCell ?_ (by first | (simp; done) | (simp; omega) | omega) _ | refine bchain (by assumption) ?_))⟩
set_option maxRecDepth 100000 in
set_option maxHeartbeats 1000000 in
theorem is_stub_true {w : World} {bO bY : Nat} {lo ly : Int} {wo wy : List Int} {gO gY : Option Nat} (hm : MemAt w bO bY lo ly wo wy gO gY) (a : Int) (he : HE wo wy a = 0) (hp : (fun k => k == 3) (HK wo wy a) = true) :
    Calls Try.prog 52 #[.agg #[.pointer (some ⟨bO, 0, none⟩), .pointer (some ⟨bY, 0, none⟩)], .int .i64 a, .func (.func 71) #[] #[]] w fun e w' => e = .returned (.int .i64 0) ∧ Below w.heap.size w w' := by
  have hH := fun W (h : Below w.heap.size w W) => mhdr_any (hm.below h) a
  have hS := fun W => stub_any (HK wo wy a) (HC wo wy a) (HF wo wy a) W
  simp only at hp
  rw [hp] at hS
  rw [he] at hH
  generalize HK wo wy a = hk at *
  generalize HC wo wy a = hc at *
  generalize HF wo wy a = hf at *
  clear hm he hp
  have hw0 : Below w.heap.size w w := Below.refl _ _
  go_enter Try.func52, Try.ntmps52
  go_wp2_with fail
  refine (hH _ (by (repeat (first | exact Below.refl _ _ | assumption | refine Below.drew ?_ | refine below_drewN ?_ _ | refine balloc ?_ _ | refine Below.setCell ?_ (by first | (simp; done) | (simp; omega) | omega) _ | refine bchain (by assumption) ?_)))).mono ?_
  rintro e w1 ⟨rfl, hb1⟩
  have hB1 : Below w.heap.size w w1 := by (repeat (first | exact Below.refl _ _ | assumption | refine Below.drew ?_ | refine below_drewN ?_ _ | refine balloc ?_ _ | refine Below.setCell ?_ (by first | (simp; done) | (simp; omega) | omega) _ | refine bchain (by assumption) ?_))
  have k0 : w1.heap[w.heap.size]? = some (.cells #[.pointer (some ⟨bO, 0, none⟩), .pointer (some ⟨bY, 0, none⟩)] 29 (0, 0)) := bblock hb1 (by repeat (first | exact alloc_at _ (by simp) | refine alloc_lt _ ?_))
  have hw1 := bchain hB1 hw0
  have hz_k0 : w.heap.size < w1.heap.size := (Array.getElem?_eq_some_iff.1 k0).1
  clear hB1
  have k0_0 : w1.cell? ⟨w.heap.size, 0, none⟩ = some (.pointer (some ⟨bO, 0, none⟩)) := by rw [cell_of_block k0]; rfl
  have k0_1 : w1.cell? ⟨w.heap.size, 1, none⟩ = some (.pointer (some ⟨bY, 0, none⟩)) := by rw [cell_of_block k0]; rfl
  go_wp2_with fail
  refine (hS _).mono ?_
  rintro e w2 ⟨rfl, hb2⟩
  have hB2 : Below w1.heap.size w1 w2 := by (repeat (first | exact Below.refl _ _ | assumption | refine Below.drew ?_ | refine below_drewN ?_ _ | refine balloc ?_ _ | refine Below.setCell ?_ (by first | (simp; done) | (simp; omega) | omega) _ | refine bchain (by assumption) ?_))
  have k0 := bblock hB2 k0
  have t : w2.heap[w1.heap.size]? = some (.cells #[.int .i64 hk, .int .i64 hc, .int .i64 hf] 23 (0, 0)) := bblock hb2 (by repeat (first | exact alloc_at _ (by simp) | refine alloc_lt _ ?_))
  have hw2 := bchain hB2 hw1
  clear hz_k0
  have hz_k0 : w.heap.size < w2.heap.size := (Array.getElem?_eq_some_iff.1 k0).1
  have hz_t : w1.heap.size < w2.heap.size := (Array.getElem?_eq_some_iff.1 t).1
  clear hB2
  clear k0_0 k0_1
  have k0_0 : w2.cell? ⟨w.heap.size, 0, none⟩ = some (.pointer (some ⟨bO, 0, none⟩)) := by rw [cell_of_block k0]; rfl
  have k0_1 : w2.cell? ⟨w.heap.size, 1, none⟩ = some (.pointer (some ⟨bY, 0, none⟩)) := by rw [cell_of_block k0]; rfl
  have t_0 : w2.cell? ⟨w1.heap.size, 0, none⟩ = some (.int .i64 hk) := by rw [cell_of_block t]; rfl
  have t_1 : w2.cell? ⟨w1.heap.size, 1, none⟩ = some (.int .i64 hc) := by rw [cell_of_block t]; rfl
  have t_2 : w2.cell? ⟨w1.heap.size, 2, none⟩ = some (.int .i64 hf) := by rw [cell_of_block t]; rfl
  go_wp2
  go_ret
  exact ⟨rfl, by (repeat (first | exact Below.refl _ _ | assumption | refine Below.drew ?_ | refine below_drewN ?_ _ | refine balloc ?_ _ | refine Below.setCell ?_ (by first | (simp; done) | (simp; omega) | omega) _ | refine bchain (by assumption) ?_))⟩
set_option maxRecDepth 100000 in
set_option maxHeartbeats 1000000 in
theorem is_stub_false {w : World} {bO bY : Nat} {lo ly : Int} {wo wy : List Int} {gO gY : Option Nat} (hm : MemAt w bO bY lo ly wo wy gO gY) (a : Int) (he : HE wo wy a = 0) (hp : (fun k => k == 3) (HK wo wy a) = false) :
    Calls Try.prog 52 #[.agg #[.pointer (some ⟨bO, 0, none⟩), .pointer (some ⟨bY, 0, none⟩)], .int .i64 a, .func (.func 71) #[] #[]] w fun e w' => e = .returned (.int .i64 7) ∧ Below w.heap.size w w' := by
  have hH := fun W (h : Below w.heap.size w W) => mhdr_any (hm.below h) a
  have hS := fun W => stub_any (HK wo wy a) (HC wo wy a) (HF wo wy a) W
  simp only at hp
  rw [hp] at hS
  rw [he] at hH
  generalize HK wo wy a = hk at *
  generalize HC wo wy a = hc at *
  generalize HF wo wy a = hf at *
  clear hm he hp
  have hw0 : Below w.heap.size w w := Below.refl _ _
  go_enter Try.func52, Try.ntmps52
  go_wp2_with fail
  refine (hH _ (by (repeat (first | exact Below.refl _ _ | assumption | refine Below.drew ?_ | refine below_drewN ?_ _ | refine balloc ?_ _ | refine Below.setCell ?_ (by first | (simp; done) | (simp; omega) | omega) _ | refine bchain (by assumption) ?_)))).mono ?_
  rintro e w1 ⟨rfl, hb1⟩
  have hB1 : Below w.heap.size w w1 := by (repeat (first | exact Below.refl _ _ | assumption | refine Below.drew ?_ | refine below_drewN ?_ _ | refine balloc ?_ _ | refine Below.setCell ?_ (by first | (simp; done) | (simp; omega) | omega) _ | refine bchain (by assumption) ?_))
  have k0 : w1.heap[w.heap.size]? = some (.cells #[.pointer (some ⟨bO, 0, none⟩), .pointer (some ⟨bY, 0, none⟩)] 29 (0, 0)) := bblock hb1 (by repeat (first | exact alloc_at _ (by simp) | refine alloc_lt _ ?_))
  have hw1 := bchain hB1 hw0
  have hz_k0 : w.heap.size < w1.heap.size := (Array.getElem?_eq_some_iff.1 k0).1
  clear hB1
  have k0_0 : w1.cell? ⟨w.heap.size, 0, none⟩ = some (.pointer (some ⟨bO, 0, none⟩)) := by rw [cell_of_block k0]; rfl
  have k0_1 : w1.cell? ⟨w.heap.size, 1, none⟩ = some (.pointer (some ⟨bY, 0, none⟩)) := by rw [cell_of_block k0]; rfl
  go_wp2_with fail
  refine (hS _).mono ?_
  rintro e w2 ⟨rfl, hb2⟩
  have hB2 : Below w1.heap.size w1 w2 := by (repeat (first | exact Below.refl _ _ | assumption | refine Below.drew ?_ | refine below_drewN ?_ _ | refine balloc ?_ _ | refine Below.setCell ?_ (by first | (simp; done) | (simp; omega) | omega) _ | refine bchain (by assumption) ?_))
  have k0 := bblock hB2 k0
  have t : w2.heap[w1.heap.size]? = some (.cells #[.int .i64 hk, .int .i64 hc, .int .i64 hf] 23 (0, 0)) := bblock hb2 (by repeat (first | exact alloc_at _ (by simp) | refine alloc_lt _ ?_))
  have hw2 := bchain hB2 hw1
  clear hz_k0
  have hz_k0 : w.heap.size < w2.heap.size := (Array.getElem?_eq_some_iff.1 k0).1
  have hz_t : w1.heap.size < w2.heap.size := (Array.getElem?_eq_some_iff.1 t).1
  clear hB2
  clear k0_0 k0_1
  have k0_0 : w2.cell? ⟨w.heap.size, 0, none⟩ = some (.pointer (some ⟨bO, 0, none⟩)) := by rw [cell_of_block k0]; rfl
  have k0_1 : w2.cell? ⟨w.heap.size, 1, none⟩ = some (.pointer (some ⟨bY, 0, none⟩)) := by rw [cell_of_block k0]; rfl
  have t_0 : w2.cell? ⟨w1.heap.size, 0, none⟩ = some (.int .i64 hk) := by rw [cell_of_block t]; rfl
  have t_1 : w2.cell? ⟨w1.heap.size, 1, none⟩ = some (.int .i64 hc) := by rw [cell_of_block t]; rfl
  have t_2 : w2.cell? ⟨w1.heap.size, 2, none⟩ = some (.int .i64 hf) := by rw [cell_of_block t]; rfl
  go_wp2
  go_ret
  exact ⟨rfl, by (repeat (first | exact Below.refl _ _ | assumption | refine Below.drew ?_ | refine below_drewN ?_ _ | refine balloc ?_ _ | refine Below.setCell ?_ (by first | (simp; done) | (simp; omega) | omega) _ | refine bchain (by assumption) ?_))⟩
theorem is_stub {w : World} {bO bY : Nat} {lo ly : Int} {wo wy : List Int} {gO gY : Option Nat} (hm : MemAt w bO bY lo ly wo wy gO gY) (a : Int) : Calls Try.prog 52 #[.agg #[.pointer (some ⟨bO, 0, none⟩), .pointer (some ⟨bY, 0, none⟩)], .int .i64 a, .func (.func 71) #[] #[]] w fun e w' => e = .returned (.int .i64 (isE (fun k => k == 3) wo wy a)) ∧ Below w.heap.size w w' := by
  unfold isE
  by_cases he : HE wo wy a = 0
  · rw [if_neg (by simpa using he)]
    cases hp : (fun k => k == 3) (HK wo wy a)
    · exact is_stub_false hm a he hp
    · exact is_stub_true hm a he hp
  · rw [if_pos he]
    exact is_stub_e hm a he
set_option maxRecDepth 100000 in
set_option maxHeartbeats 1000000 in
theorem is_unst_e {w : World} {bO bY : Nat} {lo ly : Int} {wo wy : List Int} {gO gY : Option Nat} (hm : MemAt w bO bY lo ly wo wy gO gY) (a : Int) (he : HE wo wy a ≠ 0) :
    Calls Try.prog 52 #[.agg #[.pointer (some ⟨bO, 0, none⟩), .pointer (some ⟨bY, 0, none⟩)], .int .i64 a, .func (.func 73) #[] #[]] w fun e w' => e = .returned (.int .i64 (HE wo wy a)) ∧ Below w.heap.size w w' := by
  have hH := fun W (h : Below w.heap.size w W) => mhdr_any (hm.below h) a
  generalize HK wo wy a = hk at *
  generalize HC wo wy a = hc at *
  generalize HF wo wy a = hf at *
  generalize HE wo wy a = er at *
  have hb1 : (er == 0) = false := by simpa using he
  clear hm he
  have hw0 : Below w.heap.size w w := Below.refl _ _
  go_enter Try.func52, Try.ntmps52
  go_wp2_with fail
  refine (hH _ (by (repeat (first | exact Below.refl _ _ | assumption | refine Below.drew ?_ | refine below_drewN ?_ _ | refine balloc ?_ _ | refine Below.setCell ?_ (by first | (simp; done) | (simp; omega) | omega) _ | refine bchain (by assumption) ?_)))).mono ?_
  rintro e w1 ⟨rfl, hb1⟩
  have hB1 : Below w.heap.size w w1 := by (repeat (first | exact Below.refl _ _ | assumption | refine Below.drew ?_ | refine below_drewN ?_ _ | refine balloc ?_ _ | refine Below.setCell ?_ (by first | (simp; done) | (simp; omega) | omega) _ | refine bchain (by assumption) ?_))
  have k0 : w1.heap[w.heap.size]? = some (.cells #[.pointer (some ⟨bO, 0, none⟩), .pointer (some ⟨bY, 0, none⟩)] 29 (0, 0)) := bblock hb1 (by repeat (first | exact alloc_at _ (by simp) | refine alloc_lt _ ?_))
  have hw1 := bchain hB1 hw0
  have hz_k0 : w.heap.size < w1.heap.size := (Array.getElem?_eq_some_iff.1 k0).1
  clear hB1
  have k0_0 : w1.cell? ⟨w.heap.size, 0, none⟩ = some (.pointer (some ⟨bO, 0, none⟩)) := by rw [cell_of_block k0]; rfl
  have k0_1 : w1.cell? ⟨w.heap.size, 1, none⟩ = some (.pointer (some ⟨bY, 0, none⟩)) := by rw [cell_of_block k0]; rfl
  go_wp2
  go_ret
  exact ⟨rfl, by (repeat (first | exact Below.refl _ _ | assumption | refine Below.drew ?_ | refine below_drewN ?_ _ | refine balloc ?_ _ | refine Below.setCell ?_ (by first | (simp; done) | (simp; omega) | omega) _ | refine bchain (by assumption) ?_))⟩
set_option maxRecDepth 100000 in
set_option maxHeartbeats 1000000 in
theorem is_unst_true {w : World} {bO bY : Nat} {lo ly : Int} {wo wy : List Int} {gO gY : Option Nat} (hm : MemAt w bO bY lo ly wo wy gO gY) (a : Int) (he : HE wo wy a = 0) (hp : (fun k => !stB k) (HK wo wy a) = true) :
    Calls Try.prog 52 #[.agg #[.pointer (some ⟨bO, 0, none⟩), .pointer (some ⟨bY, 0, none⟩)], .int .i64 a, .func (.func 73) #[] #[]] w fun e w' => e = .returned (.int .i64 0) ∧ Below w.heap.size w w' := by
  have hH := fun W (h : Below w.heap.size w W) => mhdr_any (hm.below h) a
  have hS := fun W => unstood_any (HK wo wy a) (HC wo wy a) (HF wo wy a) W
  simp only at hp
  rw [hp] at hS
  rw [he] at hH
  generalize HK wo wy a = hk at *
  generalize HC wo wy a = hc at *
  generalize HF wo wy a = hf at *
  clear hm he hp
  have hw0 : Below w.heap.size w w := Below.refl _ _
  go_enter Try.func52, Try.ntmps52
  go_wp2_with fail
  refine (hH _ (by (repeat (first | exact Below.refl _ _ | assumption | refine Below.drew ?_ | refine below_drewN ?_ _ | refine balloc ?_ _ | refine Below.setCell ?_ (by first | (simp; done) | (simp; omega) | omega) _ | refine bchain (by assumption) ?_)))).mono ?_
  rintro e w1 ⟨rfl, hb1⟩
  have hB1 : Below w.heap.size w w1 := by (repeat (first | exact Below.refl _ _ | assumption | refine Below.drew ?_ | refine below_drewN ?_ _ | refine balloc ?_ _ | refine Below.setCell ?_ (by first | (simp; done) | (simp; omega) | omega) _ | refine bchain (by assumption) ?_))
  have k0 : w1.heap[w.heap.size]? = some (.cells #[.pointer (some ⟨bO, 0, none⟩), .pointer (some ⟨bY, 0, none⟩)] 29 (0, 0)) := bblock hb1 (by repeat (first | exact alloc_at _ (by simp) | refine alloc_lt _ ?_))
  have hw1 := bchain hB1 hw0
  have hz_k0 : w.heap.size < w1.heap.size := (Array.getElem?_eq_some_iff.1 k0).1
  clear hB1
  have k0_0 : w1.cell? ⟨w.heap.size, 0, none⟩ = some (.pointer (some ⟨bO, 0, none⟩)) := by rw [cell_of_block k0]; rfl
  have k0_1 : w1.cell? ⟨w.heap.size, 1, none⟩ = some (.pointer (some ⟨bY, 0, none⟩)) := by rw [cell_of_block k0]; rfl
  go_wp2_with fail
  refine (hS _).mono ?_
  rintro e w2 ⟨rfl, hb2⟩
  have hB2 : Below w1.heap.size w1 w2 := by (repeat (first | exact Below.refl _ _ | assumption | refine Below.drew ?_ | refine below_drewN ?_ _ | refine balloc ?_ _ | refine Below.setCell ?_ (by first | (simp; done) | (simp; omega) | omega) _ | refine bchain (by assumption) ?_))
  have k0 := bblock hB2 k0
  have t : w2.heap[w1.heap.size]? = some (.cells #[.int .i64 hk, .int .i64 hc, .int .i64 hf] 23 (0, 0)) := bblock hb2 (by repeat (first | exact alloc_at _ (by simp) | refine alloc_lt _ ?_))
  have hw2 := bchain hB2 hw1
  clear hz_k0
  have hz_k0 : w.heap.size < w2.heap.size := (Array.getElem?_eq_some_iff.1 k0).1
  have hz_t : w1.heap.size < w2.heap.size := (Array.getElem?_eq_some_iff.1 t).1
  clear hB2
  clear k0_0 k0_1
  have k0_0 : w2.cell? ⟨w.heap.size, 0, none⟩ = some (.pointer (some ⟨bO, 0, none⟩)) := by rw [cell_of_block k0]; rfl
  have k0_1 : w2.cell? ⟨w.heap.size, 1, none⟩ = some (.pointer (some ⟨bY, 0, none⟩)) := by rw [cell_of_block k0]; rfl
  have t_0 : w2.cell? ⟨w1.heap.size, 0, none⟩ = some (.int .i64 hk) := by rw [cell_of_block t]; rfl
  have t_1 : w2.cell? ⟨w1.heap.size, 1, none⟩ = some (.int .i64 hc) := by rw [cell_of_block t]; rfl
  have t_2 : w2.cell? ⟨w1.heap.size, 2, none⟩ = some (.int .i64 hf) := by rw [cell_of_block t]; rfl
  go_wp2
  go_ret
  exact ⟨rfl, by (repeat (first | exact Below.refl _ _ | assumption | refine Below.drew ?_ | refine below_drewN ?_ _ | refine balloc ?_ _ | refine Below.setCell ?_ (by first | (simp; done) | (simp; omega) | omega) _ | refine bchain (by assumption) ?_))⟩
set_option maxRecDepth 100000 in
set_option maxHeartbeats 1000000 in
theorem is_unst_false {w : World} {bO bY : Nat} {lo ly : Int} {wo wy : List Int} {gO gY : Option Nat} (hm : MemAt w bO bY lo ly wo wy gO gY) (a : Int) (he : HE wo wy a = 0) (hp : (fun k => !stB k) (HK wo wy a) = false) :
    Calls Try.prog 52 #[.agg #[.pointer (some ⟨bO, 0, none⟩), .pointer (some ⟨bY, 0, none⟩)], .int .i64 a, .func (.func 73) #[] #[]] w fun e w' => e = .returned (.int .i64 7) ∧ Below w.heap.size w w' := by
  have hH := fun W (h : Below w.heap.size w W) => mhdr_any (hm.below h) a
  have hS := fun W => unstood_any (HK wo wy a) (HC wo wy a) (HF wo wy a) W
  simp only at hp
  rw [hp] at hS
  rw [he] at hH
  generalize HK wo wy a = hk at *
  generalize HC wo wy a = hc at *
  generalize HF wo wy a = hf at *
  clear hm he hp
  have hw0 : Below w.heap.size w w := Below.refl _ _
  go_enter Try.func52, Try.ntmps52
  go_wp2_with fail
  refine (hH _ (by (repeat (first | exact Below.refl _ _ | assumption | refine Below.drew ?_ | refine below_drewN ?_ _ | refine balloc ?_ _ | refine Below.setCell ?_ (by first | (simp; done) | (simp; omega) | omega) _ | refine bchain (by assumption) ?_)))).mono ?_
  rintro e w1 ⟨rfl, hb1⟩
  have hB1 : Below w.heap.size w w1 := by (repeat (first | exact Below.refl _ _ | assumption | refine Below.drew ?_ | refine below_drewN ?_ _ | refine balloc ?_ _ | refine Below.setCell ?_ (by first | (simp; done) | (simp; omega) | omega) _ | refine bchain (by assumption) ?_))
  have k0 : w1.heap[w.heap.size]? = some (.cells #[.pointer (some ⟨bO, 0, none⟩), .pointer (some ⟨bY, 0, none⟩)] 29 (0, 0)) := bblock hb1 (by repeat (first | exact alloc_at _ (by simp) | refine alloc_lt _ ?_))
  have hw1 := bchain hB1 hw0
  have hz_k0 : w.heap.size < w1.heap.size := (Array.getElem?_eq_some_iff.1 k0).1
  clear hB1
  have k0_0 : w1.cell? ⟨w.heap.size, 0, none⟩ = some (.pointer (some ⟨bO, 0, none⟩)) := by rw [cell_of_block k0]; rfl
  have k0_1 : w1.cell? ⟨w.heap.size, 1, none⟩ = some (.pointer (some ⟨bY, 0, none⟩)) := by rw [cell_of_block k0]; rfl
  go_wp2_with fail
  refine (hS _).mono ?_
  rintro e w2 ⟨rfl, hb2⟩
  have hB2 : Below w1.heap.size w1 w2 := by (repeat (first | exact Below.refl _ _ | assumption | refine Below.drew ?_ | refine below_drewN ?_ _ | refine balloc ?_ _ | refine Below.setCell ?_ (by first | (simp; done) | (simp; omega) | omega) _ | refine bchain (by assumption) ?_))
  have k0 := bblock hB2 k0
  have t : w2.heap[w1.heap.size]? = some (.cells #[.int .i64 hk, .int .i64 hc, .int .i64 hf] 23 (0, 0)) := bblock hb2 (by repeat (first | exact alloc_at _ (by simp) | refine alloc_lt _ ?_))
  have hw2 := bchain hB2 hw1
  clear hz_k0
  have hz_k0 : w.heap.size < w2.heap.size := (Array.getElem?_eq_some_iff.1 k0).1
  have hz_t : w1.heap.size < w2.heap.size := (Array.getElem?_eq_some_iff.1 t).1
  clear hB2
  clear k0_0 k0_1
  have k0_0 : w2.cell? ⟨w.heap.size, 0, none⟩ = some (.pointer (some ⟨bO, 0, none⟩)) := by rw [cell_of_block k0]; rfl
  have k0_1 : w2.cell? ⟨w.heap.size, 1, none⟩ = some (.pointer (some ⟨bY, 0, none⟩)) := by rw [cell_of_block k0]; rfl
  have t_0 : w2.cell? ⟨w1.heap.size, 0, none⟩ = some (.int .i64 hk) := by rw [cell_of_block t]; rfl
  have t_1 : w2.cell? ⟨w1.heap.size, 1, none⟩ = some (.int .i64 hc) := by rw [cell_of_block t]; rfl
  have t_2 : w2.cell? ⟨w1.heap.size, 2, none⟩ = some (.int .i64 hf) := by rw [cell_of_block t]; rfl
  go_wp2
  go_ret
  exact ⟨rfl, by (repeat (first | exact Below.refl _ _ | assumption | refine Below.drew ?_ | refine below_drewN ?_ _ | refine balloc ?_ _ | refine Below.setCell ?_ (by first | (simp; done) | (simp; omega) | omega) _ | refine bchain (by assumption) ?_))⟩
theorem is_unst {w : World} {bO bY : Nat} {lo ly : Int} {wo wy : List Int} {gO gY : Option Nat} (hm : MemAt w bO bY lo ly wo wy gO gY) (a : Int) : Calls Try.prog 52 #[.agg #[.pointer (some ⟨bO, 0, none⟩), .pointer (some ⟨bY, 0, none⟩)], .int .i64 a, .func (.func 73) #[] #[]] w fun e w' => e = .returned (.int .i64 (isE (fun k => !stB k) wo wy a)) ∧ Below w.heap.size w w' := by
  unfold isE
  by_cases he : HE wo wy a = 0
  · rw [if_neg (by simpa using he)]
    cases hp : (fun k => !stB k) (HK wo wy a)
    · exact is_unst_false hm a he hp
    · exact is_unst_true hm a he hp
  · rw [if_pos he]
    exact is_unst_e hm a he
set_option maxRecDepth 100000 in
set_option maxHeartbeats 1000000 in
theorem is_nofw_e {w : World} {bO bY : Nat} {lo ly : Int} {wo wy : List Int} {gO gY : Option Nat} (hm : MemAt w bO bY lo ly wo wy gO gY) (a : Int) (he : HE wo wy a ≠ 0) :
    Calls Try.prog 52 #[.agg #[.pointer (some ⟨bO, 0, none⟩), .pointer (some ⟨bY, 0, none⟩)], .int .i64 a, .func (.func 53) #[] #[]] w fun e w' => e = .returned (.int .i64 (HE wo wy a)) ∧ Below w.heap.size w w' := by
  have hH := fun W (h : Below w.heap.size w W) => mhdr_any (hm.below h) a
  generalize HK wo wy a = hk at *
  generalize HC wo wy a = hc at *
  generalize HF wo wy a = hf at *
  generalize HE wo wy a = er at *
  have hb1 : (er == 0) = false := by simpa using he
  clear hm he
  have hw0 : Below w.heap.size w w := Below.refl _ _
  go_enter Try.func52, Try.ntmps52
  go_wp2_with fail
  refine (hH _ (by (repeat (first | exact Below.refl _ _ | assumption | refine Below.drew ?_ | refine below_drewN ?_ _ | refine balloc ?_ _ | refine Below.setCell ?_ (by first | (simp; done) | (simp; omega) | omega) _ | refine bchain (by assumption) ?_)))).mono ?_
  rintro e w1 ⟨rfl, hb1⟩
  have hB1 : Below w.heap.size w w1 := by (repeat (first | exact Below.refl _ _ | assumption | refine Below.drew ?_ | refine below_drewN ?_ _ | refine balloc ?_ _ | refine Below.setCell ?_ (by first | (simp; done) | (simp; omega) | omega) _ | refine bchain (by assumption) ?_))
  have k0 : w1.heap[w.heap.size]? = some (.cells #[.pointer (some ⟨bO, 0, none⟩), .pointer (some ⟨bY, 0, none⟩)] 29 (0, 0)) := bblock hb1 (by repeat (first | exact alloc_at _ (by simp) | refine alloc_lt _ ?_))
  have hw1 := bchain hB1 hw0
  have hz_k0 : w.heap.size < w1.heap.size := (Array.getElem?_eq_some_iff.1 k0).1
  clear hB1
  have k0_0 : w1.cell? ⟨w.heap.size, 0, none⟩ = some (.pointer (some ⟨bO, 0, none⟩)) := by rw [cell_of_block k0]; rfl
  have k0_1 : w1.cell? ⟨w.heap.size, 1, none⟩ = some (.pointer (some ⟨bY, 0, none⟩)) := by rw [cell_of_block k0]; rfl
  go_wp2
  go_ret
  exact ⟨rfl, by (repeat (first | exact Below.refl _ _ | assumption | refine Below.drew ?_ | refine below_drewN ?_ _ | refine balloc ?_ _ | refine Below.setCell ?_ (by first | (simp; done) | (simp; omega) | omega) _ | refine bchain (by assumption) ?_))⟩
set_option maxRecDepth 100000 in
set_option maxHeartbeats 1000000 in
theorem is_nofw_true {w : World} {bO bY : Nat} {lo ly : Int} {wo wy : List Int} {gO gY : Option Nat} (hm : MemAt w bO bY lo ly wo wy gO gY) (a : Int) (he : HE wo wy a = 0) (hp : (fun k => k != 4) (HK wo wy a) = true) :
    Calls Try.prog 52 #[.agg #[.pointer (some ⟨bO, 0, none⟩), .pointer (some ⟨bY, 0, none⟩)], .int .i64 a, .func (.func 53) #[] #[]] w fun e w' => e = .returned (.int .i64 0) ∧ Below w.heap.size w w' := by
  have hH := fun W (h : Below w.heap.size w W) => mhdr_any (hm.below h) a
  have hS := fun W => nofwd_any (HK wo wy a) (HC wo wy a) (HF wo wy a) W
  simp only at hp
  rw [hp] at hS
  rw [he] at hH
  generalize HK wo wy a = hk at *
  generalize HC wo wy a = hc at *
  generalize HF wo wy a = hf at *
  clear hm he hp
  have hw0 : Below w.heap.size w w := Below.refl _ _
  go_enter Try.func52, Try.ntmps52
  go_wp2_with fail
  refine (hH _ (by (repeat (first | exact Below.refl _ _ | assumption | refine Below.drew ?_ | refine below_drewN ?_ _ | refine balloc ?_ _ | refine Below.setCell ?_ (by first | (simp; done) | (simp; omega) | omega) _ | refine bchain (by assumption) ?_)))).mono ?_
  rintro e w1 ⟨rfl, hb1⟩
  have hB1 : Below w.heap.size w w1 := by (repeat (first | exact Below.refl _ _ | assumption | refine Below.drew ?_ | refine below_drewN ?_ _ | refine balloc ?_ _ | refine Below.setCell ?_ (by first | (simp; done) | (simp; omega) | omega) _ | refine bchain (by assumption) ?_))
  have k0 : w1.heap[w.heap.size]? = some (.cells #[.pointer (some ⟨bO, 0, none⟩), .pointer (some ⟨bY, 0, none⟩)] 29 (0, 0)) := bblock hb1 (by repeat (first | exact alloc_at _ (by simp) | refine alloc_lt _ ?_))
  have hw1 := bchain hB1 hw0
  have hz_k0 : w.heap.size < w1.heap.size := (Array.getElem?_eq_some_iff.1 k0).1
  clear hB1
  have k0_0 : w1.cell? ⟨w.heap.size, 0, none⟩ = some (.pointer (some ⟨bO, 0, none⟩)) := by rw [cell_of_block k0]; rfl
  have k0_1 : w1.cell? ⟨w.heap.size, 1, none⟩ = some (.pointer (some ⟨bY, 0, none⟩)) := by rw [cell_of_block k0]; rfl
  go_wp2_with fail
  refine (hS _).mono ?_
  rintro e w2 ⟨rfl, hb2⟩
  have hB2 : Below w1.heap.size w1 w2 := by (repeat (first | exact Below.refl _ _ | assumption | refine Below.drew ?_ | refine below_drewN ?_ _ | refine balloc ?_ _ | refine Below.setCell ?_ (by first | (simp; done) | (simp; omega) | omega) _ | refine bchain (by assumption) ?_))
  have k0 := bblock hB2 k0
  have t : w2.heap[w1.heap.size]? = some (.cells #[.int .i64 hk, .int .i64 hc, .int .i64 hf] 23 (0, 0)) := bblock hb2 (by repeat (first | exact alloc_at _ (by simp) | refine alloc_lt _ ?_))
  have hw2 := bchain hB2 hw1
  clear hz_k0
  have hz_k0 : w.heap.size < w2.heap.size := (Array.getElem?_eq_some_iff.1 k0).1
  have hz_t : w1.heap.size < w2.heap.size := (Array.getElem?_eq_some_iff.1 t).1
  clear hB2
  clear k0_0 k0_1
  have k0_0 : w2.cell? ⟨w.heap.size, 0, none⟩ = some (.pointer (some ⟨bO, 0, none⟩)) := by rw [cell_of_block k0]; rfl
  have k0_1 : w2.cell? ⟨w.heap.size, 1, none⟩ = some (.pointer (some ⟨bY, 0, none⟩)) := by rw [cell_of_block k0]; rfl
  have t_0 : w2.cell? ⟨w1.heap.size, 0, none⟩ = some (.int .i64 hk) := by rw [cell_of_block t]; rfl
  have t_1 : w2.cell? ⟨w1.heap.size, 1, none⟩ = some (.int .i64 hc) := by rw [cell_of_block t]; rfl
  have t_2 : w2.cell? ⟨w1.heap.size, 2, none⟩ = some (.int .i64 hf) := by rw [cell_of_block t]; rfl
  go_wp2
  go_ret
  exact ⟨rfl, by (repeat (first | exact Below.refl _ _ | assumption | refine Below.drew ?_ | refine below_drewN ?_ _ | refine balloc ?_ _ | refine Below.setCell ?_ (by first | (simp; done) | (simp; omega) | omega) _ | refine bchain (by assumption) ?_))⟩
set_option maxRecDepth 100000 in
set_option maxHeartbeats 1000000 in
theorem is_nofw_false {w : World} {bO bY : Nat} {lo ly : Int} {wo wy : List Int} {gO gY : Option Nat} (hm : MemAt w bO bY lo ly wo wy gO gY) (a : Int) (he : HE wo wy a = 0) (hp : (fun k => k != 4) (HK wo wy a) = false) :
    Calls Try.prog 52 #[.agg #[.pointer (some ⟨bO, 0, none⟩), .pointer (some ⟨bY, 0, none⟩)], .int .i64 a, .func (.func 53) #[] #[]] w fun e w' => e = .returned (.int .i64 7) ∧ Below w.heap.size w w' := by
  have hH := fun W (h : Below w.heap.size w W) => mhdr_any (hm.below h) a
  have hS := fun W => nofwd_any (HK wo wy a) (HC wo wy a) (HF wo wy a) W
  simp only at hp
  rw [hp] at hS
  rw [he] at hH
  generalize HK wo wy a = hk at *
  generalize HC wo wy a = hc at *
  generalize HF wo wy a = hf at *
  clear hm he hp
  have hw0 : Below w.heap.size w w := Below.refl _ _
  go_enter Try.func52, Try.ntmps52
  go_wp2_with fail
  refine (hH _ (by (repeat (first | exact Below.refl _ _ | assumption | refine Below.drew ?_ | refine below_drewN ?_ _ | refine balloc ?_ _ | refine Below.setCell ?_ (by first | (simp; done) | (simp; omega) | omega) _ | refine bchain (by assumption) ?_)))).mono ?_
  rintro e w1 ⟨rfl, hb1⟩
  have hB1 : Below w.heap.size w w1 := by (repeat (first | exact Below.refl _ _ | assumption | refine Below.drew ?_ | refine below_drewN ?_ _ | refine balloc ?_ _ | refine Below.setCell ?_ (by first | (simp; done) | (simp; omega) | omega) _ | refine bchain (by assumption) ?_))
  have k0 : w1.heap[w.heap.size]? = some (.cells #[.pointer (some ⟨bO, 0, none⟩), .pointer (some ⟨bY, 0, none⟩)] 29 (0, 0)) := bblock hb1 (by repeat (first | exact alloc_at _ (by simp) | refine alloc_lt _ ?_))
  have hw1 := bchain hB1 hw0
  have hz_k0 : w.heap.size < w1.heap.size := (Array.getElem?_eq_some_iff.1 k0).1
  clear hB1
  have k0_0 : w1.cell? ⟨w.heap.size, 0, none⟩ = some (.pointer (some ⟨bO, 0, none⟩)) := by rw [cell_of_block k0]; rfl
  have k0_1 : w1.cell? ⟨w.heap.size, 1, none⟩ = some (.pointer (some ⟨bY, 0, none⟩)) := by rw [cell_of_block k0]; rfl
  go_wp2_with fail
  refine (hS _).mono ?_
  rintro e w2 ⟨rfl, hb2⟩
  have hB2 : Below w1.heap.size w1 w2 := by (repeat (first | exact Below.refl _ _ | assumption | refine Below.drew ?_ | refine below_drewN ?_ _ | refine balloc ?_ _ | refine Below.setCell ?_ (by first | (simp; done) | (simp; omega) | omega) _ | refine bchain (by assumption) ?_))
  have k0 := bblock hB2 k0
  have t : w2.heap[w1.heap.size]? = some (.cells #[.int .i64 hk, .int .i64 hc, .int .i64 hf] 23 (0, 0)) := bblock hb2 (by repeat (first | exact alloc_at _ (by simp) | refine alloc_lt _ ?_))
  have hw2 := bchain hB2 hw1
  clear hz_k0
  have hz_k0 : w.heap.size < w2.heap.size := (Array.getElem?_eq_some_iff.1 k0).1
  have hz_t : w1.heap.size < w2.heap.size := (Array.getElem?_eq_some_iff.1 t).1
  clear hB2
  clear k0_0 k0_1
  have k0_0 : w2.cell? ⟨w.heap.size, 0, none⟩ = some (.pointer (some ⟨bO, 0, none⟩)) := by rw [cell_of_block k0]; rfl
  have k0_1 : w2.cell? ⟨w.heap.size, 1, none⟩ = some (.pointer (some ⟨bY, 0, none⟩)) := by rw [cell_of_block k0]; rfl
  have t_0 : w2.cell? ⟨w1.heap.size, 0, none⟩ = some (.int .i64 hk) := by rw [cell_of_block t]; rfl
  have t_1 : w2.cell? ⟨w1.heap.size, 1, none⟩ = some (.int .i64 hc) := by rw [cell_of_block t]; rfl
  have t_2 : w2.cell? ⟨w1.heap.size, 2, none⟩ = some (.int .i64 hf) := by rw [cell_of_block t]; rfl
  go_wp2
  go_ret
  exact ⟨rfl, by (repeat (first | exact Below.refl _ _ | assumption | refine Below.drew ?_ | refine below_drewN ?_ _ | refine balloc ?_ _ | refine Below.setCell ?_ (by first | (simp; done) | (simp; omega) | omega) _ | refine bchain (by assumption) ?_))⟩
theorem is_nofw {w : World} {bO bY : Nat} {lo ly : Int} {wo wy : List Int} {gO gY : Option Nat} (hm : MemAt w bO bY lo ly wo wy gO gY) (a : Int) : Calls Try.prog 52 #[.agg #[.pointer (some ⟨bO, 0, none⟩), .pointer (some ⟨bY, 0, none⟩)], .int .i64 a, .func (.func 53) #[] #[]] w fun e w' => e = .returned (.int .i64 (isE (fun k => k != 4) wo wy a)) ∧ Below w.heap.size w w' := by
  unfold isE
  by_cases he : HE wo wy a = 0
  · rw [if_neg (by simpa using he)]
    cases hp : (fun k => k != 4) (HK wo wy a)
    · exact is_nofw_false hm a he hp
    · exact is_nofw_true hm a he hp
  · rw [if_pos he]
    exact is_nofw_e hm a he
theorem isE_zero {p : Int → Bool} {wo wy : List Int} {a : Int} (h : isE p wo wy a = 0) : HE wo wy a = 0 ∧ p (HK wo wy a) = true := by
  unfold isE at h
  by_cases he : HE wo wy a = 0
  · rw [if_neg (by simpa using he)] at h
    cases hp : p (HK wo wy a)
    · rw [hp] at h; cases h
    · exact ⟨he, rfl⟩
  · rw [if_pos he] at h
    exact absurd h he
def okM (n : Int) : Bool := decide (1 ≤ n ∧ n ≤ 8)
def tsE (wo wy : List Int) (a n : Int) : Int := if isE (fun k => !stB k) wo wy a ≠ 0 then isE (fun k => !stB k) wo wy a else if okM n then 0 else 1
def tsM (wo wy : List Int) (a n u : Int) : List Int × List Int := if tsE wo wy a n = 0 then wrM wo wy a 3 [n, u] else (wo, wy)
set_option maxRecDepth 100000 in
set_option maxHeartbeats 1000000 in
theorem tostub_e {w : World} {bO bY : Nat} {lo ly : Int} {wo wy : List Int} {gO gY : Option Nat} (hm : MemAt w bO bY lo ly wo wy gO gY) (a n u : Int) (he : isE (fun k => !stB k) wo wy a ≠ 0) :
    Calls Try.prog 37 #[.agg #[.pointer (some ⟨bO, 0, none⟩), .pointer (some ⟨bY, 0, none⟩)], .int .i64 a, .int .i64 n, .int .u64 u] w fun e w' => e = .returned (.int .i64 (isE (fun k => !stB k) wo wy a)) ∧ MemAt w' bO bY lo ly (wo) (wy) gO gY ∧ Mods (MS bO bY gO gY) w w' := by
  have hH := fun (W : World) (H : MemAt W bO bY lo ly wo wy gO gY) => is_unst H a
  generalize isE (fun k => !stB k) wo wy a = er at *
  have hb1 : (er != 0) = true := by simpa using he
  clear he
  have hM0 : Mods (MS bO bY gO gY) w w := Mods.refl _ _
  have hm0 := hm
  have hn0 := hm.fresh
  go_enter Try.func37, Try.ntmps37
  go_wp2_with fail
  refine (hH _ (hm0.below (by (repeat (first | exact Below.refl _ _ | assumption | refine Below.drew ?_ | refine below_drewN ?_ _ | refine balloc ?_ _ | refine Below.setCell ?_ (by first | (simp; done) | (simp; omega) | omega) _ | refine bchain (by assumption) ?_))))).mono ?_
  rintro e w1 ⟨rfl, hb1⟩
  have hB1 : Below w.heap.size w w1 := by (repeat (first | exact Below.refl _ _ | assumption | refine Below.drew ?_ | refine below_drewN ?_ _ | refine balloc ?_ _ | refine Below.setCell ?_ (by first | (simp; done) | (simp; omega) | omega) _ | refine bchain (by assumption) ?_))
  have k0 : w1.heap[w.heap.size]? = some (.cells #[.pointer (some ⟨bO, 0, none⟩), .pointer (some ⟨bY, 0, none⟩)] 29 (0, 0)) := bblock hb1 (by repeat (first | exact alloc_at _ (by simp) | refine alloc_lt _ ?_))
  have hM1 := Mods.chain hB1 hM0
  have hm1 := hm0.below hB1
  have hs1 : w.heap.size ≤ w1.heap.size := hM1.size
  have hz_k0 : w.heap.size < w1.heap.size := (Array.getElem?_eq_some_iff.1 k0).1
  clear hB1 hm0 hM0 hb1
  have k0_0 : w1.cell? ⟨w.heap.size, 0, none⟩ = some (.pointer (some ⟨bO, 0, none⟩)) := by rw [cell_of_block k0]; rfl
  have k0_1 : w1.cell? ⟨w.heap.size, 1, none⟩ = some (.pointer (some ⟨bY, 0, none⟩)) := by rw [cell_of_block k0]; rfl
  go_wp2
  go_ret
  exact ⟨rfl, hm1.below (by (repeat (first | exact Below.refl _ _ | assumption | refine Below.drew ?_ | refine below_drewN ?_ _ | refine balloc ?_ _ | refine Below.setCell ?_ (by first | (simp; done) | (simp; omega) | omega) _ | refine bchain (by assumption) ?_))), Mods.chain (show Below w1.heap.size w1 _ from by (repeat (first | exact Below.refl _ _ | assumption | refine Below.drew ?_ | refine below_drewN ?_ _ | refine balloc ?_ _ | refine Below.setCell ?_ (by first | (simp; done) | (simp; omega) | omega) _ | refine bchain (by assumption) ?_))) hM1⟩
set_option maxRecDepth 100000 in
set_option maxHeartbeats 1000000 in
theorem tostub_n {w : World} {bO bY : Nat} {lo ly : Int} {wo wy : List Int} {gO gY : Option Nat} (hm : MemAt w bO bY lo ly wo wy gO gY) (a n u : Int) (he : isE (fun k => !stB k) wo wy a = 0) (hn : okM n = false) :
    Calls Try.prog 37 #[.agg #[.pointer (some ⟨bO, 0, none⟩), .pointer (some ⟨bY, 0, none⟩)], .int .i64 a, .int .i64 n, .int .u64 u] w fun e w' => e = .returned (.int .i64 1) ∧ MemAt w' bO bY lo ly (wo) (wy) gO gY ∧ Mods (MS bO bY gO gY) w w' := by
  have hH := fun (W : World) (H : MemAt W bO bY lo ly wo wy gO gY) => is_unst H a
  have hN := fun W => machine_any n W
  rw [show decide (1 ≤ n ∧ n ≤ 8) = okM n from rfl, hn] at hN
  rw [he] at hH
  clear he hn
  have hM0 : Mods (MS bO bY gO gY) w w := Mods.refl _ _
  have hm0 := hm
  have hn0 := hm.fresh
  go_enter Try.func37, Try.ntmps37
  go_wp2_with fail
  refine (hH _ (hm0.below (by (repeat (first | exact Below.refl _ _ | assumption | refine Below.drew ?_ | refine below_drewN ?_ _ | refine balloc ?_ _ | refine Below.setCell ?_ (by first | (simp; done) | (simp; omega) | omega) _ | refine bchain (by assumption) ?_))))).mono ?_
  rintro e w1 ⟨rfl, hb1⟩
  have hB1 : Below w.heap.size w w1 := by (repeat (first | exact Below.refl _ _ | assumption | refine Below.drew ?_ | refine below_drewN ?_ _ | refine balloc ?_ _ | refine Below.setCell ?_ (by first | (simp; done) | (simp; omega) | omega) _ | refine bchain (by assumption) ?_))
  have k0 : w1.heap[w.heap.size]? = some (.cells #[.pointer (some ⟨bO, 0, none⟩), .pointer (some ⟨bY, 0, none⟩)] 29 (0, 0)) := bblock hb1 (by repeat (first | exact alloc_at _ (by simp) | refine alloc_lt _ ?_))
  have hM1 := Mods.chain hB1 hM0
  have hm1 := hm0.below hB1
  have hs1 : w.heap.size ≤ w1.heap.size := hM1.size
  have hz_k0 : w.heap.size < w1.heap.size := (Array.getElem?_eq_some_iff.1 k0).1
  clear hB1 hm0 hM0 hb1
  have k0_0 : w1.cell? ⟨w.heap.size, 0, none⟩ = some (.pointer (some ⟨bO, 0, none⟩)) := by rw [cell_of_block k0]; rfl
  have k0_1 : w1.cell? ⟨w.heap.size, 1, none⟩ = some (.pointer (some ⟨bY, 0, none⟩)) := by rw [cell_of_block k0]; rfl
  go_wp2_with fail
  refine (hN _).mono ?_
  rintro e w2 ⟨rfl, hb2⟩
  have hB2 : Below w1.heap.size w1 w2 := by (repeat (first | exact Below.refl _ _ | assumption | refine Below.drew ?_ | refine below_drewN ?_ _ | refine balloc ?_ _ | refine Below.setCell ?_ (by first | (simp; done) | (simp; omega) | omega) _ | refine bchain (by assumption) ?_))
  have k0 := bblock hB2 k0
  have hM2 := Mods.chain hB2 hM1
  have hm2 := hm1.below hB2
  have hs2 : w.heap.size ≤ w2.heap.size := hM2.size
  clear hz_k0
  have hz_k0 : w.heap.size < w2.heap.size := (Array.getElem?_eq_some_iff.1 k0).1
  clear hB2 hm1 hM1 hb2
  clear k0_0 k0_1
  have k0_0 : w2.cell? ⟨w.heap.size, 0, none⟩ = some (.pointer (some ⟨bO, 0, none⟩)) := by rw [cell_of_block k0]; rfl
  have k0_1 : w2.cell? ⟨w.heap.size, 1, none⟩ = some (.pointer (some ⟨bY, 0, none⟩)) := by rw [cell_of_block k0]; rfl
  go_wp2
  go_ret
  exact ⟨rfl, hm2.below (by (repeat (first | exact Below.refl _ _ | assumption | refine Below.drew ?_ | refine below_drewN ?_ _ | refine balloc ?_ _ | refine Below.setCell ?_ (by first | (simp; done) | (simp; omega) | omega) _ | refine bchain (by assumption) ?_))), Mods.chain (show Below w2.heap.size w2 _ from by (repeat (first | exact Below.refl _ _ | assumption | refine Below.drew ?_ | refine below_drewN ?_ _ | refine balloc ?_ _ | refine Below.setCell ?_ (by first | (simp; done) | (simp; omega) | omega) _ | refine bchain (by assumption) ?_))) hM2⟩
set_option maxRecDepth 100000 in
set_option maxHeartbeats 1000000 in
theorem tostub_y {w : World} {bO bY : Nat} {lo ly : Int} {wo wy : List Int} {gO gY : Option Nat} (hm : MemAt w bO bY lo ly wo wy gO gY) (a n u : Int) (hu : U64 u) (he : isE (fun k => !stB k) wo wy a = 0) (hn : okM n = true) :
    Calls Try.prog 37 #[.agg #[.pointer (some ⟨bO, 0, none⟩), .pointer (some ⟨bY, 0, none⟩)], .int .i64 a, .int .i64 n, .int .u64 u] w fun e w' => e = .returned (.int .i64 0) ∧ MemAt w' bO bY lo ly ((wrM wo wy a 3 [n, u]).1) ((wrM wo wy a 3 [n, u]).2) gO gY ∧ Mods (MS bO bY gO gY) w w' := by
  have hH := fun (W : World) (H : MemAt W bO bY lo ly wo wy gO gY) => is_unst H a
  have hN := fun W => machine_any n W
  rw [show decide (1 ≤ n ∧ n ≤ 8) = okM n from rfl, hn] at hN
  have hnb : 1 ≤ n ∧ n ≤ 8 := of_decide_eq_true hn
  have hpu : ∀ x ∈ [n, u], U64 x := by
    intro x hx
    simp only [List.mem_cons, List.not_mem_nil, or_false] at hx
    rcases hx with rfl | rfl
    · exact U64.of (by omega) (by omega)
    · exact hu
  have hWr := fun (W : World) (H : MemAt W bO bY lo ly wo wy gO gY) => write_any (H.below (balloc (Below.refl _ W) (.cells #[.int .u64 n, .int .u64 u] 56))) a 3 (.inl rfl) W.heap.size 2 [n, u] (fun i x hx => by rw [cell_of_block (alloc_get _ _)]; rcases i with _ | _ | i <;> simp at hx ⊢ <;> exact hx) hpu (H.fresh _ (Nat.le_refl _)) (by simp) (by omega) (isE_zero he).1
  rw [he] at hH
  generalize (wrM wo wy a 3 [n, u]).1 = wo2 at *
  generalize (wrM wo wy a 3 [n, u]).2 = wy2 at *
  obtain ⟨hn1, hn2⟩ := hnb
  clear he hn hpu hu
  have hM0 : Mods (MS bO bY gO gY) w w := Mods.refl _ _
  have hm0 := hm
  have hn0 := hm.fresh
  go_enter Try.func37, Try.ntmps37
  go_wp2_with fail
  refine (hH _ (hm0.below (by (repeat (first | exact Below.refl _ _ | assumption | refine Below.drew ?_ | refine below_drewN ?_ _ | refine balloc ?_ _ | refine Below.setCell ?_ (by first | (simp; done) | (simp; omega) | omega) _ | refine bchain (by assumption) ?_))))).mono ?_
  rintro e w1 ⟨rfl, hb1⟩
  have hB1 : Below w.heap.size w w1 := by (repeat (first | exact Below.refl _ _ | assumption | refine Below.drew ?_ | refine below_drewN ?_ _ | refine balloc ?_ _ | refine Below.setCell ?_ (by first | (simp; done) | (simp; omega) | omega) _ | refine bchain (by assumption) ?_))
  have k0 : w1.heap[w.heap.size]? = some (.cells #[.pointer (some ⟨bO, 0, none⟩), .pointer (some ⟨bY, 0, none⟩)] 29 (0, 0)) := bblock hb1 (by repeat (first | exact alloc_at _ (by simp) | refine alloc_lt _ ?_))
  have hM1 := Mods.chain hB1 hM0
  have hm1 := hm0.below hB1
  have hs1 : w.heap.size ≤ w1.heap.size := hM1.size
  have hz_k0 : w.heap.size < w1.heap.size := (Array.getElem?_eq_some_iff.1 k0).1
  clear hB1 hm0 hM0 hb1
  have k0_0 : w1.cell? ⟨w.heap.size, 0, none⟩ = some (.pointer (some ⟨bO, 0, none⟩)) := by rw [cell_of_block k0]; rfl
  have k0_1 : w1.cell? ⟨w.heap.size, 1, none⟩ = some (.pointer (some ⟨bY, 0, none⟩)) := by rw [cell_of_block k0]; rfl
  go_wp2_with fail
  refine (hN _).mono ?_
  rintro e w2 ⟨rfl, hb2⟩
  have hB2 : Below w1.heap.size w1 w2 := by (repeat (first | exact Below.refl _ _ | assumption | refine Below.drew ?_ | refine below_drewN ?_ _ | refine balloc ?_ _ | refine Below.setCell ?_ (by first | (simp; done) | (simp; omega) | omega) _ | refine bchain (by assumption) ?_))
  have k0 := bblock hB2 k0
  have hM2 := Mods.chain hB2 hM1
  have hm2 := hm1.below hB2
  have hs2 : w.heap.size ≤ w2.heap.size := hM2.size
  clear hz_k0
  have hz_k0 : w.heap.size < w2.heap.size := (Array.getElem?_eq_some_iff.1 k0).1
  clear hB2 hm1 hM1 hb2
  clear k0_0 k0_1
  have k0_0 : w2.cell? ⟨w.heap.size, 0, none⟩ = some (.pointer (some ⟨bO, 0, none⟩)) := by rw [cell_of_block k0]; rfl
  have k0_1 : w2.cell? ⟨w.heap.size, 1, none⟩ = some (.pointer (some ⟨bY, 0, none⟩)) := by rw [cell_of_block k0]; rfl
  go_wp2_with fail
  refine (hWr _ hm2).mono ?_
  rintro e w9 ⟨rfl, hm9, hX9⟩
  have hM9 := (hM2.alloc (.cells #[.int .u64 n, .int .u64 u] 56)).trans hX9 (fun i hi => .inl hi)
  go_wp2
  go_ret
  exact ⟨rfl, hm9, hM9⟩
theorem tostub_any {w : World} {bO bY : Nat} {lo ly : Int} {wo wy : List Int} {gO gY : Option Nat} (hm : MemAt w bO bY lo ly wo wy gO gY) (a n u : Int) (hu : U64 u) : Calls Try.prog 37 #[.agg #[.pointer (some ⟨bO, 0, none⟩), .pointer (some ⟨bY, 0, none⟩)], .int .i64 a, .int .i64 n, .int .u64 u] w fun e w' => e = .returned (.int .i64 (tsE wo wy a n)) ∧ MemAt w' bO bY lo ly (tsM wo wy a n u).1 (tsM wo wy a n u).2 gO gY ∧ Mods (MS bO bY gO gY) w w' := by
  by_cases he : isE (fun k => !stB k) wo wy a = 0
  · cases hn : okM n
    · have e : tsE wo wy a n = 1 := by unfold tsE; rw [if_neg (by simpa using he), hn]; rfl
      unfold tsM
      rw [e, if_neg (by decide)]
      exact tostub_n hm a n u he hn
    · have e : tsE wo wy a n = 0 := by unfold tsE; rw [if_neg (by simpa using he), hn]; rfl
      unfold tsM
      rw [e, if_pos rfl]
      exact tostub_y hm a n u hu he hn
  · have e : tsE wo wy a n = isE (fun k => !stB k) wo wy a := by unfold tsE; rw [if_pos he]
    unfold tsM
    rw [e, if_neg he]
    exact tostub_e hm a n u he
def sbE (wo wy : List Int) (a : Int) : Int := isE (fun k => k == 3) wo wy a
def sbN (wo wy : List Int) (a : Int) : Int := if sbE wo wy a = 0 then wrap64 (LD wo wy (a + 2)) else 0
def sbU (wo wy : List Int) (a : Int) : Int := if sbE wo wy a = 0 then LD wo wy (a + 3) else 0
set_option maxRecDepth 100000 in
set_option maxHeartbeats 1000000 in
theorem mstub_e {w : World} {bO bY : Nat} {lo ly : Int} {wo wy : List Int} {gO gY : Option Nat} (hm : MemAt w bO bY lo ly wo wy gO gY) (a : Int) (he : sbE wo wy a ≠ 0) :
    Calls Try.prog 34 #[.agg #[.pointer (some ⟨bO, 0, none⟩), .pointer (some ⟨bY, 0, none⟩)], .int .i64 a] w fun e w' => e = .returned (.tuple #[.int .i64 0, .int .u64 0, .int .i64 (sbE wo wy a)]) ∧ Below w.heap.size w w' := by
  have hH := fun W (h : Below w.heap.size w W) => is_stub (hm.below h) a
  unfold sbE at *
  generalize isE (fun k => k == 3) wo wy a = er at *
  have hb1 : (er != 0) = true := by simpa using he
  clear hm he
  have hw0 : Below w.heap.size w w := Below.refl _ _
  go_enter Try.func34, Try.ntmps34
  go_wp2_with fail
  refine (hH _ (by (repeat (first | exact Below.refl _ _ | assumption | refine Below.drew ?_ | refine below_drewN ?_ _ | refine balloc ?_ _ | refine Below.setCell ?_ (by first | (simp; done) | (simp; omega) | omega) _ | refine bchain (by assumption) ?_)))).mono ?_
  rintro e w1 ⟨rfl, hb1⟩
  have hB1 : Below w.heap.size w w1 := by (repeat (first | exact Below.refl _ _ | assumption | refine Below.drew ?_ | refine below_drewN ?_ _ | refine balloc ?_ _ | refine Below.setCell ?_ (by first | (simp; done) | (simp; omega) | omega) _ | refine bchain (by assumption) ?_))
  have k0 : w1.heap[w.heap.size]? = some (.cells #[.pointer (some ⟨bO, 0, none⟩), .pointer (some ⟨bY, 0, none⟩)] 29 (0, 0)) := bblock hb1 (by repeat (first | exact alloc_at _ (by simp) | refine alloc_lt _ ?_))
  have hw1 := bchain hB1 hw0
  have hz_k0 : w.heap.size < w1.heap.size := (Array.getElem?_eq_some_iff.1 k0).1
  clear hB1
  have k0_0 : w1.cell? ⟨w.heap.size, 0, none⟩ = some (.pointer (some ⟨bO, 0, none⟩)) := by rw [cell_of_block k0]; rfl
  have k0_1 : w1.cell? ⟨w.heap.size, 1, none⟩ = some (.pointer (some ⟨bY, 0, none⟩)) := by rw [cell_of_block k0]; rfl
  go_wp2
  go_ret3
  exact ⟨rfl, by (repeat (first | exact Below.refl _ _ | assumption | refine Below.drew ?_ | refine below_drewN ?_ _ | refine balloc ?_ _ | refine Below.setCell ?_ (by first | (simp; done) | (simp; omega) | omega) _ | refine bchain (by assumption) ?_))⟩
set_option maxRecDepth 100000 in
set_option maxHeartbeats 1000000 in
theorem mstub_y {w : World} {bO bY : Nat} {lo ly : Int} {wo wy : List Int} {gO gY : Option Nat} (hm : MemAt w bO bY lo ly wo wy gO gY) (a : Int) (he : sbE wo wy a = 0) :
    Calls Try.prog 34 #[.agg #[.pointer (some ⟨bO, 0, none⟩), .pointer (some ⟨bY, 0, none⟩)], .int .i64 a] w fun e w' => e = .returned (.tuple #[.int .i64 (wrap64 (LD wo wy (a + 2))), .int .u64 (LD wo wy (a + 3)), .int .i64 0]) ∧ Below w.heap.size w w' := by
  have hH := fun W (h : Below w.heap.size w W) => is_stub (hm.below h) a
  have hL2 := fun W (h : Below w.heap.size w W) => mload_any (hm.below h) (a + 2)
  have hL3 := fun W (h : Below w.heap.size w W) => mload_any (hm.below h) (a + 3)
  unfold sbE at *
  rw [he] at hH
  have he0 := (isE_zero he).1
  have hbd := HE_bd he0
  have hk1 := (hm.partOk a).b0
  have hk2 := (hm.partOk a).top
  have hk3 := (hm.partOk a).lm1
  have hx0 : 0 ≤ wordsI (HF wo wy a) := by unfold wordsI; split <;> omega
  have ha : 0 ≤ a ∧ a ≤ 1099511627776 := by omega
  obtain ⟨ha0, ha1⟩ := ha
  generalize LD wo wy (a + 2) = x at *
  generalize LE wo wy (a + 2) = y at *
  generalize LD wo wy (a + 3) = x3 at *
  generalize LE wo wy (a + 3) = y3 at *
  clear hm he he0 hbd hk1 hk2 hk3 hx0
  have hw0 : Below w.heap.size w w := Below.refl _ _
  go_enter Try.func34, Try.ntmps34
  go_wp2_with fail
  refine (hH _ (by (repeat (first | exact Below.refl _ _ | assumption | refine Below.drew ?_ | refine below_drewN ?_ _ | refine balloc ?_ _ | refine Below.setCell ?_ (by first | (simp; done) | (simp; omega) | omega) _ | refine bchain (by assumption) ?_)))).mono ?_
  rintro e w1 ⟨rfl, hb1⟩
  have hB1 : Below w.heap.size w w1 := by (repeat (first | exact Below.refl _ _ | assumption | refine Below.drew ?_ | refine below_drewN ?_ _ | refine balloc ?_ _ | refine Below.setCell ?_ (by first | (simp; done) | (simp; omega) | omega) _ | refine bchain (by assumption) ?_))
  have k0 : w1.heap[w.heap.size]? = some (.cells #[.pointer (some ⟨bO, 0, none⟩), .pointer (some ⟨bY, 0, none⟩)] 29 (0, 0)) := bblock hb1 (by repeat (first | exact alloc_at _ (by simp) | refine alloc_lt _ ?_))
  have hw1 := bchain hB1 hw0
  have hz_k0 : w.heap.size < w1.heap.size := (Array.getElem?_eq_some_iff.1 k0).1
  clear hB1
  have k0_0 : w1.cell? ⟨w.heap.size, 0, none⟩ = some (.pointer (some ⟨bO, 0, none⟩)) := by rw [cell_of_block k0]; rfl
  have k0_1 : w1.cell? ⟨w.heap.size, 1, none⟩ = some (.pointer (some ⟨bY, 0, none⟩)) := by rw [cell_of_block k0]; rfl
  go_wp2_with fail
  refine (hL2 _ (by (repeat (first | exact Below.refl _ _ | assumption | refine Below.drew ?_ | refine below_drewN ?_ _ | refine balloc ?_ _ | refine Below.setCell ?_ (by first | (simp; done) | (simp; omega) | omega) _ | refine bchain (by assumption) ?_)))).mono ?_
  rintro e w2 ⟨rfl, hb2⟩
  have hB2 : Below w1.heap.size w1 w2 := by (repeat (first | exact Below.refl _ _ | assumption | refine Below.drew ?_ | refine below_drewN ?_ _ | refine balloc ?_ _ | refine Below.setCell ?_ (by first | (simp; done) | (simp; omega) | omega) _ | refine bchain (by assumption) ?_))
  have k0 := bblock hB2 k0
  have hw2 := bchain hB2 hw1
  clear hz_k0
  have hz_k0 : w.heap.size < w2.heap.size := (Array.getElem?_eq_some_iff.1 k0).1
  clear hB2
  clear k0_0 k0_1
  have k0_0 : w2.cell? ⟨w.heap.size, 0, none⟩ = some (.pointer (some ⟨bO, 0, none⟩)) := by rw [cell_of_block k0]; rfl
  have k0_1 : w2.cell? ⟨w.heap.size, 1, none⟩ = some (.pointer (some ⟨bY, 0, none⟩)) := by rw [cell_of_block k0]; rfl
  go_wp2_with fail
  refine (hL3 _ (by (repeat (first | exact Below.refl _ _ | assumption | refine Below.drew ?_ | refine below_drewN ?_ _ | refine balloc ?_ _ | refine Below.setCell ?_ (by first | (simp; done) | (simp; omega) | omega) _ | refine bchain (by assumption) ?_)))).mono ?_
  rintro e w3 ⟨rfl, hb3⟩
  have hB3 : Below w2.heap.size w2 w3 := by (repeat (first | exact Below.refl _ _ | assumption | refine Below.drew ?_ | refine below_drewN ?_ _ | refine balloc ?_ _ | refine Below.setCell ?_ (by first | (simp; done) | (simp; omega) | omega) _ | refine bchain (by assumption) ?_))
  have k0 := bblock hB3 k0
  have hw3 := bchain hB3 hw2
  clear hz_k0
  have hz_k0 : w.heap.size < w3.heap.size := (Array.getElem?_eq_some_iff.1 k0).1
  clear hB3
  clear k0_0 k0_1
  have k0_0 : w3.cell? ⟨w.heap.size, 0, none⟩ = some (.pointer (some ⟨bO, 0, none⟩)) := by rw [cell_of_block k0]; rfl
  have k0_1 : w3.cell? ⟨w.heap.size, 1, none⟩ = some (.pointer (some ⟨bY, 0, none⟩)) := by rw [cell_of_block k0]; rfl
  go_wp2
  go_ret3
  exact ⟨rfl, by (repeat (first | exact Below.refl _ _ | assumption | refine Below.drew ?_ | refine below_drewN ?_ _ | refine balloc ?_ _ | refine Below.setCell ?_ (by first | (simp; done) | (simp; omega) | omega) _ | refine bchain (by assumption) ?_))⟩
theorem mstub_any {w : World} {bO bY : Nat} {lo ly : Int} {wo wy : List Int} {gO gY : Option Nat} (hm : MemAt w bO bY lo ly wo wy gO gY) (a : Int) : Calls Try.prog 34 #[.agg #[.pointer (some ⟨bO, 0, none⟩), .pointer (some ⟨bY, 0, none⟩)], .int .i64 a] w fun e w' => e = .returned (.tuple #[.int .i64 (sbN wo wy a), .int .u64 (sbU wo wy a), .int .i64 (sbE wo wy a)]) ∧ Below w.heap.size w w' := by
  unfold sbN sbU
  by_cases he : sbE wo wy a = 0
  · rw [if_pos he, if_pos he, he]
    exact mstub_y hm a he
  · rw [if_neg he, if_neg he]
    exact mstub_e hm a he
def rrE (wo wy : List Int) (a n : Int) : Int := if sbE wo wy a ≠ 0 then sbE wo wy a else if okM n then 0 else 1
def rrM (wo wy : List Int) (a n u : Int) : List Int × List Int := if rrE wo wy a n = 0 then (stO (stO wo (a + 2) n) (a + 3) u, stY (stY wy (a + 2) n) (a + 3) u) else (wo, wy)
set_option maxRecDepth 100000 in
set_option maxHeartbeats 1000000 in
theorem reroute_e {w : World} {bO bY : Nat} {lo ly : Int} {wo wy : List Int} {gO gY : Option Nat} (hm : MemAt w bO bY lo ly wo wy gO gY) (a n u : Int) (he : sbE wo wy a ≠ 0) :
    Calls Try.prog 59 #[.agg #[.pointer (some ⟨bO, 0, none⟩), .pointer (some ⟨bY, 0, none⟩)], .int .i64 a, .int .i64 n, .int .u64 u] w fun e w' => e = .returned (.int .i64 (sbE wo wy a)) ∧ MemAt w' bO bY lo ly (wo) (wy) gO gY ∧ Mods (MS bO bY gO gY) w w' := by
  have hH := fun (W : World) (H : MemAt W bO bY lo ly wo wy gO gY) => is_stub H a
  unfold sbE at *
  generalize isE (fun k => k == 3) wo wy a = er at *
  have hb1 : (er != 0) = true := by simpa using he
  clear he
  have hM0 : Mods (MS bO bY gO gY) w w := Mods.refl _ _
  have hm0 := hm
  have hn0 := hm.fresh
  go_enter Try.func59, Try.ntmps59
  go_wp2_with fail
  refine (hH _ (hm0.below (by (repeat (first | exact Below.refl _ _ | assumption | refine Below.drew ?_ | refine below_drewN ?_ _ | refine balloc ?_ _ | refine Below.setCell ?_ (by first | (simp; done) | (simp; omega) | omega) _ | refine bchain (by assumption) ?_))))).mono ?_
  rintro e w1 ⟨rfl, hb1⟩
  have hB1 : Below w.heap.size w w1 := by (repeat (first | exact Below.refl _ _ | assumption | refine Below.drew ?_ | refine below_drewN ?_ _ | refine balloc ?_ _ | refine Below.setCell ?_ (by first | (simp; done) | (simp; omega) | omega) _ | refine bchain (by assumption) ?_))
  have k0 : w1.heap[w.heap.size]? = some (.cells #[.pointer (some ⟨bO, 0, none⟩), .pointer (some ⟨bY, 0, none⟩)] 29 (0, 0)) := bblock hb1 (by repeat (first | exact alloc_at _ (by simp) | refine alloc_lt _ ?_))
  have hM1 := Mods.chain hB1 hM0
  have hm1 := hm0.below hB1
  have hs1 : w.heap.size ≤ w1.heap.size := hM1.size
  have hz_k0 : w.heap.size < w1.heap.size := (Array.getElem?_eq_some_iff.1 k0).1
  clear hB1 hm0 hM0 hb1
  have k0_0 : w1.cell? ⟨w.heap.size, 0, none⟩ = some (.pointer (some ⟨bO, 0, none⟩)) := by rw [cell_of_block k0]; rfl
  have k0_1 : w1.cell? ⟨w.heap.size, 1, none⟩ = some (.pointer (some ⟨bY, 0, none⟩)) := by rw [cell_of_block k0]; rfl
  go_wp2
  go_ret
  exact ⟨rfl, hm1.below (by (repeat (first | exact Below.refl _ _ | assumption | refine Below.drew ?_ | refine below_drewN ?_ _ | refine balloc ?_ _ | refine Below.setCell ?_ (by first | (simp; done) | (simp; omega) | omega) _ | refine bchain (by assumption) ?_))), Mods.chain (show Below w1.heap.size w1 _ from by (repeat (first | exact Below.refl _ _ | assumption | refine Below.drew ?_ | refine below_drewN ?_ _ | refine balloc ?_ _ | refine Below.setCell ?_ (by first | (simp; done) | (simp; omega) | omega) _ | refine bchain (by assumption) ?_))) hM1⟩
set_option maxRecDepth 100000 in
set_option maxHeartbeats 1000000 in
theorem reroute_n {w : World} {bO bY : Nat} {lo ly : Int} {wo wy : List Int} {gO gY : Option Nat} (hm : MemAt w bO bY lo ly wo wy gO gY) (a n u : Int) (he : sbE wo wy a = 0) (hn : okM n = false) :
    Calls Try.prog 59 #[.agg #[.pointer (some ⟨bO, 0, none⟩), .pointer (some ⟨bY, 0, none⟩)], .int .i64 a, .int .i64 n, .int .u64 u] w fun e w' => e = .returned (.int .i64 1) ∧ MemAt w' bO bY lo ly (wo) (wy) gO gY ∧ Mods (MS bO bY gO gY) w w' := by
  have hH := fun (W : World) (H : MemAt W bO bY lo ly wo wy gO gY) => is_stub H a
  have hN := fun W => machine_any n W
  rw [show decide (1 ≤ n ∧ n ≤ 8) = okM n from rfl, hn] at hN
  unfold sbE at *
  rw [he] at hH
  clear he hn
  have hM0 : Mods (MS bO bY gO gY) w w := Mods.refl _ _
  have hm0 := hm
  have hn0 := hm.fresh
  go_enter Try.func59, Try.ntmps59
  go_wp2_with fail
  refine (hH _ (hm0.below (by (repeat (first | exact Below.refl _ _ | assumption | refine Below.drew ?_ | refine below_drewN ?_ _ | refine balloc ?_ _ | refine Below.setCell ?_ (by first | (simp; done) | (simp; omega) | omega) _ | refine bchain (by assumption) ?_))))).mono ?_
  rintro e w1 ⟨rfl, hb1⟩
  have hB1 : Below w.heap.size w w1 := by (repeat (first | exact Below.refl _ _ | assumption | refine Below.drew ?_ | refine below_drewN ?_ _ | refine balloc ?_ _ | refine Below.setCell ?_ (by first | (simp; done) | (simp; omega) | omega) _ | refine bchain (by assumption) ?_))
  have k0 : w1.heap[w.heap.size]? = some (.cells #[.pointer (some ⟨bO, 0, none⟩), .pointer (some ⟨bY, 0, none⟩)] 29 (0, 0)) := bblock hb1 (by repeat (first | exact alloc_at _ (by simp) | refine alloc_lt _ ?_))
  have hM1 := Mods.chain hB1 hM0
  have hm1 := hm0.below hB1
  have hs1 : w.heap.size ≤ w1.heap.size := hM1.size
  have hz_k0 : w.heap.size < w1.heap.size := (Array.getElem?_eq_some_iff.1 k0).1
  clear hB1 hm0 hM0 hb1
  have k0_0 : w1.cell? ⟨w.heap.size, 0, none⟩ = some (.pointer (some ⟨bO, 0, none⟩)) := by rw [cell_of_block k0]; rfl
  have k0_1 : w1.cell? ⟨w.heap.size, 1, none⟩ = some (.pointer (some ⟨bY, 0, none⟩)) := by rw [cell_of_block k0]; rfl
  go_wp2_with fail
  refine (hN _).mono ?_
  rintro e w2 ⟨rfl, hb2⟩
  have hB2 : Below w1.heap.size w1 w2 := by (repeat (first | exact Below.refl _ _ | assumption | refine Below.drew ?_ | refine below_drewN ?_ _ | refine balloc ?_ _ | refine Below.setCell ?_ (by first | (simp; done) | (simp; omega) | omega) _ | refine bchain (by assumption) ?_))
  have k0 := bblock hB2 k0
  have hM2 := Mods.chain hB2 hM1
  have hm2 := hm1.below hB2
  have hs2 : w.heap.size ≤ w2.heap.size := hM2.size
  clear hz_k0
  have hz_k0 : w.heap.size < w2.heap.size := (Array.getElem?_eq_some_iff.1 k0).1
  clear hB2 hm1 hM1 hb2
  clear k0_0 k0_1
  have k0_0 : w2.cell? ⟨w.heap.size, 0, none⟩ = some (.pointer (some ⟨bO, 0, none⟩)) := by rw [cell_of_block k0]; rfl
  have k0_1 : w2.cell? ⟨w.heap.size, 1, none⟩ = some (.pointer (some ⟨bY, 0, none⟩)) := by rw [cell_of_block k0]; rfl
  go_wp2
  go_ret
  exact ⟨rfl, hm2.below (by (repeat (first | exact Below.refl _ _ | assumption | refine Below.drew ?_ | refine below_drewN ?_ _ | refine balloc ?_ _ | refine Below.setCell ?_ (by first | (simp; done) | (simp; omega) | omega) _ | refine bchain (by assumption) ?_))), Mods.chain (show Below w2.heap.size w2 _ from by (repeat (first | exact Below.refl _ _ | assumption | refine Below.drew ?_ | refine below_drewN ?_ _ | refine balloc ?_ _ | refine Below.setCell ?_ (by first | (simp; done) | (simp; omega) | omega) _ | refine bchain (by assumption) ?_))) hM2⟩
set_option maxRecDepth 100000 in
set_option maxHeartbeats 1000000 in
theorem reroute_y {w : World} {bO bY : Nat} {lo ly : Int} {wo wy : List Int} {gO gY : Option Nat} (hm : MemAt w bO bY lo ly wo wy gO gY) (a n u : Int) (hu : U64 u) (he : sbE wo wy a = 0) (hn : okM n = true) :
    Calls Try.prog 59 #[.agg #[.pointer (some ⟨bO, 0, none⟩), .pointer (some ⟨bY, 0, none⟩)], .int .i64 a, .int .i64 n, .int .u64 u] w fun e w' => e = .returned (.int .i64 0) ∧ MemAt w' bO bY lo ly (stO (stO wo (a + 2) n) (a + 3) u) (stY (stY wy (a + 2) n) (a + 3) u) gO gY ∧ Mods (MS bO bY gO gY) w w' := by
  have hH := fun (W : World) (H : MemAt W bO bY lo ly wo wy gO gY) => is_stub H a
  have hN := fun W => machine_any n W
  rw [show decide (1 ≤ n ∧ n ≤ 8) = okM n from rfl, hn] at hN
  have hnb : 1 ≤ n ∧ n ≤ 8 := of_decide_eq_true hn
  obtain ⟨hn1, hn2⟩ := hnb
  have hS1 := fun (W : World) (H : MemAt W bO bY lo ly wo wy gO gY) => mstore_any H (a + 2) n (U64.of (by omega) (by omega))
  have hS2 := fun (W : World) (H : MemAt W bO bY lo ly (stO wo (a + 2) n) (stY wy (a + 2) n) gO gY) => mstore_any H (a + 3) u hu
  unfold sbE at *
  rw [he] at hH
  have he0 := (isE_zero he).1
  have hbd := HE_bd he0
  have hk1 := (hm.partOk a).b0
  have hk2 := (hm.partOk a).top
  have hk3 := (hm.partOk a).lm1
  have hx0 : 0 ≤ wordsI (HF wo wy a) := by unfold wordsI; split <;> omega
  have ha : 0 ≤ a ∧ a ≤ 1099511627776 := by omega
  obtain ⟨ha0, ha1⟩ := ha
  generalize stO wo (a + 2) n = wo1 at *
  generalize stY wy (a + 2) n = wy1 at *
  generalize LE wo wy (a + 2) = l1 at *
  generalize LE wo1 wy1 (a + 3) = l2 at *
  generalize stO wo1 (a + 3) u = wo2 at *
  generalize stY wy1 (a + 3) u = wy2 at *
  clear he hn he0 hbd hk1 hk2 hk3 hx0 hu
  have hM0 : Mods (MS bO bY gO gY) w w := Mods.refl _ _
  have hm0 := hm
  have hn0 := hm.fresh
  go_enter Try.func59, Try.ntmps59
  go_wp2_with fail
  refine (hH _ (hm0.below (by (repeat (first | exact Below.refl _ _ | assumption | refine Below.drew ?_ | refine below_drewN ?_ _ | refine balloc ?_ _ | refine Below.setCell ?_ (by first | (simp; done) | (simp; omega) | omega) _ | refine bchain (by assumption) ?_))))).mono ?_
  rintro e w1 ⟨rfl, hb1⟩
  have hB1 : Below w.heap.size w w1 := by (repeat (first | exact Below.refl _ _ | assumption | refine Below.drew ?_ | refine below_drewN ?_ _ | refine balloc ?_ _ | refine Below.setCell ?_ (by first | (simp; done) | (simp; omega) | omega) _ | refine bchain (by assumption) ?_))
  have k0 : w1.heap[w.heap.size]? = some (.cells #[.pointer (some ⟨bO, 0, none⟩), .pointer (some ⟨bY, 0, none⟩)] 29 (0, 0)) := bblock hb1 (by repeat (first | exact alloc_at _ (by simp) | refine alloc_lt _ ?_))
  have hM1 := Mods.chain hB1 hM0
  have hm1 := hm0.below hB1
  have hs1 : w.heap.size ≤ w1.heap.size := hM1.size
  have hz_k0 : w.heap.size < w1.heap.size := (Array.getElem?_eq_some_iff.1 k0).1
  clear hB1 hm0 hM0 hb1
  have k0_0 : w1.cell? ⟨w.heap.size, 0, none⟩ = some (.pointer (some ⟨bO, 0, none⟩)) := by rw [cell_of_block k0]; rfl
  have k0_1 : w1.cell? ⟨w.heap.size, 1, none⟩ = some (.pointer (some ⟨bY, 0, none⟩)) := by rw [cell_of_block k0]; rfl
  go_wp2_with fail
  refine (hN _).mono ?_
  rintro e w2 ⟨rfl, hb2⟩
  have hB2 : Below w1.heap.size w1 w2 := by (repeat (first | exact Below.refl _ _ | assumption | refine Below.drew ?_ | refine below_drewN ?_ _ | refine balloc ?_ _ | refine Below.setCell ?_ (by first | (simp; done) | (simp; omega) | omega) _ | refine bchain (by assumption) ?_))
  have k0 := bblock hB2 k0
  have hM2 := Mods.chain hB2 hM1
  have hm2 := hm1.below hB2
  have hs2 : w.heap.size ≤ w2.heap.size := hM2.size
  clear hz_k0
  have hz_k0 : w.heap.size < w2.heap.size := (Array.getElem?_eq_some_iff.1 k0).1
  clear hB2 hm1 hM1 hb2
  clear k0_0 k0_1
  have k0_0 : w2.cell? ⟨w.heap.size, 0, none⟩ = some (.pointer (some ⟨bO, 0, none⟩)) := by rw [cell_of_block k0]; rfl
  have k0_1 : w2.cell? ⟨w.heap.size, 1, none⟩ = some (.pointer (some ⟨bY, 0, none⟩)) := by rw [cell_of_block k0]; rfl
  go_wp2_with fail
  refine (hS1 _ (hm2.below (by (repeat (first | exact Below.refl _ _ | assumption | refine Below.drew ?_ | refine below_drewN ?_ _ | refine balloc ?_ _ | refine Below.setCell ?_ (by first | (simp; done) | (simp; omega) | omega) _ | refine bchain (by assumption) ?_))))).mono ?_
  rintro e w3 ⟨rfl, hm3, hX3⟩
  have k0 := mblock hX3 (bblock (show Below w2.heap.size w2 _ from by (repeat (first | exact Below.refl _ _ | assumption | refine Below.drew ?_ | refine below_drewN ?_ _ | refine balloc ?_ _ | refine Below.setCell ?_ (by first | (simp; done) | (simp; omega) | omega) _ | refine bchain (by assumption) ?_))) k0) (hn0 _ (by omega))
  have hM3 := (Mods.chain (show Below w2.heap.size w2 _ from by (repeat (first | exact Below.refl _ _ | assumption | refine Below.drew ?_ | refine below_drewN ?_ _ | refine balloc ?_ _ | refine Below.setCell ?_ (by first | (simp; done) | (simp; omega) | omega) _ | refine bchain (by assumption) ?_))) hM2).trans hX3 (fun i hi => .inl hi)
  have hs3 : w.heap.size ≤ w3.heap.size := hM3.size
  clear hz_k0
  have hz_k0 : w.heap.size < w3.heap.size := (Array.getElem?_eq_some_iff.1 k0).1
  clear hm2 hM2 hX3
  clear k0_0 k0_1
  have k0_0 : w3.cell? ⟨w.heap.size, 0, none⟩ = some (.pointer (some ⟨bO, 0, none⟩)) := by rw [cell_of_block k0]; rfl
  have k0_1 : w3.cell? ⟨w.heap.size, 1, none⟩ = some (.pointer (some ⟨bY, 0, none⟩)) := by rw [cell_of_block k0]; rfl
  go_wp2_with fail
  refine (hS2 _ (hm3.below (by (repeat (first | exact Below.refl _ _ | assumption | refine Below.drew ?_ | refine below_drewN ?_ _ | refine balloc ?_ _ | refine Below.setCell ?_ (by first | (simp; done) | (simp; omega) | omega) _ | refine bchain (by assumption) ?_))))).mono ?_
  rintro e w4 ⟨rfl, hm4, hX4⟩
  have k0 := mblock hX4 (bblock (show Below w3.heap.size w3 _ from by (repeat (first | exact Below.refl _ _ | assumption | refine Below.drew ?_ | refine below_drewN ?_ _ | refine balloc ?_ _ | refine Below.setCell ?_ (by first | (simp; done) | (simp; omega) | omega) _ | refine bchain (by assumption) ?_))) k0) (hn0 _ (by omega))
  have hM4 := (Mods.chain (show Below w3.heap.size w3 _ from by (repeat (first | exact Below.refl _ _ | assumption | refine Below.drew ?_ | refine below_drewN ?_ _ | refine balloc ?_ _ | refine Below.setCell ?_ (by first | (simp; done) | (simp; omega) | omega) _ | refine bchain (by assumption) ?_))) hM3).trans hX4 (fun i hi => .inl hi)
  have hs4 : w.heap.size ≤ w4.heap.size := hM4.size
  clear hz_k0
  have hz_k0 : w.heap.size < w4.heap.size := (Array.getElem?_eq_some_iff.1 k0).1
  clear hm3 hM3 hX4
  clear k0_0 k0_1
  have k0_0 : w4.cell? ⟨w.heap.size, 0, none⟩ = some (.pointer (some ⟨bO, 0, none⟩)) := by rw [cell_of_block k0]; rfl
  have k0_1 : w4.cell? ⟨w.heap.size, 1, none⟩ = some (.pointer (some ⟨bY, 0, none⟩)) := by rw [cell_of_block k0]; rfl
  go_wp2
  go_ret
  exact ⟨rfl, hm4.below (by (repeat (first | exact Below.refl _ _ | assumption | refine Below.drew ?_ | refine below_drewN ?_ _ | refine balloc ?_ _ | refine Below.setCell ?_ (by first | (simp; done) | (simp; omega) | omega) _ | refine bchain (by assumption) ?_))), Mods.chain (show Below w4.heap.size w4 _ from by (repeat (first | exact Below.refl _ _ | assumption | refine Below.drew ?_ | refine below_drewN ?_ _ | refine balloc ?_ _ | refine Below.setCell ?_ (by first | (simp; done) | (simp; omega) | omega) _ | refine bchain (by assumption) ?_))) hM4⟩
theorem reroute_any {w : World} {bO bY : Nat} {lo ly : Int} {wo wy : List Int} {gO gY : Option Nat} (hm : MemAt w bO bY lo ly wo wy gO gY) (a n u : Int) (hu : U64 u) : Calls Try.prog 59 #[.agg #[.pointer (some ⟨bO, 0, none⟩), .pointer (some ⟨bY, 0, none⟩)], .int .i64 a, .int .i64 n, .int .u64 u] w fun e w' => e = .returned (.int .i64 (rrE wo wy a n)) ∧ MemAt w' bO bY lo ly (rrM wo wy a n u).1 (rrM wo wy a n u).2 gO gY ∧ Mods (MS bO bY gO gY) w w' := by
  by_cases he : sbE wo wy a = 0
  · cases hn : okM n
    · have e : rrE wo wy a n = 1 := by unfold rrE; rw [if_neg (by simpa using he), hn]; rfl
      unfold rrM
      rw [e, if_neg (by decide)]
      exact reroute_n hm a n u he hn
    · have e : rrE wo wy a n = 0 := by unfold rrE; rw [if_neg (by simpa using he), hn]; rfl
      unfold rrM
      rw [e, if_pos rfl]
      exact reroute_y hm a n u hu he hn
  · have e : rrE wo wy a n = sbE wo wy a := by unfold rrE; rw [if_pos he]
    unfold rrM
    rw [e, if_neg he]
    exact reroute_e hm a n u he
end Go.Proofs.Ytcmhgjkijegpnaa
namespace Go.Proofs.Ytcmhgjkijegpnaa
open Go.RowKit Go.Maps
set_option linter.unusedSimpArgs false
set_option linter.unusedVariables false

theorem seen_law : Keyed Try.prog 3 := int_keyed Try.underlying3
/-- Block b is a map that holds true at the numbers of S, and nothing else. -/
def SeenAt (w : World) (b : Nat) (S : List Int) : Prop :=
  ∃ D : DataW Unit, w.ownsMap Try.prog 3 (plainElem Try.prog 4) b S.length D ∧ IsMap D ∧ ∀ x : Int, D.atKey (.int .i64 x) (.lit (.bool false)) = .lit (.bool (decide (x ∈ S)))
theorem seen_made (w : World) : SeenAt (w.alloc (.map #[] 0)) w.heap.size [] :=
  ⟨.map [], World.ownsMap_made w _ _ _, isMap_empty, fun x => by simp [DataW.atKey]⟩
theorem SeenAt.kept {w w' : World} {b : Nat} {S : List Int} {row : Option Nat} (h : SeenAt w b S) (hg : w.grownBy w' row) (hne : some b ≠ row) : SeenAt w' b S := by
  obtain ⟨D, h1, h2, h3⟩ := h
  exact ⟨D, h1.kept hg hne, h2, h3⟩
theorem SeenAt.below {w w' : World} {b : Nat} {S : List Int} (h : SeenAt w b S) (hb : Below w.heap.size w w') : SeenAt w' b S := h.kept (grown_of hb) (by simp)
theorem SeenAt.lt {w : World} {b : Nat} {S : List Int} (h : SeenAt w b S) : b < w.heap.size := by
  obtain ⟨D, h1, _⟩ := h
  exact h1.lt
theorem plainElem_bool_inv {H : Type} {P : Program} {e : TypeId} (he : P.underlying e = some .bool) {v : Value} {z : DataW H × List MemPlace} (h : plainElem P e v = some z) : ∃ x, v = .bool x ∧ z = (.lit (.bool x), []) := by
  unfold plainElem at h
  rw [he] at h
  cases v <;> simp at h
  exact ⟨_, rfl, h.symm⟩
theorem seen_zero (w : World) : (zeroValue 4).run Try.prog w = .ok (.bool false) w := by kernel_rfl
theorem wf_i64 {x : Int} (h : -9223372036854775808 ≤ x ∧ x ≤ 9223372036854775807) : (Lit.int .i64 x).wf = true := by
  simp [Lit.wf, IntKind.min, IntKind.max, IntKind.signed, IntKind.bits]
  omega
theorem SeenAt.look {w : World} {b : Nat} {S : List Int} (h : SeenAt w b S) {x : Int} (hx : -9223372036854775808 ≤ x ∧ x ≤ 9223372036854775807) :
    (Instr.lookup 96 (.map (some b)) (.int .i64 x) false).run Try.prog w = .ok (.bool (decide (x ∈ S))) w := by
  obtain ⟨D, h1, _, h3⟩ := h
  obtain ⟨v, ps, hrun, hv⟩ := h1.lookup seen_law Try.underlying96 (seen_zero w) (plainElem_bool Try.underlying4 false) (keyOf_int_mk Try.underlying3 (wf_i64 hx))
  rw [h3 x] at hv
  obtain ⟨y, rfl, hy⟩ := plainElem_bool_inv Try.underlying4 hv
  simp only [Prod.mk.injEq, DataW.lit.injEq, Lit.bool.injEq] at hy
  rw [hrun, hy.1]
theorem wpList_seen {w : World} {ops : Array Oper} {rest : List Oper} {o : Oper} {a : Act} {Q : Exit → Act → World → Prop}
    (hg : o.guard = none) (m x v : Operand) (hop : o.op = Op.mapUpdate 96 m x v) (b : Nat) (S : List Int) (hm : a.eval m = .map (some b)) (hown : SeenAt w b S) (hn : S.length < maxLen) (k : Int) (hx : a.eval x = .int .i64 k) (hv : a.eval v = .bool true)
    (hk : -9223372036854775808 ≤ k ∧ k ≤ 9223372036854775807)
    (hK : ∀ w', SeenAt w' b (S ++ [k]) → w.grownBy w' (some b) → wpList Try.prog ops Q rest (a.put o.dst undef) w') :
    wpList Try.prog ops Q (o :: rest) a w := by
  obtain ⟨D, h1, h2, h3⟩ := hown
  refine wpList_mapUpdate_own w hg m x v 96 hop 3 4 seen_law Try.underlying96 (plainElem Try.prog 4) b S.length D hm h1 hn (.int .i64 k) (.bool true) (.int .i64 k) hx hv (keyOf_int_mk Try.underlying3 (wf_i64 hk)) (.lit (.bool true)) [] (plainElem_bool Try.underlying4 true) ?_
  intro w' h4 h5
  refine hK w' ⟨_, by simpa using h4, h2.put _ _, fun y => ?_⟩ h5
  by_cases hy : y = k
  · subst hy
    rw [atKey_put_same h2 (by first | exact .inr (.inl ⟨_, _, rfl⟩) | simp [WideAt.IsKeyLit])]
    simp
  · rw [atKey_put_other (by simpa using hy), h3 y]
    simp [hy]
end Go.Proofs.Ytcmhgjkijegpnaa
namespace Go.Proofs.Ytcmhgjkijegpnaa
open Go.RowKit
set_option linter.unusedSimpArgs false
set_option linter.unusedVariables false

/-- The resolution of an address, in at most n steps: the address, the error. -/
def rsv (wo wy : List Int) : Nat → Int → Int × Int
  | 0, _ => (0, 11)
  | n + 1, a => if HE wo wy a ≠ 0 then (0, 11) else if HK wo wy a ≠ 4 then (a, 0) else if adB (LD wo wy (a + 2)) then rsv wo wy n (adA (LD wo wy (a + 2))) else (0, 11)
theorem rsv_err {wo wy : List Int} {a : Int} (h : HE wo wy a ≠ 0) (n : Nat) : rsv wo wy n a = (0, 11) := by
  cases n with
  | zero => rfl
  | succ n => unfold rsv; rw [if_pos h]
theorem rsv_end {wo wy : List Int} {a : Int} (h : HE wo wy a = 0) (g : HK wo wy a ≠ 4) (n : Nat) : rsv wo wy (n + 1) a = (a, 0) := by unfold rsv; rw [if_neg (by simpa using h), if_pos g]
theorem rsv_bad {wo wy : List Int} {a : Int} (h : HE wo wy a = 0) (g : HK wo wy a = 4) (k : adB (LD wo wy (a + 2)) = false) (n : Nat) : rsv wo wy n a = (0, 11) := by
  cases n with
  | zero => rfl
  | succ n => unfold rsv; rw [if_neg (by simpa using h), if_neg (by simpa using g), k]; rfl
theorem rsv_go {wo wy : List Int} {a : Int} (h : HE wo wy a = 0) (g : HK wo wy a = 4) (k : adB (LD wo wy (a + 2)) = true) (n : Nat) : rsv wo wy (n + 1) a = rsv wo wy n (adA (LD wo wy (a + 2))) := by
  show (if HE wo wy a ≠ 0 then (0, 11) else if HK wo wy a ≠ 4 then (a, 0) else if adB (LD wo wy (a + 2)) then rsv wo wy n (adA (LD wo wy (a + 2))) else (0, 11)) = _
  rw [if_neg (by simpa using h), if_neg (by simpa using g), k]
  rfl
/-- A Forward, and where it leads. -/
def fwd (wo wy : List Int) (a : Int) : Prop := HE wo wy a = 0 ∧ HK wo wy a = 4 ∧ adB (LD wo wy (a + 2)) = true
def nxt (wo wy : List Int) (a : Int) : Int := adA (LD wo wy (a + 2))
/-- Where Forwards lead to Forwards of one set alone, nothing is resolved. -/
theorem rsv_ring {wo wy : List Int} {S : List Int} (h : ∀ s ∈ S, fwd wo wy s ∧ nxt wo wy s ∈ S) : ∀ (n : Nat) (a : Int), a ∈ S → rsv wo wy n a = (0, 11) := by
  intro n
  induction n with
  | zero => intro a _; rfl
  | succ n ih =>
    intro a ha
    obtain ⟨⟨h0, h1, h2⟩, h3⟩ := h a ha
    rw [rsv_go h0 h1 h2]
    exact ih _ h3
/-- How far the set has come: n steps are left of N + 1. -/
structure Trail (wo wy : List Int) (N : Nat) (a0 : Int) (S : List Int) (a : Int) : Prop where
  nd : S.Nodup
  mem : ∀ s ∈ S, fwd wo wy s ∧ (nxt wo wy s ∈ S ∨ nxt wo wy s = a)
  fuel : rsv wo wy (N + 1) a0 = rsv wo wy (N + 1 - S.length) a
theorem trail_start (wo wy : List Int) (N : Nat) (a0 : Int) : Trail wo wy N a0 [] a0 := ⟨List.nodup_nil, fun s h => (by cases h), rfl⟩
theorem trail_ring {wo wy : List Int} {N : Nat} {a0 a : Int} {S : List Int} (h : Trail wo wy N a0 S a) (ha : a ∈ S) : rsv wo wy (N + 1) a0 = (0, 11) := by
  rw [h.fuel]
  refine rsv_ring (S := S) (fun s hs => ⟨(h.mem s hs).1, ?_⟩) _ a ha
  rcases (h.mem s hs).2 with h' | h'
  · exact h'
  · rw [h']; exact ha
/-- The word on which an object begins, counted through both spaces. -/
def slotA (wo : List Int) (a : Int) : Nat := if 16777216 ≤ a then wo.length + (a - 16777216).toNat else a.toNat
theorem slot_lt {wo wy : List Int} {a : Int} (h : HE wo wy a = 0) : slotA wo a < wo.length + wy.length := by
  obtain ⟨_, _, _, h1, h2⟩ := HE_bd h
  have h3 : 0 ≤ wordsI (HF wo wy a) := by unfold wordsI; split <;> omega
  have h4 := (hd_bd h).1
  obtain ⟨h5, h6⟩ := inB_iff.1 h4
  unfold slotA bsA wsA at *
  split at h6 <;> rename_i hh
  · rw [if_pos hh] at *
    simp only [if_pos hh] at *
    omega
  · simp only [if_neg hh] at *
    omega
theorem slot_inj {wo wy : List Int} {a b : Int} (ha : HE wo wy a = 0) (hb : HE wo wy b = 0) (h : slotA wo a = slotA wo b) : a = b := by
  obtain ⟨h5, h6⟩ := inB_iff.1 (hd_bd ha).1
  obtain ⟨h7, h8⟩ := inB_iff.1 (hd_bd hb).1
  unfold slotA at h
  unfold bsA at h5 h6 h7 h8
  unfold wsA at h6 h8
  by_cases h1 : 16777216 ≤ a
  · rw [if_pos h1] at h h5
    rw [if_pos h1, if_pos h1] at h6
    by_cases h2 : 16777216 ≤ b
    · rw [if_pos h2] at h h7
      omega
    · rw [if_neg h2] at h h7
      rw [if_neg h2, if_neg h2] at h8
      omega
  · rw [if_neg h1] at h h5
    rw [if_neg h1, if_neg h1] at h6
    by_cases h2 : 16777216 ≤ b
    · rw [if_pos h2] at h h7
      omega
    · rw [if_neg h2] at h h7
      omega
theorem nodup_bound : ∀ (n : Nat) (l : List Nat), l.Nodup → (∀ x ∈ l, x < n) → l.length ≤ n := by
  intro n l hd hb
  have := List.Nodup.length_le_of_subset hd (l₂ := List.range n) (fun x hx => List.mem_range.2 (hb x hx))
  simpa using this
theorem trail_len {wo wy : List Int} {S : List Int} (hd : S.Nodup) (h : ∀ s ∈ S, HE wo wy s = 0) : S.length ≤ wo.length + wy.length := by
  have h1 : (S.map (slotA wo)).Nodup := by
    rw [List.Nodup, List.pairwise_map]
    exact hd.imp_of_mem (fun ha hb hne e => hne (slot_inj (h _ ha) (h _ hb) e))
  have h2 := nodup_bound (wo.length + wy.length) (S.map (slotA wo)) h1 (fun x hx => by
    obtain ⟨s, hs, rfl⟩ := List.mem_map.1 hx
    exact slot_lt (h s hs))
  simpa using h2
/-- One Forward further. -/
theorem trail_step {wo wy : List Int} {a0 a : Int} {S : List Int} (h : Trail wo wy (wo.length + wy.length) a0 S a) (ha : a ∉ S) (hf : fwd wo wy a) : Trail wo wy (wo.length + wy.length) a0 (S ++ [a]) (nxt wo wy a) ∧ (S ++ [a]).length ≤ wo.length + wy.length := by
  have hnd : (S ++ [a]).Nodup := by
    rw [List.nodup_append]
    exact ⟨h.nd, by simp, fun x hx y hy => by
      simp only [List.mem_singleton] at hy
      rintro rfl
      exact ha (hy ▸ hx)⟩
  have hmem : ∀ s ∈ S ++ [a], fwd wo wy s := fun s hs => by
    rcases List.mem_append.1 hs with hs | hs
    · exact (h.mem s hs).1
    · rw [List.mem_singleton.1 hs]; exact hf
  have hl := trail_len hnd (fun s hs => (hmem s hs).1)
  refine ⟨⟨hnd, fun s hs => ⟨hmem s hs, ?_⟩, ?_⟩, hl⟩
  · rcases List.mem_append.1 hs with hs | hs
    · rcases (h.mem s hs).2 with h' | h'
      · exact .inl (List.mem_append.2 (.inl h'))
      · exact .inl (List.mem_append.2 (.inr (List.mem_singleton.2 h')))
    · rw [List.mem_singleton.1 hs]; exact .inr rfl
  · rw [h.fuel]
    rw [List.length_append, List.length_singleton] at hl ⊢
    obtain ⟨m, hm⟩ : ∃ m, wo.length + wy.length + 1 - S.length = m + 1 := ⟨wo.length + wy.length - S.length, by omega⟩
    rw [hm, rsv_go hf.1 hf.2.1 hf.2.2, show wo.length + wy.length + 1 - (S.length + 1) = m by omega]
    rfl
theorem trail_pos {wo wy : List Int} {a0 a : Int} {S : List Int} (h : Trail wo wy (wo.length + wy.length) a0 S a) : ∃ m, wo.length + wy.length + 1 - S.length = m + 1 := by
  have := trail_len h.nd (fun s hs => (h.mem s hs).1.1)
  exact ⟨wo.length + wy.length - S.length, by omega⟩
/-- Resolve. -/
def RA (wo wy : List Int) (a : Int) : Int := if LE wo wy a = 0 then (rsv wo wy (wo.length + wy.length + 1) a).1 else 0
def RE (wo wy : List Int) (a : Int) : Int := if LE wo wy a = 0 then (rsv wo wy (wo.length + wy.length + 1) a).2 else LE wo wy a
end Go.Proofs.Ytcmhgjkijegpnaa
namespace Go.Proofs.Ytcmhgjkijegpnaa
open Go.RowKit
set_option linter.unusedSimpArgs false
set_option linter.unusedVariables false

set_option maxRecDepth 100000 in
set_option maxHeartbeats 1000000 in
theorem mresolve_out {w : World} {bO bY : Nat} {lo ly : Int} {wo wy : List Int} {gO gY : Option Nat} (hm : MemAt w bO bY lo ly wo wy gO gY) (a : Int) (hl : LE wo wy a ≠ 0) :
    Calls Try.prog 16 #[.agg #[.pointer (some ⟨bO, 0, none⟩), .pointer (some ⟨bY, 0, none⟩)], .int .i64 a] w fun e w' => e = .returned (.tuple #[.int .i64 0, .int .i64 (LE wo wy a)]) ∧ Below w.heap.size w w' := by
  have hL := fun W (h : Below w.heap.size w W) => mload_any (hm.below h) a
  generalize LD wo wy a = x at *
  generalize LE wo wy a = y at *
  have hb1 : (y != 0) = true := by simpa using hl
  clear hm hl
  have hw0 : Below w.heap.size w w := Below.refl _ _
  go_enter Try.func16, Try.ntmps16
  go_wp2_with fail
  refine (hL _ (by (repeat (first | exact Below.refl _ _ | assumption | refine Below.drew ?_ | refine below_drewN ?_ _ | refine balloc ?_ _ | refine Below.setCell ?_ (by first | (simp; done) | (simp; omega) | omega) _ | refine bchain (by assumption) ?_)))).mono ?_
  rintro e w1 ⟨rfl, hb1⟩
  have hB1 : Below w.heap.size w w1 := by (repeat (first | exact Below.refl _ _ | assumption | refine Below.drew ?_ | refine below_drewN ?_ _ | refine balloc ?_ _ | refine Below.setCell ?_ (by first | (simp; done) | (simp; omega) | omega) _ | refine bchain (by assumption) ?_))
  have k0 : w1.heap[w.heap.size]? = some (.cells #[.pointer (some ⟨bO, 0, none⟩), .pointer (some ⟨bY, 0, none⟩)] 29 (0, 0)) := bblock hb1 (by repeat (first | exact alloc_at _ (by simp) | refine alloc_lt _ ?_))
  have hw1 := bchain hB1 hw0
  have hz_k0 : w.heap.size < w1.heap.size := (Array.getElem?_eq_some_iff.1 k0).1
  clear hB1
  have k0_0 : w1.cell? ⟨w.heap.size, 0, none⟩ = some (.pointer (some ⟨bO, 0, none⟩)) := by rw [cell_of_block k0]; rfl
  have k0_1 : w1.cell? ⟨w.heap.size, 1, none⟩ = some (.pointer (some ⟨bY, 0, none⟩)) := by rw [cell_of_block k0]; rfl
  go_wp2
  go_ret2
  exact ⟨rfl, by (repeat (first | exact Below.refl _ _ | assumption | refine Below.drew ?_ | refine below_drewN ?_ _ | refine balloc ?_ _ | refine Below.setCell ?_ (by first | (simp; done) | (simp; omega) | omega) _ | refine bchain (by assumption) ?_))⟩
theorem LE_bd {w : World} {bO bY : Nat} {lo ly : Int} {wo wy : List Int} {gO gY : Option Nat} (hm : MemAt w bO bY lo ly wo wy gO gY) {a : Int} (h : LE wo wy a = 0) : 0 ≤ a ∧ a ≤ 1099511627776 := by
  have hk1 := (hm.partOk a).b0
  have hk2 := (hm.partOk a).top
  have hk3 := (hm.partOk a).lm1
  unfold LE ioE at h
  cases h1 : inB (bsA a) (wsA wo wy a).length a
  · rw [h1] at h; cases h
  · obtain ⟨h2, h3⟩ := inB_iff.1 h1
    omega
theorem HE_rng {w : World} {bO bY : Nat} {lo ly : Int} {wo wy : List Int} {gO gY : Option Nat} (hm : MemAt w bO bY lo ly wo wy gO gY) {a : Int} (h : HE wo wy a = 0) : 0 ≤ a ∧ a ≤ 1099511627776 := by
  have hk1 := (hm.partOk a).b0
  have hk2 := (hm.partOk a).top
  have hk3 := (hm.partOk a).lm1
  obtain ⟨h2, h3⟩ := inB_iff.1 (hd_bd h).1
  omega
set_option maxRecDepth 100000 in
set_option maxHeartbeats 4000000 in
theorem mresolve_in {w : World} {bO bY : Nat} {lo ly : Int} {wo wy : List Int} {gO gY : Option Nat} (hm : MemAt w bO bY lo ly wo wy gO gY) (a0 : Int) (hl : LE wo wy a0 = 0) (r1 r2 : Int) (hr : rsv wo wy (wo.length + wy.length + 1) a0 = (r1, r2)) :
    Calls Try.prog 16 #[.agg #[.pointer (some ⟨bO, 0, none⟩), .pointer (some ⟨bY, 0, none⟩)], .int .i64 a0] w fun e w' => e = .returned (.tuple #[.int .i64 r1, .int .i64 r2]) ∧ Below w.heap.size w w' := by
  have hmm := @run_makeMap Try.prog
  have hH := fun W (h : Below w.heap.size w W) (c : Int) => mhdr_any (hm.below h) c
  have hL := fun W (h : Below w.heap.size w W) (c : Int) => mload_any (hm.below h) c
  have hu := fun c => hm.ldU c
  have hrg := fun (c : Int) (h : HE wo wy c = 0) => HE_rng hm h
  have hab := LE_bd hm hl
  have hLn : wo.length + wy.length ≤ 4398046511104 := by have := hm.okO.top; have := hm.okO.lm1; have := hm.okY.top; have := hm.okY.lm1; omega
  have hL0 := fun W h => hL W h a0
  rw [hl] at hL0
  have HR := Lib.hid hr
  have hml : maxLen = 9223372036854775807 := rfl
  clear hm hr hl
  have hw0 : Below w.heap.size w w := Below.refl _ _
  go_enter Try.func16, Try.ntmps16
  go_wp2_with fail
  refine (hL0 _ (by (repeat (first | exact Below.refl _ _ | assumption | refine Below.drew ?_ | refine below_drewN ?_ _ | refine balloc ?_ _ | refine Below.setCell ?_ (by first | (simp; done) | (simp; omega) | omega) _ | refine bchain (by assumption) ?_)))).mono ?_
  rintro e w1 ⟨rfl, hb1⟩
  have hB1 : Below w.heap.size w w1 := by (repeat (first | exact Below.refl _ _ | assumption | refine Below.drew ?_ | refine below_drewN ?_ _ | refine balloc ?_ _ | refine Below.setCell ?_ (by first | (simp; done) | (simp; omega) | omega) _ | refine bchain (by assumption) ?_))
  have k0 : w1.heap[w.heap.size]? = some (.cells #[.pointer (some ⟨bO, 0, none⟩), .pointer (some ⟨bY, 0, none⟩)] 29 (0, 0)) := bblock hb1 (by repeat (first | exact alloc_at _ (by simp) | refine alloc_lt _ ?_))
  have hw1 := bchain hB1 hw0
  have hz_k0 : w.heap.size < w1.heap.size := (Array.getElem?_eq_some_iff.1 k0).1
  clear hB1
  have k0_0 : w1.cell? ⟨w.heap.size, 0, none⟩ = some (.pointer (some ⟨bO, 0, none⟩)) := by rw [cell_of_block k0]; rfl
  have k0_1 : w1.cell? ⟨w.heap.size, 1, none⟩ = some (.pointer (some ⟨bY, 0, none⟩)) := by rw [cell_of_block k0]; rfl
  go_wp2_with fail
  have k0' := bblock (balloc (Below.refl _ w1) (.map #[] 0)) k0
  have hsn := seen_made w1
  have hbm : Below w.heap.size w (w1.alloc (.map #[] 0)) := balloc hw1 _
  have hw1s : w.heap.size < w1.heap.size := hz_k0
  clear k0 k0_0 k0_1 hz_k0
  go_loopg [1] (wo.length + wy.length + 1) (fun g p wr => ∃ (S : List Int) (x : Int), g = wo.length + wy.length + 1 - S.length ∧ S.length ≤ wo.length + wy.length ∧ p = .int .i64 x ∧ Trail wo wy (wo.length + wy.length) a0 S x ∧ (0 ≤ x ∧ x ≤ 1099511627776) ∧ SeenAt wr w1.heap.size S ∧ wr.heap[w.heap.size]? = some (.cells #[.pointer (some ⟨bO, 0, none⟩), .pointer (some ⟨bY, 0, none⟩)] 29 (0, 0)) ∧ Below w.heap.size w wr) 
  case atStart => exact ⟨[], a0, by simp, by simp, rfl, trail_start _ _ _ _, hab, hsn, k0', hbm⟩
  case round =>
    obtain ⟨S, x, hgk, hSl, rfl, htr, ⟨hx0, hx1⟩, hse, k0, hbr⟩ := hrel
    clear hsn k0' hbm hab
    have hlook := hse.look (x := x) ⟨by omega, by omega⟩
    have k0_0 : wr.cell? ⟨w.heap.size, 0, none⟩ = some (.pointer (some ⟨bO, 0, none⟩)) := by rw [cell_of_block k0]; rfl
    have k0_1 : wr.cell? ⟨w.heap.size, 1, none⟩ = some (.pointer (some ⟨bY, 0, none⟩)) := by rw [cell_of_block k0]; rfl
    by_cases hin : x ∈ S
    · rw [decide_eq_true hin] at hlook
      have e := HR.out.symm.trans (trail_ring htr hin)
      obtain ⟨rfl, rfl⟩ := Prod.mk.inj e
      clear HR e htr hin hgk hH hL hu hrg hL0
      go_wp2
      go_ret2
      exact ⟨rfl, hbr⟩
    · rw [decide_eq_false hin] at hlook
      have hne : w.heap.size ≠ w1.heap.size := by have := (Array.getElem?_eq_some_iff.1 k0).1; omega
      by_cases he : HE wo wy x = 0
      · by_cases hk4 : HK wo wy x = 4
        · cases had : adB (LD wo wy (x + 2))
          · have hH1 := fun W h => hH W h x
            rw [he, hk4] at hH1
            have hL1 := fun W h => hL W h (x + 2)
            have hA1 := fun W => address_any (LD wo wy (x + 2)) (hu (x + 2)) W
            rw [had] at hA1
            have e := HR.out.symm.trans (htr.fuel.trans (rsv_bad he hk4 had _))
            obtain ⟨rfl, rfl⟩ := Prod.mk.inj e
            clear HR e
            clear hH hL hu hrg hL0 htr he hk4 had
            generalize LD wo wy (x + 2) = xv at *
            generalize LE wo wy (x + 2) = yv at *
            generalize adA xv = av at *
            generalize HC wo wy x = hc at *
            generalize HF wo wy x = hf at *
            have HIN := Lib.hid hin
            have HG := Lib.hid hgk
            clear hin hgk
            go_wp2_with (at_mapUpdate; refine wpList_seen rfl _ _ _ rfl w1.heap.size S rfl hse (by omega) x rfl rfl ⟨by omega, by omega⟩ ?_; intro w3 hs3 hg3; have hb3 : Below w1.heap.size wr w3 := (Below.refl _ wr).grown hg3 (by have := hse.lt; omega) (fun k e => by cases e; exact Nat.le_refl _); have k0 := (hb3.block w.heap.size (by omega)).trans k0; have hbw3 : Below w.heap.size w w3 := hbr.trans (hb3.mono (by omega)); have k0_0 : w3.cell? ⟨w.heap.size, 0, none⟩ = some (.pointer (some ⟨bO, 0, none⟩)) := (by rw [cell_of_block k0]; rfl); have k0_1 : w3.cell? ⟨w.heap.size, 1, none⟩ = some (.pointer (some ⟨bY, 0, none⟩)) := (by rw [cell_of_block k0]; rfl))
            refine (hH1 _ hbw3).mono ?_
            rintro e w4 ⟨rfl, hb4⟩
            have k0 := bblock hb4 k0
            have hs4 := hs3.below hb4
            have hbw4 := bchain hb4 hbw3
            have hz4 : w.heap.size < w4.heap.size := (Array.getElem?_eq_some_iff.1 k0).1
            clear k0_0 k0_1 hb4 hbw3 hs3 hlook hse hb3 hg3 hH1
            have k0_0 : w4.cell? ⟨w.heap.size, 0, none⟩ = some (.pointer (some ⟨bO, 0, none⟩)) := (by rw [cell_of_block k0]; rfl)
            have k0_1 : w4.cell? ⟨w.heap.size, 1, none⟩ = some (.pointer (some ⟨bY, 0, none⟩)) := (by rw [cell_of_block k0]; rfl)
            go_wp2_with fail
            refine (hL1 _ (by (repeat (first | exact Below.refl _ _ | assumption | refine Below.drew ?_ | refine below_drewN ?_ _ | refine balloc ?_ _ | refine Below.setCell ?_ (by first | (simp; done) | (simp; omega) | omega) _ | refine bchain (by assumption) ?_)))).mono ?_
            rintro e w5 ⟨rfl, hb5⟩
            have hB5 : Below w4.heap.size w4 w5 := by (repeat (first | exact Below.refl _ _ | assumption | refine Below.drew ?_ | refine below_drewN ?_ _ | refine balloc ?_ _ | refine Below.setCell ?_ (by first | (simp; done) | (simp; omega) | omega) _ | refine bchain (by assumption) ?_))
            have k0 := bblock hB5 k0
            have hs5 := hs4.below hB5
            have hbw5 := bchain hB5 hbw4
            clear k0_0 k0_1
            have k0_0 : w5.cell? ⟨w.heap.size, 0, none⟩ = some (.pointer (some ⟨bO, 0, none⟩)) := (by rw [cell_of_block k0]; rfl)
            have k0_1 : w5.cell? ⟨w.heap.size, 1, none⟩ = some (.pointer (some ⟨bY, 0, none⟩)) := (by rw [cell_of_block k0]; rfl)
            go_wp2_with fail
            refine (hA1 _).mono ?_
            rintro e w6 ⟨rfl, hb6⟩
            have k0 := bblock hb6 k0
            have hs6 := hs5.below hb6
            have hbw6 := bchain hb6 hbw5
            clear hb5 hs4 hs5 hb6 hB5
            go_wp2
            go_ret2
            exact ⟨rfl, by (repeat (first | exact Below.refl _ _ | assumption | refine Below.drew ?_ | refine below_drewN ?_ _ | refine balloc ?_ _ | refine Below.setCell ?_ (by first | (simp; done) | (simp; omega) | omega) _ | refine bchain (by assumption) ?_))⟩
          · have hH1 := fun W h => hH W h x
            rw [he, hk4] at hH1
            have hL1 := fun W h => hL W h (x + 2)
            have hA1 := fun W => address_any (LD wo wy (x + 2)) (hu (x + 2)) W
            rw [had] at hA1
            obtain ⟨htr2, hl2⟩ := trail_step htr hin ⟨he, hk4, had⟩
            have hnb : 0 ≤ nxt wo wy x ∧ nxt wo wy x ≤ 1099511627776 := by
              have h5 := (adB_iff.1 had).2
              have h6 := (hu (x + 2)).nonneg
              unfold nxt adA
              rw [had, if_pos rfl]
              omega
            have hadx : adA (LD wo wy (x + 2)) = nxt wo wy x := rfl
            rw [hadx] at hA1
            have hlen : (S ++ [x]).length = S.length + 1 := by simp
            have HLN := Lib.hid hlen
            clear htr he hk4 had hadx hlen hL0
            generalize LD wo wy (x + 2) = xv at *
            generalize LE wo wy (x + 2) = yv at *
            generalize nxt wo wy x = av at *
            generalize HC wo wy x = hc at *
            generalize HF wo wy x = hf at *
            have HIN := Lib.hid hin
            have HG := Lib.hid hgk
            clear hin hgk
            go_wp2_with (at_mapUpdate; refine wpList_seen rfl _ _ _ rfl w1.heap.size S rfl hse (by omega) x rfl rfl ⟨by omega, by omega⟩ ?_; intro w3 hs3 hg3; have hb3 : Below w1.heap.size wr w3 := (Below.refl _ wr).grown hg3 (by have := hse.lt; omega) (fun k e => by cases e; exact Nat.le_refl _); have k0 := (hb3.block w.heap.size (by omega)).trans k0; have hbw3 : Below w.heap.size w w3 := hbr.trans (hb3.mono (by omega)); have k0_0 : w3.cell? ⟨w.heap.size, 0, none⟩ = some (.pointer (some ⟨bO, 0, none⟩)) := (by rw [cell_of_block k0]; rfl); have k0_1 : w3.cell? ⟨w.heap.size, 1, none⟩ = some (.pointer (some ⟨bY, 0, none⟩)) := (by rw [cell_of_block k0]; rfl))
            refine (hH1 _ hbw3).mono ?_
            rintro e w4 ⟨rfl, hb4⟩
            have k0 := bblock hb4 k0
            have hs4 := hs3.below hb4
            have hbw4 := bchain hb4 hbw3
            have hz4 : w.heap.size < w4.heap.size := (Array.getElem?_eq_some_iff.1 k0).1
            clear k0_0 k0_1 hb4 hbw3 hs3 hlook hse hb3 hg3 hH1
            have k0_0 : w4.cell? ⟨w.heap.size, 0, none⟩ = some (.pointer (some ⟨bO, 0, none⟩)) := (by rw [cell_of_block k0]; rfl)
            have k0_1 : w4.cell? ⟨w.heap.size, 1, none⟩ = some (.pointer (some ⟨bY, 0, none⟩)) := (by rw [cell_of_block k0]; rfl)
            go_wp2_with fail
            refine (hL1 _ (by (repeat (first | exact Below.refl _ _ | assumption | refine Below.drew ?_ | refine below_drewN ?_ _ | refine balloc ?_ _ | refine Below.setCell ?_ (by first | (simp; done) | (simp; omega) | omega) _ | refine bchain (by assumption) ?_)))).mono ?_
            rintro e w5 ⟨rfl, hb5⟩
            have hB5 : Below w4.heap.size w4 w5 := by (repeat (first | exact Below.refl _ _ | assumption | refine Below.drew ?_ | refine below_drewN ?_ _ | refine balloc ?_ _ | refine Below.setCell ?_ (by first | (simp; done) | (simp; omega) | omega) _ | refine bchain (by assumption) ?_))
            have k0 := bblock hB5 k0
            have hs5 := hs4.below hB5
            have hbw5 := bchain hB5 hbw4
            clear k0_0 k0_1
            have k0_0 : w5.cell? ⟨w.heap.size, 0, none⟩ = some (.pointer (some ⟨bO, 0, none⟩)) := (by rw [cell_of_block k0]; rfl)
            have k0_1 : w5.cell? ⟨w.heap.size, 1, none⟩ = some (.pointer (some ⟨bY, 0, none⟩)) := (by rw [cell_of_block k0]; rfl)
            go_wp2_with fail
            refine (hA1 _).mono ?_
            rintro e w6 ⟨rfl, hb6⟩
            have k0 := bblock hb6 k0
            have hs6 := hs5.below hb6
            have hbw6 := bchain hb6 hbw5
            clear hb5 hs4 hs5 hb6 hB5
            go_wp2
            go_roundg (wo.length + wy.length + 1 - (S ++ [x]).length)
            case measure => have := HG.out; have := HLN.out; omega
            case rel => exact ⟨S ++ [x], av, rfl, hl2, rfl, htr2, hnb, hs6, k0, hbw6⟩
        · have hH1 := fun W h => hH W h x
          rw [he] at hH1
          obtain ⟨m, hm⟩ := trail_pos htr
          have e := HR.out.symm.trans (htr.fuel.trans ((congrArg (fun k => rsv wo wy k x) hm).trans (rsv_end he hk4 m)))
          obtain ⟨rfl, rfl⟩ := Prod.mk.inj e
          have hb1 : (HK wo wy r1 != 4) = true := by simpa using hk4
          clear HR e hm hH hL hu hrg hL0 htr he hk4
          generalize HK wo wy r1 = hk at *
          generalize HC wo wy r1 = hc at *
          generalize HF wo wy r1 = hf at *
          have HIN := Lib.hid hin
          have HG := Lib.hid hgk
          clear hin hgk
          go_wp2_with (at_mapUpdate; refine wpList_seen rfl _ _ _ rfl w1.heap.size S rfl hse (by omega) r1 rfl rfl ⟨by omega, by omega⟩ ?_; intro w3 hs3 hg3; have hb3 : Below w1.heap.size wr w3 := (Below.refl _ wr).grown hg3 (by have := hse.lt; omega) (fun k e => by cases e; exact Nat.le_refl _); have k0 := (hb3.block w.heap.size (by omega)).trans k0; have hbw3 : Below w.heap.size w w3 := hbr.trans (hb3.mono (by omega)); have k0_0 : w3.cell? ⟨w.heap.size, 0, none⟩ = some (.pointer (some ⟨bO, 0, none⟩)) := (by rw [cell_of_block k0]; rfl); have k0_1 : w3.cell? ⟨w.heap.size, 1, none⟩ = some (.pointer (some ⟨bY, 0, none⟩)) := (by rw [cell_of_block k0]; rfl))
          refine (hH1 _ hbw3).mono ?_
          rintro e w4 ⟨rfl, hb4⟩
          have k0 := bblock hb4 k0
          have hs4 := hs3.below hb4
          have hbw4 := bchain hb4 hbw3
          have hz4 : w.heap.size < w4.heap.size := (Array.getElem?_eq_some_iff.1 k0).1
          clear k0_0 k0_1 hb4 hbw3 hs3 hlook hse hb3 hg3 hH1
          have k0_0 : w4.cell? ⟨w.heap.size, 0, none⟩ = some (.pointer (some ⟨bO, 0, none⟩)) := (by rw [cell_of_block k0]; rfl)
          have k0_1 : w4.cell? ⟨w.heap.size, 1, none⟩ = some (.pointer (some ⟨bY, 0, none⟩)) := (by rw [cell_of_block k0]; rfl)
          go_wp2
          go_ret2
          exact ⟨rfl, by (repeat (first | exact Below.refl _ _ | assumption | refine Below.drew ?_ | refine below_drewN ?_ _ | refine balloc ?_ _ | refine Below.setCell ?_ (by first | (simp; done) | (simp; omega) | omega) _ | refine bchain (by assumption) ?_))⟩
      · have hH1 := fun W h => hH W h x
        have e := HR.out.symm.trans (htr.fuel.trans (rsv_err he _))
        obtain ⟨rfl, rfl⟩ := Prod.mk.inj e
        clear HR e
        have hb1 : (HE wo wy x != 0) = true := by simpa using he
        clear hH hL hu hrg hL0 htr
        generalize HK wo wy x = hk at *
        generalize HC wo wy x = hc at *
        generalize HF wo wy x = hf at *
        generalize HE wo wy x = er at *
        clear he
        have HIN := Lib.hid hin
        have HG := Lib.hid hgk
        clear hin hgk
        go_wp2_with (at_mapUpdate; refine wpList_seen rfl _ _ _ rfl w1.heap.size S rfl hse (by omega) x rfl rfl ⟨by omega, by omega⟩ ?_; intro w3 hs3 hg3; have hb3 : Below w1.heap.size wr w3 := (Below.refl _ wr).grown hg3 (by have := hse.lt; omega) (fun k e => by cases e; exact Nat.le_refl _); have k0 := (hb3.block w.heap.size (by omega)).trans k0; have hbw3 : Below w.heap.size w w3 := hbr.trans (hb3.mono (by omega)); have k0_0 : w3.cell? ⟨w.heap.size, 0, none⟩ = some (.pointer (some ⟨bO, 0, none⟩)) := (by rw [cell_of_block k0]; rfl); have k0_1 : w3.cell? ⟨w.heap.size, 1, none⟩ = some (.pointer (some ⟨bY, 0, none⟩)) := (by rw [cell_of_block k0]; rfl))
        refine (hH1 _ hbw3).mono ?_
        rintro e w4 ⟨rfl, hb4⟩
        have k0 := bblock hb4 k0
        have hs4 := hs3.below hb4
        have hbw4 := bchain hb4 hbw3
        have hz4 : w.heap.size < w4.heap.size := (Array.getElem?_eq_some_iff.1 k0).1
        clear k0_0 k0_1 hb4 hbw3 hs3 hlook hse hb3 hg3 hH1
        have k0_0 : w4.cell? ⟨w.heap.size, 0, none⟩ = some (.pointer (some ⟨bO, 0, none⟩)) := (by rw [cell_of_block k0]; rfl)
        have k0_1 : w4.cell? ⟨w.heap.size, 1, none⟩ = some (.pointer (some ⟨bY, 0, none⟩)) := (by rw [cell_of_block k0]; rfl)
        go_wp2
        go_ret2
        exact ⟨rfl, by (repeat (first | exact Below.refl _ _ | assumption | refine Below.drew ?_ | refine below_drewN ?_ _ | refine balloc ?_ _ | refine Below.setCell ?_ (by first | (simp; done) | (simp; omega) | omega) _ | refine bchain (by assumption) ?_))⟩
end Go.Proofs.Ytcmhgjkijegpnaa
namespace Go.Proofs.Ytcmhgjkijegpnaa
open Go.RowKit
set_option linter.unusedSimpArgs false
set_option linter.unusedVariables false

theorem mresolve_any {w : World} {bO bY : Nat} {lo ly : Int} {wo wy : List Int} {gO gY : Option Nat} (hm : MemAt w bO bY lo ly wo wy gO gY) (a : Int) : Calls Try.prog 16 #[.agg #[.pointer (some ⟨bO, 0, none⟩), .pointer (some ⟨bY, 0, none⟩)], .int .i64 a] w fun e w' => e = .returned (.tuple #[.int .i64 (RA wo wy a), .int .i64 (RE wo wy a)]) ∧ Below w.heap.size w w' := by
  unfold RA RE
  by_cases hl : LE wo wy a = 0
  · rw [if_pos hl, if_pos hl]
    exact mresolve_in hm a hl _ _ rfl
  · rw [if_neg hl, if_neg hl]
    exact mresolve_out hm a hl
def tfB (wo wy : List Int) (a t : Int) : Bool := decide (RE wo wy t ≠ 0 ∨ RA wo wy t = a)
def tfE (wo wy : List Int) (a t : Int) : Int := if isE (fun k => k != 4) wo wy a ≠ 0 then isE (fun k => k != 4) wo wy a else if tfB wo wy a t then 1 else 0
def tfM (wo wy : List Int) (a t : Int) : List Int × List Int := if tfE wo wy a t = 0 then wrM wo wy a 4 [faW t] else (wo, wy)
set_option maxRecDepth 100000 in
set_option maxHeartbeats 1000000 in
theorem tofwd_e {w : World} {bO bY : Nat} {lo ly : Int} {wo wy : List Int} {gO gY : Option Nat} (hm : MemAt w bO bY lo ly wo wy gO gY) (a t : Int) (he : isE (fun k => k != 4) wo wy a ≠ 0) :
    Calls Try.prog 18 #[.agg #[.pointer (some ⟨bO, 0, none⟩), .pointer (some ⟨bY, 0, none⟩)], .int .i64 a, .int .i64 t] w fun e w' => e = .returned (.int .i64 (isE (fun k => k != 4) wo wy a)) ∧ MemAt w' bO bY lo ly (wo) (wy) gO gY ∧ Mods (MS bO bY gO gY) w w' := by
  have hH := fun (W : World) (H : MemAt W bO bY lo ly wo wy gO gY) => is_nofw H a
  generalize isE (fun k => k != 4) wo wy a = er at *
  have hb1 : (er != 0) = true := by simpa using he
  clear he
  have hM0 : Mods (MS bO bY gO gY) w w := Mods.refl _ _
  have hm0 := hm
  have hn0 := hm.fresh
  go_enter Try.func18, Try.ntmps18
  go_wp2_with fail
  refine (hH _ (hm0.below (by (repeat (first | exact Below.refl _ _ | assumption | refine Below.drew ?_ | refine below_drewN ?_ _ | refine balloc ?_ _ | refine Below.setCell ?_ (by first | (simp; done) | (simp; omega) | omega) _ | refine bchain (by assumption) ?_))))).mono ?_
  rintro e w1 ⟨rfl, hb1⟩
  have hB1 : Below w.heap.size w w1 := by (repeat (first | exact Below.refl _ _ | assumption | refine Below.drew ?_ | refine below_drewN ?_ _ | refine balloc ?_ _ | refine Below.setCell ?_ (by first | (simp; done) | (simp; omega) | omega) _ | refine bchain (by assumption) ?_))
  have k0 : w1.heap[w.heap.size]? = some (.cells #[.pointer (some ⟨bO, 0, none⟩), .pointer (some ⟨bY, 0, none⟩)] 29 (0, 0)) := bblock hb1 (by repeat (first | exact alloc_at _ (by simp) | refine alloc_lt _ ?_))
  have hM1 := Mods.chain hB1 hM0
  have hm1 := hm0.below hB1
  have hs1 : w.heap.size ≤ w1.heap.size := hM1.size
  have hz_k0 : w.heap.size < w1.heap.size := (Array.getElem?_eq_some_iff.1 k0).1
  clear hB1 hm0 hM0 hb1
  have k0_0 : w1.cell? ⟨w.heap.size, 0, none⟩ = some (.pointer (some ⟨bO, 0, none⟩)) := by rw [cell_of_block k0]; rfl
  have k0_1 : w1.cell? ⟨w.heap.size, 1, none⟩ = some (.pointer (some ⟨bY, 0, none⟩)) := by rw [cell_of_block k0]; rfl
  go_wp2
  go_ret
  exact ⟨rfl, hm1.below (by (repeat (first | exact Below.refl _ _ | assumption | refine Below.drew ?_ | refine below_drewN ?_ _ | refine balloc ?_ _ | refine Below.setCell ?_ (by first | (simp; done) | (simp; omega) | omega) _ | refine bchain (by assumption) ?_))), Mods.chain (show Below w1.heap.size w1 _ from by (repeat (first | exact Below.refl _ _ | assumption | refine Below.drew ?_ | refine below_drewN ?_ _ | refine balloc ?_ _ | refine Below.setCell ?_ (by first | (simp; done) | (simp; omega) | omega) _ | refine bchain (by assumption) ?_))) hM1⟩
set_option maxRecDepth 100000 in
set_option maxHeartbeats 1000000 in
theorem tofwd_r {w : World} {bO bY : Nat} {lo ly : Int} {wo wy : List Int} {gO gY : Option Nat} (hm : MemAt w bO bY lo ly wo wy gO gY) (a t : Int) (he : isE (fun k => k != 4) wo wy a = 0) (hr : RE wo wy t ≠ 0) :
    Calls Try.prog 18 #[.agg #[.pointer (some ⟨bO, 0, none⟩), .pointer (some ⟨bY, 0, none⟩)], .int .i64 a, .int .i64 t] w fun e w' => e = .returned (.int .i64 1) ∧ MemAt w' bO bY lo ly (wo) (wy) gO gY ∧ Mods (MS bO bY gO gY) w w' := by
  have hH := fun (W : World) (H : MemAt W bO bY lo ly wo wy gO gY) => is_nofw H a
  have hR := fun (W : World) (H : MemAt W bO bY lo ly wo wy gO gY) => mresolve_any H t
  rw [he] at hH
  generalize RE wo wy t = er at *
  generalize RA wo wy t = ra at *
  have hb1 : (er != 0) = true := by simpa using hr
  clear he hr
  have hM0 : Mods (MS bO bY gO gY) w w := Mods.refl _ _
  have hm0 := hm
  have hn0 := hm.fresh
  go_enter Try.func18, Try.ntmps18
  go_wp2_with fail
  refine (hH _ (hm0.below (by (repeat (first | exact Below.refl _ _ | assumption | refine Below.drew ?_ | refine below_drewN ?_ _ | refine balloc ?_ _ | refine Below.setCell ?_ (by first | (simp; done) | (simp; omega) | omega) _ | refine bchain (by assumption) ?_))))).mono ?_
  rintro e w1 ⟨rfl, hb1⟩
  have hB1 : Below w.heap.size w w1 := by (repeat (first | exact Below.refl _ _ | assumption | refine Below.drew ?_ | refine below_drewN ?_ _ | refine balloc ?_ _ | refine Below.setCell ?_ (by first | (simp; done) | (simp; omega) | omega) _ | refine bchain (by assumption) ?_))
  have k0 : w1.heap[w.heap.size]? = some (.cells #[.pointer (some ⟨bO, 0, none⟩), .pointer (some ⟨bY, 0, none⟩)] 29 (0, 0)) := bblock hb1 (by repeat (first | exact alloc_at _ (by simp) | refine alloc_lt _ ?_))
  have hM1 := Mods.chain hB1 hM0
  have hm1 := hm0.below hB1
  have hs1 : w.heap.size ≤ w1.heap.size := hM1.size
  have hz_k0 : w.heap.size < w1.heap.size := (Array.getElem?_eq_some_iff.1 k0).1
  clear hB1 hm0 hM0 hb1
  have k0_0 : w1.cell? ⟨w.heap.size, 0, none⟩ = some (.pointer (some ⟨bO, 0, none⟩)) := by rw [cell_of_block k0]; rfl
  have k0_1 : w1.cell? ⟨w.heap.size, 1, none⟩ = some (.pointer (some ⟨bY, 0, none⟩)) := by rw [cell_of_block k0]; rfl
  go_wp2_with fail
  refine (hR _ (hm1.below (by (repeat (first | exact Below.refl _ _ | assumption | refine Below.drew ?_ | refine below_drewN ?_ _ | refine balloc ?_ _ | refine Below.setCell ?_ (by first | (simp; done) | (simp; omega) | omega) _ | refine bchain (by assumption) ?_))))).mono ?_
  rintro e w2 ⟨rfl, hb2⟩
  have hB2 : Below w1.heap.size w1 w2 := by (repeat (first | exact Below.refl _ _ | assumption | refine Below.drew ?_ | refine below_drewN ?_ _ | refine balloc ?_ _ | refine Below.setCell ?_ (by first | (simp; done) | (simp; omega) | omega) _ | refine bchain (by assumption) ?_))
  have k0 := bblock hB2 k0
  have hM2 := Mods.chain hB2 hM1
  have hm2 := hm1.below hB2
  have hs2 : w.heap.size ≤ w2.heap.size := hM2.size
  clear hz_k0
  have hz_k0 : w.heap.size < w2.heap.size := (Array.getElem?_eq_some_iff.1 k0).1
  clear hB2 hm1 hM1 hb2
  clear k0_0 k0_1
  have k0_0 : w2.cell? ⟨w.heap.size, 0, none⟩ = some (.pointer (some ⟨bO, 0, none⟩)) := by rw [cell_of_block k0]; rfl
  have k0_1 : w2.cell? ⟨w.heap.size, 1, none⟩ = some (.pointer (some ⟨bY, 0, none⟩)) := by rw [cell_of_block k0]; rfl
  go_wp2
  go_ret
  exact ⟨rfl, hm2.below (by (repeat (first | exact Below.refl _ _ | assumption | refine Below.drew ?_ | refine below_drewN ?_ _ | refine balloc ?_ _ | refine Below.setCell ?_ (by first | (simp; done) | (simp; omega) | omega) _ | refine bchain (by assumption) ?_))), Mods.chain (show Below w2.heap.size w2 _ from by (repeat (first | exact Below.refl _ _ | assumption | refine Below.drew ?_ | refine below_drewN ?_ _ | refine balloc ?_ _ | refine Below.setCell ?_ (by first | (simp; done) | (simp; omega) | omega) _ | refine bchain (by assumption) ?_))) hM2⟩
set_option maxRecDepth 100000 in
set_option maxHeartbeats 1000000 in
theorem tofwd_s {w : World} {bO bY : Nat} {lo ly : Int} {wo wy : List Int} {gO gY : Option Nat} (hm : MemAt w bO bY lo ly wo wy gO gY) (a t : Int) (he : isE (fun k => k != 4) wo wy a = 0) (hr : RE wo wy t = 0) (hs : RA wo wy t = a) :
    Calls Try.prog 18 #[.agg #[.pointer (some ⟨bO, 0, none⟩), .pointer (some ⟨bY, 0, none⟩)], .int .i64 a, .int .i64 t] w fun e w' => e = .returned (.int .i64 1) ∧ MemAt w' bO bY lo ly (wo) (wy) gO gY ∧ Mods (MS bO bY gO gY) w w' := by
  have hH := fun (W : World) (H : MemAt W bO bY lo ly wo wy gO gY) => is_nofw H a
  have hR := fun (W : World) (H : MemAt W bO bY lo ly wo wy gO gY) => mresolve_any H t
  rw [he] at hH
  rw [hr, hs] at hR
  clear he hr hs
  have hM0 : Mods (MS bO bY gO gY) w w := Mods.refl _ _
  have hm0 := hm
  have hn0 := hm.fresh
  go_enter Try.func18, Try.ntmps18
  go_wp2_with fail
  refine (hH _ (hm0.below (by (repeat (first | exact Below.refl _ _ | assumption | refine Below.drew ?_ | refine below_drewN ?_ _ | refine balloc ?_ _ | refine Below.setCell ?_ (by first | (simp; done) | (simp; omega) | omega) _ | refine bchain (by assumption) ?_))))).mono ?_
  rintro e w1 ⟨rfl, hb1⟩
  have hB1 : Below w.heap.size w w1 := by (repeat (first | exact Below.refl _ _ | assumption | refine Below.drew ?_ | refine below_drewN ?_ _ | refine balloc ?_ _ | refine Below.setCell ?_ (by first | (simp; done) | (simp; omega) | omega) _ | refine bchain (by assumption) ?_))
  have k0 : w1.heap[w.heap.size]? = some (.cells #[.pointer (some ⟨bO, 0, none⟩), .pointer (some ⟨bY, 0, none⟩)] 29 (0, 0)) := bblock hb1 (by repeat (first | exact alloc_at _ (by simp) | refine alloc_lt _ ?_))
  have hM1 := Mods.chain hB1 hM0
  have hm1 := hm0.below hB1
  have hs1 : w.heap.size ≤ w1.heap.size := hM1.size
  have hz_k0 : w.heap.size < w1.heap.size := (Array.getElem?_eq_some_iff.1 k0).1
  clear hB1 hm0 hM0 hb1
  have k0_0 : w1.cell? ⟨w.heap.size, 0, none⟩ = some (.pointer (some ⟨bO, 0, none⟩)) := by rw [cell_of_block k0]; rfl
  have k0_1 : w1.cell? ⟨w.heap.size, 1, none⟩ = some (.pointer (some ⟨bY, 0, none⟩)) := by rw [cell_of_block k0]; rfl
  go_wp2_with fail
  refine (hR _ (hm1.below (by (repeat (first | exact Below.refl _ _ | assumption | refine Below.drew ?_ | refine below_drewN ?_ _ | refine balloc ?_ _ | refine Below.setCell ?_ (by first | (simp; done) | (simp; omega) | omega) _ | refine bchain (by assumption) ?_))))).mono ?_
  rintro e w2 ⟨rfl, hb2⟩
  have hB2 : Below w1.heap.size w1 w2 := by (repeat (first | exact Below.refl _ _ | assumption | refine Below.drew ?_ | refine below_drewN ?_ _ | refine balloc ?_ _ | refine Below.setCell ?_ (by first | (simp; done) | (simp; omega) | omega) _ | refine bchain (by assumption) ?_))
  have k0 := bblock hB2 k0
  have hM2 := Mods.chain hB2 hM1
  have hm2 := hm1.below hB2
  have hs2 : w.heap.size ≤ w2.heap.size := hM2.size
  clear hz_k0
  have hz_k0 : w.heap.size < w2.heap.size := (Array.getElem?_eq_some_iff.1 k0).1
  clear hB2 hm1 hM1 hb2
  clear k0_0 k0_1
  have k0_0 : w2.cell? ⟨w.heap.size, 0, none⟩ = some (.pointer (some ⟨bO, 0, none⟩)) := by rw [cell_of_block k0]; rfl
  have k0_1 : w2.cell? ⟨w.heap.size, 1, none⟩ = some (.pointer (some ⟨bY, 0, none⟩)) := by rw [cell_of_block k0]; rfl
  go_wp2
  go_ret
  exact ⟨rfl, hm2.below (by (repeat (first | exact Below.refl _ _ | assumption | refine Below.drew ?_ | refine below_drewN ?_ _ | refine balloc ?_ _ | refine Below.setCell ?_ (by first | (simp; done) | (simp; omega) | omega) _ | refine bchain (by assumption) ?_))), Mods.chain (show Below w2.heap.size w2 _ from by (repeat (first | exact Below.refl _ _ | assumption | refine Below.drew ?_ | refine below_drewN ?_ _ | refine balloc ?_ _ | refine Below.setCell ?_ (by first | (simp; done) | (simp; omega) | omega) _ | refine bchain (by assumption) ?_))) hM2⟩
set_option maxRecDepth 100000 in
set_option maxHeartbeats 1000000 in
theorem tofwd_y {w : World} {bO bY : Nat} {lo ly : Int} {wo wy : List Int} {gO gY : Option Nat} (hm : MemAt w bO bY lo ly wo wy gO gY) (a t : Int) (he : isE (fun k => k != 4) wo wy a = 0) (hr : RE wo wy t = 0) (hs : RA wo wy t ≠ a) :
    Calls Try.prog 18 #[.agg #[.pointer (some ⟨bO, 0, none⟩), .pointer (some ⟨bY, 0, none⟩)], .int .i64 a, .int .i64 t] w fun e w' => e = .returned (.int .i64 0) ∧ MemAt w' bO bY lo ly ((wrM wo wy a 4 [faW t]).1) ((wrM wo wy a 4 [faW t]).2) gO gY ∧ Mods (MS bO bY gO gY) w w' := by
  have hH := fun (W : World) (H : MemAt W bO bY lo ly wo wy gO gY) => is_nofw H a
  have hR := fun (W : World) (H : MemAt W bO bY lo ly wo wy gO gY) => mresolve_any H t
  rw [he] at hH
  rw [hr] at hR
  have hF := fun W => fromaddr_any t W
  have hpu : ∀ x ∈ [faW t], U64 x := by
    intro x hx
    rw [List.mem_singleton.1 hx]
    exact faU t
  have hWr := fun (W : World) (H : MemAt W bO bY lo ly wo wy gO gY) => write_any (H.below (balloc (Below.refl _ W) (.cells #[.int .u64 (faW t)] 56))) a 4 (.inr rfl) W.heap.size 1 [faW t] (fun i x hx => by rw [cell_of_block (alloc_get _ _)]; rcases i with _ | i <;> simp at hx ⊢ <;> exact hx) hpu (H.fresh _ (Nat.le_refl _)) (by simp) (by omega) (isE_zero he).1
  have hb2 : (RA wo wy t == a) = false := by simpa using hs
  generalize (wrM wo wy a 4 [faW t]).1 = wo2 at *
  generalize (wrM wo wy a 4 [faW t]).2 = wy2 at *
  generalize RA wo wy t = ra at *
  generalize faW t = fw at *
  generalize faE t = fe at *
  clear he hr hs hpu
  have hM0 : Mods (MS bO bY gO gY) w w := Mods.refl _ _
  have hm0 := hm
  have hn0 := hm.fresh
  go_enter Try.func18, Try.ntmps18
  go_wp2_with fail
  refine (hH _ (hm0.below (by (repeat (first | exact Below.refl _ _ | assumption | refine Below.drew ?_ | refine below_drewN ?_ _ | refine balloc ?_ _ | refine Below.setCell ?_ (by first | (simp; done) | (simp; omega) | omega) _ | refine bchain (by assumption) ?_))))).mono ?_
  rintro e w1 ⟨rfl, hb1⟩
  have hB1 : Below w.heap.size w w1 := by (repeat (first | exact Below.refl _ _ | assumption | refine Below.drew ?_ | refine below_drewN ?_ _ | refine balloc ?_ _ | refine Below.setCell ?_ (by first | (simp; done) | (simp; omega) | omega) _ | refine bchain (by assumption) ?_))
  have k0 : w1.heap[w.heap.size]? = some (.cells #[.pointer (some ⟨bO, 0, none⟩), .pointer (some ⟨bY, 0, none⟩)] 29 (0, 0)) := bblock hb1 (by repeat (first | exact alloc_at _ (by simp) | refine alloc_lt _ ?_))
  have hM1 := Mods.chain hB1 hM0
  have hm1 := hm0.below hB1
  have hs1 : w.heap.size ≤ w1.heap.size := hM1.size
  have hz_k0 : w.heap.size < w1.heap.size := (Array.getElem?_eq_some_iff.1 k0).1
  clear hB1 hm0 hM0 hb1
  have k0_0 : w1.cell? ⟨w.heap.size, 0, none⟩ = some (.pointer (some ⟨bO, 0, none⟩)) := by rw [cell_of_block k0]; rfl
  have k0_1 : w1.cell? ⟨w.heap.size, 1, none⟩ = some (.pointer (some ⟨bY, 0, none⟩)) := by rw [cell_of_block k0]; rfl
  go_wp2_with fail
  refine (hR _ (hm1.below (by (repeat (first | exact Below.refl _ _ | assumption | refine Below.drew ?_ | refine below_drewN ?_ _ | refine balloc ?_ _ | refine Below.setCell ?_ (by first | (simp; done) | (simp; omega) | omega) _ | refine bchain (by assumption) ?_))))).mono ?_
  rintro e w2 ⟨rfl, hb2⟩
  have hB2 : Below w1.heap.size w1 w2 := by (repeat (first | exact Below.refl _ _ | assumption | refine Below.drew ?_ | refine below_drewN ?_ _ | refine balloc ?_ _ | refine Below.setCell ?_ (by first | (simp; done) | (simp; omega) | omega) _ | refine bchain (by assumption) ?_))
  have k0 := bblock hB2 k0
  have hM2 := Mods.chain hB2 hM1
  have hm2 := hm1.below hB2
  have hs2 : w.heap.size ≤ w2.heap.size := hM2.size
  clear hz_k0
  have hz_k0 : w.heap.size < w2.heap.size := (Array.getElem?_eq_some_iff.1 k0).1
  clear hB2 hm1 hM1 hb2
  clear k0_0 k0_1
  have k0_0 : w2.cell? ⟨w.heap.size, 0, none⟩ = some (.pointer (some ⟨bO, 0, none⟩)) := by rw [cell_of_block k0]; rfl
  have k0_1 : w2.cell? ⟨w.heap.size, 1, none⟩ = some (.pointer (some ⟨bY, 0, none⟩)) := by rw [cell_of_block k0]; rfl
  go_wp2_with fail
  refine (hF _).mono ?_
  rintro e w3 ⟨rfl, hb3⟩
  have hB3 : Below w2.heap.size w2 w3 := by (repeat (first | exact Below.refl _ _ | assumption | refine Below.drew ?_ | refine below_drewN ?_ _ | refine balloc ?_ _ | refine Below.setCell ?_ (by first | (simp; done) | (simp; omega) | omega) _ | refine bchain (by assumption) ?_))
  have k0 := bblock hB3 k0
  have hM3 := Mods.chain hB3 hM2
  have hm3 := hm2.below hB3
  have hs3 : w.heap.size ≤ w3.heap.size := hM3.size
  clear hz_k0
  have hz_k0 : w.heap.size < w3.heap.size := (Array.getElem?_eq_some_iff.1 k0).1
  clear hB3 hm2 hM2 hb3
  clear k0_0 k0_1
  have k0_0 : w3.cell? ⟨w.heap.size, 0, none⟩ = some (.pointer (some ⟨bO, 0, none⟩)) := by rw [cell_of_block k0]; rfl
  have k0_1 : w3.cell? ⟨w.heap.size, 1, none⟩ = some (.pointer (some ⟨bY, 0, none⟩)) := by rw [cell_of_block k0]; rfl
  go_wp2_with fail
  refine (hWr _ hm3).mono ?_
  rintro e w9 ⟨rfl, hm9, hX9⟩
  have hM9 := (hM3.alloc (.cells #[.int .u64 fw] 56)).trans hX9 (fun i hi => .inl hi)
  go_wp2
  go_ret
  exact ⟨rfl, hm9, hM9⟩
theorem tofwd_any {w : World} {bO bY : Nat} {lo ly : Int} {wo wy : List Int} {gO gY : Option Nat} (hm : MemAt w bO bY lo ly wo wy gO gY) (a t : Int) : Calls Try.prog 18 #[.agg #[.pointer (some ⟨bO, 0, none⟩), .pointer (some ⟨bY, 0, none⟩)], .int .i64 a, .int .i64 t] w fun e w' => e = .returned (.int .i64 (tfE wo wy a t)) ∧ MemAt w' bO bY lo ly (tfM wo wy a t).1 (tfM wo wy a t).2 gO gY ∧ Mods (MS bO bY gO gY) w w' := by
  by_cases he : isE (fun k => k != 4) wo wy a = 0
  · by_cases hb : RE wo wy t ≠ 0 ∨ RA wo wy t = a
    · have e : tfE wo wy a t = 1 := by unfold tfE tfB; rw [if_neg (by simpa using he), if_pos (by simpa using hb)]
      unfold tfM
      rw [e, if_neg (by decide)]
      by_cases hr : RE wo wy t = 0
      · exact tofwd_s hm a t he hr (hb.resolve_left (by simpa using hr))
      · exact tofwd_r hm a t he hr
    · have e : tfE wo wy a t = 0 := by unfold tfE tfB; rw [if_neg (by simpa using he), if_neg (by simpa using hb)]
      unfold tfM
      rw [e, if_pos rfl]
      have hb' : RE wo wy t = 0 ∧ RA wo wy t ≠ a := by
        constructor
        · by_cases h : RE wo wy t = 0
          · exact h
          · exact absurd (.inl h) hb
        · exact fun h => hb (.inr h)
      exact tofwd_y hm a t he hb'.1 hb'.2
  · have e : tfE wo wy a t = isE (fun k => k != 4) wo wy a := by unfold tfE; rw [if_pos he]
    unfold tfM
    rw [e, if_neg he]
    exact tofwd_e hm a t he
end Go.Proofs.Ytcmhgjkijegpnaa
