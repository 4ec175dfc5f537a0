/-
  object.is, ToStub, Stub, Reroute.
-/
import Derived.Test.YtcmhgjkijegpnaaObF
namespace Go.Proofs.Ytcmhgjkijegpnaa
open Go.RowKit
set_option linter.unusedSimpArgs false
set_option linter.unusedVariables false

def isE (p : Int → Bool) (wo wy : List Int) (a : Int) : Int := if HE wo wy a ≠ 0 then HE wo wy a else if p (HK wo wy a) then 0 else 7
set_option maxRecDepth 100000 in
set_option maxHeartbeats 1000000 in
theorem is_stub_e {w : World} {bO bY : Nat} {lo ly : Int} {wo wy : List Int} {gO gY : Option Nat} (hm : MemAt w bO bY lo ly wo wy gO gY) (a : Int) (he : HE wo wy a ≠ 0) :
    Calls Try.prog 52 #[.agg #[.pointer (some ⟨bO, 0, none⟩), .pointer (some ⟨bY, 0, none⟩)], .int .i64 a, .func (.func 71) #[] #[]] w fun e w' => e = .returned (.int .i64 (HE wo wy a)) ∧ Below w.heap.size w w' := by
  have hH := fun W (h : Below w.heap.size w W) => mhdr_any (hm.below h) a
  generalize HK wo wy a = hk at *
  generalize HC wo wy a = hc at *
  generalize HF wo wy a = hf at *
  generalize HE wo wy a = er at *
  have hb1 : (er == 0) = false := by simpa using he
  clear hm he
  have hw0 : Below w.heap.size w w := Below.refl _ _
  go_enter Try.func52, Try.ntmps52
  go_wp2_with fail
  refine (hH _ (by (repeat (first | exact Below.refl _ _ | assumption | refine Below.drew ?_ | refine below_drewN ?_ _ | refine balloc ?_ _ | refine Below.setCell ?_ (by first | (simp; done) | (simp; omega) | omega) _ | refine bchain (by assumption) ?_)))).mono ?_
  rintro e w1 ⟨rfl, hb1⟩
  have hB1 : Below w.heap.size w w1 := by (repeat (first | exact Below.refl _ _ | assumption | refine Below.drew ?_ | refine below_drewN ?_ _ | refine balloc ?_ _ | refine Below.setCell ?_ (by first | (simp; done) | (simp; omega) | omega) _ | refine bchain (by assumption) ?_))
  have k0 : w1.heap[w.heap.size]? = some (.cells #[.pointer (some ⟨bO, 0, none⟩), .pointer (some ⟨bY, 0, none⟩)] 29 (0, 0)) := bblock hb1 (by repeat (first | exact alloc_at _ (by simp) | refine alloc_lt _ ?_))
  have hw1 := bchain hB1 hw0
  have hz_k0 : w.heap.size < w1.heap.size := (Array.getElem?_eq_some_iff.1 k0).1
  clear hB1
  have k0_0 : w1.cell? ⟨w.heap.size, 0, none⟩ = some (.pointer (some ⟨bO, 0, none⟩)) := by rw [cell_of_block k0]; rfl
  have k0_1 : w1.cell? ⟨w.heap.size, 1, none⟩ = some (.pointer (some ⟨bY, 0, none⟩)) := by rw [cell_of_block k0]; rfl
  go_wp2
  go_ret
  exact ⟨rfl, by (repeat (first | exact Below.refl _ _ | assumption | refine Below.drew ?_ | refine below_drewN ?_ _ | refine balloc ?_ _ | refine Below.setCell ?_ (by first | (simp; done) | (simp; omega) | omega) _ | refine bchain (by assumption) ?_))⟩
set_option maxRecDepth 100000 in
set_option maxHeartbeats 1000000 in
theorem is_stub_true {w : World} {bO bY : Nat} {lo ly : Int} {wo wy : List Int} {gO gY : Option Nat} (hm : MemAt w bO bY lo ly wo wy gO gY) (a : Int) (he : HE wo wy a = 0) (hp : (fun k => k == 3) (HK wo wy a) = true) :
    Calls Try.prog 52 #[.agg #[.pointer (some ⟨bO, 0, none⟩), .pointer (some ⟨bY, 0, none⟩)], .int .i64 a, .func (.func 71) #[] #[]] w fun e w' => e = .returned (.int .i64 0) ∧ Below w.heap.size w w' := by
  have hH := fun W (h : Below w.heap.size w W) => mhdr_any (hm.below h) a
  have hS := fun W => stub_any (HK wo wy a) (HC wo wy a) (HF wo wy a) W
  simp only at hp
  rw [hp] at hS
  rw [he] at hH
  generalize HK wo wy a = hk at *
  generalize HC wo wy a = hc at *
  generalize HF wo wy a = hf at *
  clear hm he hp
  have hw0 : Below w.heap.size w w := Below.refl _ _
  go_enter Try.func52, Try.ntmps52
  go_wp2_with fail
  refine (hH _ (by (repeat (first | exact Below.refl _ _ | assumption | refine Below.drew ?_ | refine below_drewN ?_ _ | refine balloc ?_ _ | refine Below.setCell ?_ (by first | (simp; done) | (simp; omega) | omega) _ | refine bchain (by assumption) ?_)))).mono ?_
  rintro e w1 ⟨rfl, hb1⟩
  have hB1 : Below w.heap.size w w1 := by (repeat (first | exact Below.refl _ _ | assumption | refine Below.drew ?_ | refine below_drewN ?_ _ | refine balloc ?_ _ | refine Below.setCell ?_ (by first | (simp; done) | (simp; omega) | omega) _ | refine bchain (by assumption) ?_))
  have k0 : w1.heap[w.heap.size]? = some (.cells #[.pointer (some ⟨bO, 0, none⟩), .pointer (some ⟨bY, 0, none⟩)] 29 (0, 0)) := bblock hb1 (by repeat (first | exact alloc_at _ (by simp) | refine alloc_lt _ ?_))
  have hw1 := bchain hB1 hw0
  have hz_k0 : w.heap.size < w1.heap.size := (Array.getElem?_eq_some_iff.1 k0).1
  clear hB1
  have k0_0 : w1.cell? ⟨w.heap.size, 0, none⟩ = some (.pointer (some ⟨bO, 0, none⟩)) := by rw [cell_of_block k0]; rfl
  have k0_1 : w1.cell? ⟨w.heap.size, 1, none⟩ = some (.pointer (some ⟨bY, 0, none⟩)) := by rw [cell_of_block k0]; rfl
  go_wp2_with fail
  refine (hS _).mono ?_
  rintro e w2 ⟨rfl, hb2⟩
  have hB2 : Below w1.heap.size w1 w2 := by (repeat (first | exact Below.refl _ _ | assumption | refine Below.drew ?_ | refine below_drewN ?_ _ | refine balloc ?_ _ | refine Below.setCell ?_ (by first | (simp; done) | (simp; omega) | omega) _ | refine bchain (by assumption) ?_))
  have k0 := bblock hB2 k0
  have t : w2.heap[w1.heap.size]? = some (.cells #[.int .i64 hk, .int .i64 hc, .int .i64 hf] 23 (0, 0)) := bblock hb2 (by repeat (first | exact alloc_at _ (by simp) | refine alloc_lt _ ?_))
  have hw2 := bchain hB2 hw1
  clear hz_k0
  have hz_k0 : w.heap.size < w2.heap.size := (Array.getElem?_eq_some_iff.1 k0).1
  have hz_t : w1.heap.size < w2.heap.size := (Array.getElem?_eq_some_iff.1 t).1
  clear hB2
  clear k0_0 k0_1
  have k0_0 : w2.cell? ⟨w.heap.size, 0, none⟩ = some (.pointer (some ⟨bO, 0, none⟩)) := by rw [cell_of_block k0]; rfl
  have k0_1 : w2.cell? ⟨w.heap.size, 1, none⟩ = some (.pointer (some ⟨bY, 0, none⟩)) := by rw [cell_of_block k0]; rfl
  have t_0 : w2.cell? ⟨w1.heap.size, 0, none⟩ = some (.int .i64 hk) := by rw [cell_of_block t]; rfl
  have t_1 : w2.cell? ⟨w1.heap.size, 1, none⟩ = some (.int .i64 hc) := by rw [cell_of_block t]; rfl
  have t_2 : w2.cell? ⟨w1.heap.size, 2, none⟩ = some (.int .i64 hf) := by rw [cell_of_block t]; rfl
  go_wp2
  go_ret
  exact ⟨rfl, by (repeat (first | exact Below.refl _ _ | assumption | refine Below.drew ?_ | refine below_drewN ?_ _ | refine balloc ?_ _ | refine Below.setCell ?_ (by first | (simp; done) | (simp; omega) | omega) _ | refine bchain (by assumption) ?_))⟩
set_option maxRecDepth 100000 in
set_option maxHeartbeats 1000000 in
theorem is_stub_false {w : World} {bO bY : Nat} {lo ly : Int} {wo wy : List Int} {gO gY : Option Nat} (hm : MemAt w bO bY lo ly wo wy gO gY) (a : Int) (he : HE wo wy a = 0) (hp : (fun k => k == 3) (HK wo wy a) = false) :
    Calls Try.prog 52 #[.agg #[.pointer (some ⟨bO, 0, none⟩), .pointer (some ⟨bY, 0, none⟩)], .int .i64 a, .func (.func 71) #[] #[]] w fun e w' => e = .returned (.int .i64 7) ∧ Below w.heap.size w w' := by
  have hH := fun W (h : Below w.heap.size w W) => mhdr_any (hm.below h) a
  have hS := fun W => stub_any (HK wo wy a) (HC wo wy a) (HF wo wy a) W
  simp only at hp
  rw [hp] at hS
  rw [he] at hH
  generalize HK wo wy a = hk at *
  generalize HC wo wy a = hc at *
  generalize HF wo wy a = hf at *
  clear hm he hp
  have hw0 : Below w.heap.size w w := Below.refl _ _
  go_enter Try.func52, Try.ntmps52
  go_wp2_with fail
  refine (hH _ (by (repeat (first | exact Below.refl _ _ | assumption | refine Below.drew ?_ | refine below_drewN ?_ _ | refine balloc ?_ _ | refine Below.setCell ?_ (by first | (simp; done) | (simp; omega) | omega) _ | refine bchain (by assumption) ?_)))).mono ?_
  rintro e w1 ⟨rfl, hb1⟩
  have hB1 : Below w.heap.size w w1 := by (repeat (first | exact Below.refl _ _ | assumption | refine Below.drew ?_ | refine below_drewN ?_ _ | refine balloc ?_ _ | refine Below.setCell ?_ (by first | (simp; done) | (simp; omega) | omega) _ | refine bchain (by assumption) ?_))
  have k0 : w1.heap[w.heap.size]? = some (.cells #[.pointer (some ⟨bO, 0, none⟩), .pointer (some ⟨bY, 0, none⟩)] 29 (0, 0)) := bblock hb1 (by repeat (first | exact alloc_at _ (by simp) | refine alloc_lt _ ?_))
  have hw1 := bchain hB1 hw0
  have hz_k0 : w.heap.size < w1.heap.size := (Array.getElem?_eq_some_iff.1 k0).1
  clear hB1
  have k0_0 : w1.cell? ⟨w.heap.size, 0, none⟩ = some (.pointer (some ⟨bO, 0, none⟩)) := by rw [cell_of_block k0]; rfl
  have k0_1 : w1.cell? ⟨w.heap.size, 1, none⟩ = some (.pointer (some ⟨bY, 0, none⟩)) := by rw [cell_of_block k0]; rfl
  go_wp2_with fail
  refine (hS _).mono ?_
  rintro e w2 ⟨rfl, hb2⟩
  have hB2 : Below w1.heap.size w1 w2 := by (repeat (first | exact Below.refl _ _ | assumption | refine Below.drew ?_ | refine below_drewN ?_ _ | refine balloc ?_ _ | refine Below.setCell ?_ (by first | (simp; done) | (simp; omega) | omega) _ | refine bchain (by assumption) ?_))
  have k0 := bblock hB2 k0
  have t : w2.heap[w1.heap.size]? = some (.cells #[.int .i64 hk, .int .i64 hc, .int .i64 hf] 23 (0, 0)) := bblock hb2 (by repeat (first | exact alloc_at _ (by simp) | refine alloc_lt _ ?_))
  have hw2 := bchain hB2 hw1
  clear hz_k0
  have hz_k0 : w.heap.size < w2.heap.size := (Array.getElem?_eq_some_iff.1 k0).1
  have hz_t : w1.heap.size < w2.heap.size := (Array.getElem?_eq_some_iff.1 t).1
  clear hB2
  clear k0_0 k0_1
  have k0_0 : w2.cell? ⟨w.heap.size, 0, none⟩ = some (.pointer (some ⟨bO, 0, none⟩)) := by rw [cell_of_block k0]; rfl
  have k0_1 : w2.cell? ⟨w.heap.size, 1, none⟩ = some (.pointer (some ⟨bY, 0, none⟩)) := by rw [cell_of_block k0]; rfl
  have t_0 : w2.cell? ⟨w1.heap.size, 0, none⟩ = some (.int .i64 hk) := by rw [cell_of_block t]; rfl
  have t_1 : w2.cell? ⟨w1.heap.size, 1, none⟩ = some (.int .i64 hc) := by rw [cell_of_block t]; rfl
  have t_2 : w2.cell? ⟨w1.heap.size, 2, none⟩ = some (.int .i64 hf) := by rw [cell_of_block t]; rfl
  go_wp2
  go_ret
  exact ⟨rfl, by (repeat (first | exact Below.refl _ _ | assumption | refine Below.drew ?_ | refine below_drewN ?_ _ | refine balloc ?_ _ | refine Below.setCell ?_ (by first | (simp; done) | (simp; omega) | omega) _ | refine bchain (by assumption) ?_))⟩
theorem is_stub {w : World} {bO bY : Nat} {lo ly : Int} {wo wy : List Int} {gO gY : Option Nat} (hm : MemAt w bO bY lo ly wo wy gO gY) (a : Int) : Calls Try.prog 52 #[.agg #[.pointer (some ⟨bO, 0, none⟩), .pointer (some ⟨bY, 0, none⟩)], .int .i64 a, .func (.func 71) #[] #[]] w fun e w' => e = .returned (.int .i64 (isE (fun k => k == 3) wo wy a)) ∧ Below w.heap.size w w' := by
  unfold isE
  by_cases he : HE wo wy a = 0
  · rw [if_neg (by simpa using he)]
    cases hp : (fun k => k == 3) (HK wo wy a)
    · exact is_stub_false hm a he hp
    · exact is_stub_true hm a he hp
  · rw [if_pos he]
    exact is_stub_e hm a he
set_option maxRecDepth 100000 in
set_option maxHeartbeats 1000000 in
theorem is_unst_e {w : World} {bO bY : Nat} {lo ly : Int} {wo wy : List Int} {gO gY : Option Nat} (hm : MemAt w bO bY lo ly wo wy gO gY) (a : Int) (he : HE wo wy a ≠ 0) :
    Calls Try.prog 52 #[.agg #[.pointer (some ⟨bO, 0, none⟩), .pointer (some ⟨bY, 0, none⟩)], .int .i64 a, .func (.func 73) #[] #[]] w fun e w' => e = .returned (.int .i64 (HE wo wy a)) ∧ Below w.heap.size w w' := by
  have hH := fun W (h : Below w.heap.size w W) => mhdr_any (hm.below h) a
  generalize HK wo wy a = hk at *
  generalize HC wo wy a = hc at *
  generalize HF wo wy a = hf at *
  generalize HE wo wy a = er at *
  have hb1 : (er == 0) = false := by simpa using he
  clear hm he
  have hw0 : Below w.heap.size w w := Below.refl _ _
  go_enter Try.func52, Try.ntmps52
  go_wp2_with fail
  refine (hH _ (by (repeat (first | exact Below.refl _ _ | assumption | refine Below.drew ?_ | refine below_drewN ?_ _ | refine balloc ?_ _ | refine Below.setCell ?_ (by first | (simp; done) | (simp; omega) | omega) _ | refine bchain (by assumption) ?_)))).mono ?_
  rintro e w1 ⟨rfl, hb1⟩
  have hB1 : Below w.heap.size w w1 := by (repeat (first | exact Below.refl _ _ | assumption | refine Below.drew ?_ | refine below_drewN ?_ _ | refine balloc ?_ _ | refine Below.setCell ?_ (by first | (simp; done) | (simp; omega) | omega) _ | refine bchain (by assumption) ?_))
  have k0 : w1.heap[w.heap.size]? = some (.cells #[.pointer (some ⟨bO, 0, none⟩), .pointer (some ⟨bY, 0, none⟩)] 29 (0, 0)) := bblock hb1 (by repeat (first | exact alloc_at _ (by simp) | refine alloc_lt _ ?_))
  have hw1 := bchain hB1 hw0
  have hz_k0 : w.heap.size < w1.heap.size := (Array.getElem?_eq_some_iff.1 k0).1
  clear hB1
  have k0_0 : w1.cell? ⟨w.heap.size, 0, none⟩ = some (.pointer (some ⟨bO, 0, none⟩)) := by rw [cell_of_block k0]; rfl
  have k0_1 : w1.cell? ⟨w.heap.size, 1, none⟩ = some (.pointer (some ⟨bY, 0, none⟩)) := by rw [cell_of_block k0]; rfl
  go_wp2
  go_ret
  exact ⟨rfl, by (repeat (first | exact Below.refl _ _ | assumption | refine Below.drew ?_ | refine below_drewN ?_ _ | refine balloc ?_ _ | refine Below.setCell ?_ (by first | (simp; done) | (simp; omega) | omega) _ | refine bchain (by assumption) ?_))⟩
set_option maxRecDepth 100000 in
set_option maxHeartbeats 1000000 in
theorem is_unst_true {w : World} {bO bY : Nat} {lo ly : Int} {wo wy : List Int} {gO gY : Option Nat} (hm : MemAt w bO bY lo ly wo wy gO gY) (a : Int) (he : HE wo wy a = 0) (hp : (fun k => !stB k) (HK wo wy a) = true) :
    Calls Try.prog 52 #[.agg #[.pointer (some ⟨bO, 0, none⟩), .pointer (some ⟨bY, 0, none⟩)], .int .i64 a, .func (.func 73) #[] #[]] w fun e w' => e = .returned (.int .i64 0) ∧ Below w.heap.size w w' := by
  have hH := fun W (h : Below w.heap.size w W) => mhdr_any (hm.below h) a
  have hS := fun W => unstood_any (HK wo wy a) (HC wo wy a) (HF wo wy a) W
  simp only at hp
  rw [hp] at hS
  rw [he] at hH
  generalize HK wo wy a = hk at *
  generalize HC wo wy a = hc at *
  generalize HF wo wy a = hf at *
  clear hm he hp
  have hw0 : Below w.heap.size w w := Below.refl _ _
  go_enter Try.func52, Try.ntmps52
  go_wp2_with fail
  refine (hH _ (by (repeat (first | exact Below.refl _ _ | assumption | refine Below.drew ?_ | refine below_drewN ?_ _ | refine balloc ?_ _ | refine Below.setCell ?_ (by first | (simp; done) | (simp; omega) | omega) _ | refine bchain (by assumption) ?_)))).mono ?_
  rintro e w1 ⟨rfl, hb1⟩
  have hB1 : Below w.heap.size w w1 := by (repeat (first | exact Below.refl _ _ | assumption | refine Below.drew ?_ | refine below_drewN ?_ _ | refine balloc ?_ _ | refine Below.setCell ?_ (by first | (simp; done) | (simp; omega) | omega) _ | refine bchain (by assumption) ?_))
  have k0 : w1.heap[w.heap.size]? = some (.cells #[.pointer (some ⟨bO, 0, none⟩), .pointer (some ⟨bY, 0, none⟩)] 29 (0, 0)) := bblock hb1 (by repeat (first | exact alloc_at _ (by simp) | refine alloc_lt _ ?_))
  have hw1 := bchain hB1 hw0
  have hz_k0 : w.heap.size < w1.heap.size := (Array.getElem?_eq_some_iff.1 k0).1
  clear hB1
  have k0_0 : w1.cell? ⟨w.heap.size, 0, none⟩ = some (.pointer (some ⟨bO, 0, none⟩)) := by rw [cell_of_block k0]; rfl
  have k0_1 : w1.cell? ⟨w.heap.size, 1, none⟩ = some (.pointer (some ⟨bY, 0, none⟩)) := by rw [cell_of_block k0]; rfl
  go_wp2_with fail
  refine (hS _).mono ?_
  rintro e w2 ⟨rfl, hb2⟩
  have hB2 : Below w1.heap.size w1 w2 := by (repeat (first | exact Below.refl _ _ | assumption | refine Below.drew ?_ | refine below_drewN ?_ _ | refine balloc ?_ _ | refine Below.setCell ?_ (by first | (simp; done) | (simp; omega) | omega) _ | refine bchain (by assumption) ?_))
  have k0 := bblock hB2 k0
  have t : w2.heap[w1.heap.size]? = some (.cells #[.int .i64 hk, .int .i64 hc, .int .i64 hf] 23 (0, 0)) := bblock hb2 (by repeat (first | exact alloc_at _ (by simp) | refine alloc_lt _ ?_))
  have hw2 := bchain hB2 hw1
  clear hz_k0
  have hz_k0 : w.heap.size < w2.heap.size := (Array.getElem?_eq_some_iff.1 k0).1
  have hz_t : w1.heap.size < w2.heap.size := (Array.getElem?_eq_some_iff.1 t).1
  clear hB2
  clear k0_0 k0_1
  have k0_0 : w2.cell? ⟨w.heap.size, 0, none⟩ = some (.pointer (some ⟨bO, 0, none⟩)) := by rw [cell_of_block k0]; rfl
  have k0_1 : w2.cell? ⟨w.heap.size, 1, none⟩ = some (.pointer (some ⟨bY, 0, none⟩)) := by rw [cell_of_block k0]; rfl
  have t_0 : w2.cell? ⟨w1.heap.size, 0, none⟩ = some (.int .i64 hk) := by rw [cell_of_block t]; rfl
  have t_1 : w2.cell? ⟨w1.heap.size, 1, none⟩ = some (.int .i64 hc) := by rw [cell_of_block t]; rfl
  have t_2 : w2.cell? ⟨w1.heap.size, 2, none⟩ = some (.int .i64 hf) := by rw [cell_of_block t]; rfl
  go_wp2
  go_ret
  exact ⟨rfl, by (repeat (first | exact Below.refl _ _ | assumption | refine Below.drew ?_ | refine below_drewN ?_ _ | refine balloc ?_ _ | refine Below.setCell ?_ (by first | (simp; done) | (simp; omega) | omega) _ | refine bchain (by assumption) ?_))⟩
set_option maxRecDepth 100000 in
set_option maxHeartbeats 1000000 in
theorem is_unst_false {w : World} {bO bY : Nat} {lo ly : Int} {wo wy : List Int} {gO gY : Option Nat} (hm : MemAt w bO bY lo ly wo wy gO gY) (a : Int) (he : HE wo wy a = 0) (hp : (fun k => !stB k) (HK wo wy a) = false) :
    Calls Try.prog 52 #[.agg #[.pointer (some ⟨bO, 0, none⟩), .pointer (some ⟨bY, 0, none⟩)], .int .i64 a, .func (.func 73) #[] #[]] w fun e w' => e = .returned (.int .i64 7) ∧ Below w.heap.size w w' := by
  have hH := fun W (h : Below w.heap.size w W) => mhdr_any (hm.below h) a
  have hS := fun W => unstood_any (HK wo wy a) (HC wo wy a) (HF wo wy a) W
  simp only at hp
  rw [hp] at hS
  rw [he] at hH
  generalize HK wo wy a = hk at *
  generalize HC wo wy a = hc at *
  generalize HF wo wy a = hf at *
  clear hm he hp
  have hw0 : Below w.heap.size w w := Below.refl _ _
  go_enter Try.func52, Try.ntmps52
  go_wp2_with fail
  refine (hH _ (by (repeat (first | exact Below.refl _ _ | assumption | refine Below.drew ?_ | refine below_drewN ?_ _ | refine balloc ?_ _ | refine Below.setCell ?_ (by first | (simp; done) | (simp; omega) | omega) _ | refine bchain (by assumption) ?_)))).mono ?_
  rintro e w1 ⟨rfl, hb1⟩
  have hB1 : Below w.heap.size w w1 := by (repeat (first | exact Below.refl _ _ | assumption | refine Below.drew ?_ | refine below_drewN ?_ _ | refine balloc ?_ _ | refine Below.setCell ?_ (by first | (simp; done) | (simp; omega) | omega) _ | refine bchain (by assumption) ?_))
  have k0 : w1.heap[w.heap.size]? = some (.cells #[.pointer (some ⟨bO, 0, none⟩), .pointer (some ⟨bY, 0, none⟩)] 29 (0, 0)) := bblock hb1 (by repeat (first | exact alloc_at _ (by simp) | refine alloc_lt _ ?_))
  have hw1 := bchain hB1 hw0
  have hz_k0 : w.heap.size < w1.heap.size := (Array.getElem?_eq_some_iff.1 k0).1
  clear hB1
  have k0_0 : w1.cell? ⟨w.heap.size, 0, none⟩ = some (.pointer (some ⟨bO, 0, none⟩)) := by rw [cell_of_block k0]; rfl
  have k0_1 : w1.cell? ⟨w.heap.size, 1, none⟩ = some (.pointer (some ⟨bY, 0, none⟩)) := by rw [cell_of_block k0]; rfl
  go_wp2_with fail
  refine (hS _).mono ?_
  rintro e w2 ⟨rfl, hb2⟩
  have hB2 : Below w1.heap.size w1 w2 := by (repeat (first | exact Below.refl _ _ | assumption | refine Below.drew ?_ | refine below_drewN ?_ _ | refine balloc ?_ _ | refine Below.setCell ?_ (by first | (simp; done) | (simp; omega) | omega) _ | refine bchain (by assumption) ?_))
  have k0 := bblock hB2 k0
  have t : w2.heap[w1.heap.size]? = some (.cells #[.int .i64 hk, .int .i64 hc, .int .i64 hf] 23 (0, 0)) := bblock hb2 (by repeat (first | exact alloc_at _ (by simp) | refine alloc_lt _ ?_))
  have hw2 := bchain hB2 hw1
  clear hz_k0
  have hz_k0 : w.heap.size < w2.heap.size := (Array.getElem?_eq_some_iff.1 k0).1
  have hz_t : w1.heap.size < w2.heap.size := (Array.getElem?_eq_some_iff.1 t).1
  clear hB2
  clear k0_0 k0_1
  have k0_0 : w2.cell? ⟨w.heap.size, 0, none⟩ = some (.pointer (some ⟨bO, 0, none⟩)) := by rw [cell_of_block k0]; rfl
  have k0_1 : w2.cell? ⟨w.heap.size, 1, none⟩ = some (.pointer (some ⟨bY, 0, none⟩)) := by rw [cell_of_block k0]; rfl
  have t_0 : w2.cell? ⟨w1.heap.size, 0, none⟩ = some (.int .i64 hk) := by rw [cell_of_block t]; rfl
  have t_1 : w2.cell? ⟨w1.heap.size, 1, none⟩ = some (.int .i64 hc) := by rw [cell_of_block t]; rfl
  have t_2 : w2.cell? ⟨w1.heap.size, 2, none⟩ = some (.int .i64 hf) := by rw [cell_of_block t]; rfl
  go_wp2
  go_ret
  exact ⟨rfl, by (repeat (first | exact Below.refl _ _ | assumption | refine Below.drew ?_ | refine below_drewN ?_ _ | refine balloc ?_ _ | refine Below.setCell ?_ (by first | (simp; done) | (simp; omega) | omega) _ | refine bchain (by assumption) ?_))⟩
theorem is_unst {w : World} {bO bY : Nat} {lo ly : Int} {wo wy : List Int} {gO gY : Option Nat} (hm : MemAt w bO bY lo ly wo wy gO gY) (a : Int) : Calls Try.prog 52 #[.agg #[.pointer (some ⟨bO, 0, none⟩), .pointer (some ⟨bY, 0, none⟩)], .int .i64 a, .func (.func 73) #[] #[]] w fun e w' => e = .returned (.int .i64 (isE (fun k => !stB k) wo wy a)) ∧ Below w.heap.size w w' := by
  unfold isE
  by_cases he : HE wo wy a = 0
  · rw [if_neg (by simpa using he)]
    cases hp : (fun k => !stB k) (HK wo wy a)
    · exact is_unst_false hm a he hp
    · exact is_unst_true hm a he hp
  · rw [if_pos he]
    exact is_unst_e hm a he
set_option maxRecDepth 100000 in
set_option maxHeartbeats 1000000 in
theorem is_nofw_e {w : World} {bO bY : Nat} {lo ly : Int} {wo wy : List Int} {gO gY : Option Nat} (hm : MemAt w bO bY lo ly wo wy gO gY) (a : Int) (he : HE wo wy a ≠ 0) :
    Calls Try.prog 52 #[.agg #[.pointer (some ⟨bO, 0, none⟩), .pointer (some ⟨bY, 0, none⟩)], .int .i64 a, .func (.func 53) #[] #[]] w fun e w' => e = .returned (.int .i64 (HE wo wy a)) ∧ Below w.heap.size w w' := by
  have hH := fun W (h : Below w.heap.size w W) => mhdr_any (hm.below h) a
  generalize HK wo wy a = hk at *
  generalize HC wo wy a = hc at *
  generalize HF wo wy a = hf at *
  generalize HE wo wy a = er at *
  have hb1 : (er == 0) = false := by simpa using he
  clear hm he
  have hw0 : Below w.heap.size w w := Below.refl _ _
  go_enter Try.func52, Try.ntmps52
  go_wp2_with fail
  refine (hH _ (by (repeat (first | exact Below.refl _ _ | assumption | refine Below.drew ?_ | refine below_drewN ?_ _ | refine balloc ?_ _ | refine Below.setCell ?_ (by first | (simp; done) | (simp; omega) | omega) _ | refine bchain (by assumption) ?_)))).mono ?_
  rintro e w1 ⟨rfl, hb1⟩
  have hB1 : Below w.heap.size w w1 := by (repeat (first | exact Below.refl _ _ | assumption | refine Below.drew ?_ | refine below_drewN ?_ _ | refine balloc ?_ _ | refine Below.setCell ?_ (by first | (simp; done) | (simp; omega) | omega) _ | refine bchain (by assumption) ?_))
  have k0 : w1.heap[w.heap.size]? = some (.cells #[.pointer (some ⟨bO, 0, none⟩), .pointer (some ⟨bY, 0, none⟩)] 29 (0, 0)) := bblock hb1 (by repeat (first | exact alloc_at _ (by simp) | refine alloc_lt _ ?_))
  have hw1 := bchain hB1 hw0
  have hz_k0 : w.heap.size < w1.heap.size := (Array.getElem?_eq_some_iff.1 k0).1
  clear hB1
  have k0_0 : w1.cell? ⟨w.heap.size, 0, none⟩ = some (.pointer (some ⟨bO, 0, none⟩)) := by rw [cell_of_block k0]; rfl
  have k0_1 : w1.cell? ⟨w.heap.size, 1, none⟩ = some (.pointer (some ⟨bY, 0, none⟩)) := by rw [cell_of_block k0]; rfl
  go_wp2
  go_ret
  exact ⟨rfl, by (repeat (first | exact Below.refl _ _ | assumption | refine Below.drew ?_ | refine below_drewN ?_ _ | refine balloc ?_ _ | refine Below.setCell ?_ (by first | (simp; done) | (simp; omega) | omega) _ | refine bchain (by assumption) ?_))⟩
set_option maxRecDepth 100000 in
set_option maxHeartbeats 1000000 in
theorem is_nofw_true {w : World} {bO bY : Nat} {lo ly : Int} {wo wy : List Int} {gO gY : Option Nat} (hm : MemAt w bO bY lo ly wo wy gO gY) (a : Int) (he : HE wo wy a = 0) (hp : (fun k => k != 4) (HK wo wy a) = true) :
    Calls Try.prog 52 #[.agg #[.pointer (some ⟨bO, 0, none⟩), .pointer (some ⟨bY, 0, none⟩)], .int .i64 a, .func (.func 53) #[] #[]] w fun e w' => e = .returned (.int .i64 0) ∧ Below w.heap.size w w' := by
  have hH := fun W (h : Below w.heap.size w W) => mhdr_any (hm.below h) a
  have hS := fun W => nofwd_any (HK wo wy a) (HC wo wy a) (HF wo wy a) W
  simp only at hp
  rw [hp] at hS
  rw [he] at hH
  generalize HK wo wy a = hk at *
  generalize HC wo wy a = hc at *
  generalize HF wo wy a = hf at *
  clear hm he hp
  have hw0 : Below w.heap.size w w := Below.refl _ _
  go_enter Try.func52, Try.ntmps52
  go_wp2_with fail
  refine (hH _ (by (repeat (first | exact Below.refl _ _ | assumption | refine Below.drew ?_ | refine below_drewN ?_ _ | refine balloc ?_ _ | refine Below.setCell ?_ (by first | (simp; done) | (simp; omega) | omega) _ | refine bchain (by assumption) ?_)))).mono ?_
  rintro e w1 ⟨rfl, hb1⟩
  have hB1 : Below w.heap.size w w1 := by (repeat (first | exact Below.refl _ _ | assumption | refine Below.drew ?_ | refine below_drewN ?_ _ | refine balloc ?_ _ | refine Below.setCell ?_ (by first | (simp; done) | (simp; omega) | omega) _ | refine bchain (by assumption) ?_))
  have k0 : w1.heap[w.heap.size]? = some (.cells #[.pointer (some ⟨bO, 0, none⟩), .pointer (some ⟨bY, 0, none⟩)] 29 (0, 0)) := bblock hb1 (by repeat (first | exact alloc_at _ (by simp) | refine alloc_lt _ ?_))
  have hw1 := bchain hB1 hw0
  have hz_k0 : w.heap.size < w1.heap.size := (Array.getElem?_eq_some_iff.1 k0).1
  clear hB1
  have k0_0 : w1.cell? ⟨w.heap.size, 0, none⟩ = some (.pointer (some ⟨bO, 0, none⟩)) := by rw [cell_of_block k0]; rfl
  have k0_1 : w1.cell? ⟨w.heap.size, 1, none⟩ = some (.pointer (some ⟨bY, 0, none⟩)) := by rw [cell_of_block k0]; rfl
  go_wp2_with fail
  refine (hS _).mono ?_
  rintro e w2 ⟨rfl, hb2⟩
  have hB2 : Below w1.heap.size w1 w2 := by (repeat (first | exact Below.refl _ _ | assumption | refine Below.drew ?_ | refine below_drewN ?_ _ | refine balloc ?_ _ | refine Below.setCell ?_ (by first | (simp; done) | (simp; omega) | omega) _ | refine bchain (by assumption) ?_))
  have k0 := bblock hB2 k0
  have t : w2.heap[w1.heap.size]? = some (.cells #[.int .i64 hk, .int .i64 hc, .int .i64 hf] 23 (0, 0)) := bblock hb2 (by repeat (first | exact alloc_at _ (by simp) | refine alloc_lt _ ?_))
  have hw2 := bchain hB2 hw1
  clear hz_k0
  have hz_k0 : w.heap.size < w2.heap.size := (Array.getElem?_eq_some_iff.1 k0).1
  have hz_t : w1.heap.size < w2.heap.size := (Array.getElem?_eq_some_iff.1 t).1
  clear hB2
  clear k0_0 k0_1
  have k0_0 : w2.cell? ⟨w.heap.size, 0, none⟩ = some (.pointer (some ⟨bO, 0, none⟩)) := by rw [cell_of_block k0]; rfl
  have k0_1 : w2.cell? ⟨w.heap.size, 1, none⟩ = some (.pointer (some ⟨bY, 0, none⟩)) := by rw [cell_of_block k0]; rfl
  have t_0 : w2.cell? ⟨w1.heap.size, 0, none⟩ = some (.int .i64 hk) := by rw [cell_of_block t]; rfl
  have t_1 : w2.cell? ⟨w1.heap.size, 1, none⟩ = some (.int .i64 hc) := by rw [cell_of_block t]; rfl
  have t_2 : w2.cell? ⟨w1.heap.size, 2, none⟩ = some (.int .i64 hf) := by rw [cell_of_block t]; rfl
  go_wp2
  go_ret
  exact ⟨rfl, by (repeat (first | exact Below.refl _ _ | assumption | refine Below.drew ?_ | refine below_drewN ?_ _ | refine balloc ?_ _ | refine Below.setCell ?_ (by first | (simp; done) | (simp; omega) | omega) _ | refine bchain (by assumption) ?_))⟩
set_option maxRecDepth 100000 in
set_option maxHeartbeats 1000000 in
theorem is_nofw_false {w : World} {bO bY : Nat} {lo ly : Int} {wo wy : List Int} {gO gY : Option Nat} (hm : MemAt w bO bY lo ly wo wy gO gY) (a : Int) (he : HE wo wy a = 0) (hp : (fun k => k != 4) (HK wo wy a) = false) :
    Calls Try.prog 52 #[.agg #[.pointer (some ⟨bO, 0, none⟩), .pointer (some ⟨bY, 0, none⟩)], .int .i64 a, .func (.func 53) #[] #[]] w fun e w' => e = .returned (.int .i64 7) ∧ Below w.heap.size w w' := by
  have hH := fun W (h : Below w.heap.size w W) => mhdr_any (hm.below h) a
  have hS := fun W => nofwd_any (HK wo wy a) (HC wo wy a) (HF wo wy a) W
  simp only at hp
  rw [hp] at hS
  rw [he] at hH
  generalize HK wo wy a = hk at *
  generalize HC wo wy a = hc at *
  generalize HF wo wy a = hf at *
  clear hm he hp
  have hw0 : Below w.heap.size w w := Below.refl _ _
  go_enter Try.func52, Try.ntmps52
  go_wp2_with fail
  refine (hH _ (by (repeat (first | exact Below.refl _ _ | assumption | refine Below.drew ?_ | refine below_drewN ?_ _ | refine balloc ?_ _ | refine Below.setCell ?_ (by first | (simp; done) | (simp; omega) | omega) _ | refine bchain (by assumption) ?_)))).mono ?_
  rintro e w1 ⟨rfl, hb1⟩
  have hB1 : Below w.heap.size w w1 := by (repeat (first | exact Below.refl _ _ | assumption | refine Below.drew ?_ | refine below_drewN ?_ _ | refine balloc ?_ _ | refine Below.setCell ?_ (by first | (simp; done) | (simp; omega) | omega) _ | refine bchain (by assumption) ?_))
  have k0 : w1.heap[w.heap.size]? = some (.cells #[.pointer (some ⟨bO, 0, none⟩), .pointer (some ⟨bY, 0, none⟩)] 29 (0, 0)) := bblock hb1 (by repeat (first | exact alloc_at _ (by simp) | refine alloc_lt _ ?_))
  have hw1 := bchain hB1 hw0
  have hz_k0 : w.heap.size < w1.heap.size := (Array.getElem?_eq_some_iff.1 k0).1
  clear hB1
  have k0_0 : w1.cell? ⟨w.heap.size, 0, none⟩ = some (.pointer (some ⟨bO, 0, none⟩)) := by rw [cell_of_block k0]; rfl
  have k0_1 : w1.cell? ⟨w.heap.size, 1, none⟩ = some (.pointer (some ⟨bY, 0, none⟩)) := by rw [cell_of_block k0]; rfl
  go_wp2_with fail
  refine (hS _).mono ?_
  rintro e w2 ⟨rfl, hb2⟩
  have hB2 : Below w1.heap.size w1 w2 := by (repeat (first | exact Below.refl _ _ | assumption | refine Below.drew ?_ | refine below_drewN ?_ _ | refine balloc ?_ _ | refine Below.setCell ?_ (by first | (simp; done) | (simp; omega) | omega) _ | refine bchain (by assumption) ?_))
  have k0 := bblock hB2 k0
  have t : w2.heap[w1.heap.size]? = some (.cells #[.int .i64 hk, .int .i64 hc, .int .i64 hf] 23 (0, 0)) := bblock hb2 (by repeat (first | exact alloc_at _ (by simp) | refine alloc_lt _ ?_))
  have hw2 := bchain hB2 hw1
  clear hz_k0
  have hz_k0 : w.heap.size < w2.heap.size := (Array.getElem?_eq_some_iff.1 k0).1
  have hz_t : w1.heap.size < w2.heap.size := (Array.getElem?_eq_some_iff.1 t).1
  clear hB2
  clear k0_0 k0_1
  have k0_0 : w2.cell? ⟨w.heap.size, 0, none⟩ = some (.pointer (some ⟨bO, 0, none⟩)) := by rw [cell_of_block k0]; rfl
  have k0_1 : w2.cell? ⟨w.heap.size, 1, none⟩ = some (.pointer (some ⟨bY, 0, none⟩)) := by rw [cell_of_block k0]; rfl
  have t_0 : w2.cell? ⟨w1.heap.size, 0, none⟩ = some (.int .i64 hk) := by rw [cell_of_block t]; rfl
  have t_1 : w2.cell? ⟨w1.heap.size, 1, none⟩ = some (.int .i64 hc) := by rw [cell_of_block t]; rfl
  have t_2 : w2.cell? ⟨w1.heap.size, 2, none⟩ = some (.int .i64 hf) := by rw [cell_of_block t]; rfl
  go_wp2
  go_ret
  exact ⟨rfl, by (repeat (first | exact Below.refl _ _ | assumption | refine Below.drew ?_ | refine below_drewN ?_ _ | refine balloc ?_ _ | refine Below.setCell ?_ (by first | (simp; done) | (simp; omega) | omega) _ | refine bchain (by assumption) ?_))⟩
theorem is_nofw {w : World} {bO bY : Nat} {lo ly : Int} {wo wy : List Int} {gO gY : Option Nat} (hm : MemAt w bO bY lo ly wo wy gO gY) (a : Int) : Calls Try.prog 52 #[.agg #[.pointer (some ⟨bO, 0, none⟩), .pointer (some ⟨bY, 0, none⟩)], .int .i64 a, .func (.func 53) #[] #[]] w fun e w' => e = .returned (.int .i64 (isE (fun k => k != 4) wo wy a)) ∧ Below w.heap.size w w' := by
  unfold isE
  by_cases he : HE wo wy a = 0
  · rw [if_neg (by simpa using he)]
    cases hp : (fun k => k != 4) (HK wo wy a)
    · exact is_nofw_false hm a he hp
    · exact is_nofw_true hm a he hp
  · rw [if_pos he]
    exact is_nofw_e hm a he
theorem isE_zero {p : Int → Bool} {wo wy : List Int} {a : Int} (h : isE p wo wy a = 0) : HE wo wy a = 0 ∧ p (HK wo wy a) = true := by
  unfold isE at h
  by_cases he : HE wo wy a = 0
  · rw [if_neg (by simpa using he)] at h
    cases hp : p (HK wo wy a)
    · rw [hp] at h; cases h
    · exact ⟨he, rfl⟩
  · rw [if_pos he] at h
    exact absurd h he
def okM (n : Int) : Bool := decide (1 ≤ n ∧ n ≤ 8)
def tsE (wo wy : List Int) (a n : Int) : Int := if isE (fun k => !stB k) wo wy a ≠ 0 then isE (fun k => !stB k) wo wy a else if okM n then 0 else 1
def tsM (wo wy : List Int) (a n u : Int) : List Int × List Int := if tsE wo wy a n = 0 then wrM wo wy a 3 [n, u] else (wo, wy)
set_option maxRecDepth 100000 in
set_option maxHeartbeats 1000000 in
theorem tostub_e {w : World} {bO bY : Nat} {lo ly : Int} {wo wy : List Int} {gO gY : Option Nat} (hm : MemAt w bO bY lo ly wo wy gO gY) (a n u : Int) (he : isE (fun k => !stB k) wo wy a ≠ 0) :
    Calls Try.prog 37 #[.agg #[.pointer (some ⟨bO, 0, none⟩), .pointer (some ⟨bY, 0, none⟩)], .int .i64 a, .int .i64 n, .int .u64 u] w fun e w' => e = .returned (.int .i64 (isE (fun k => !stB k) wo wy a)) ∧ MemAt w' bO bY lo ly (wo) (wy) gO gY ∧ Mods (MS bO bY gO gY) w w' := by
  have hH := fun (W : World) (H : MemAt W bO bY lo ly wo wy gO gY) => is_unst H a
  generalize isE (fun k => !stB k) wo wy a = er at *
  have hb1 : (er != 0) = true := by simpa using he
  clear he
  have hM0 : Mods (MS bO bY gO gY) w w := Mods.refl _ _
  have hm0 := hm
  have hn0 := hm.fresh
  go_enter Try.func37, Try.ntmps37
  go_wp2_with fail
  refine (hH _ (hm0.below (by (repeat (first | exact Below.refl _ _ | assumption | refine Below.drew ?_ | refine below_drewN ?_ _ | refine balloc ?_ _ | refine Below.setCell ?_ (by first | (simp; done) | (simp; omega) | omega) _ | refine bchain (by assumption) ?_))))).mono ?_
  rintro e w1 ⟨rfl, hb1⟩
  have hB1 : Below w.heap.size w w1 := by (repeat (first | exact Below.refl _ _ | assumption | refine Below.drew ?_ | refine below_drewN ?_ _ | refine balloc ?_ _ | refine Below.setCell ?_ (by first | (simp; done) | (simp; omega) | omega) _ | refine bchain (by assumption) ?_))
  have k0 : w1.heap[w.heap.size]? = some (.cells #[.pointer (some ⟨bO, 0, none⟩), .pointer (some ⟨bY, 0, none⟩)] 29 (0, 0)) := bblock hb1 (by repeat (first | exact alloc_at _ (by simp) | refine alloc_lt _ ?_))
  have hM1 := Mods.chain hB1 hM0
  have hm1 := hm0.below hB1
  have hs1 : w.heap.size ≤ w1.heap.size := hM1.size
  have hz_k0 : w.heap.size < w1.heap.size := (Array.getElem?_eq_some_iff.1 k0).1
  clear hB1 hm0 hM0 hb1
  have k0_0 : w1.cell? ⟨w.heap.size, 0, none⟩ = some (.pointer (some ⟨bO, 0, none⟩)) := by rw [cell_of_block k0]; rfl
  have k0_1 : w1.cell? ⟨w.heap.size, 1, none⟩ = some (.pointer (some ⟨bY, 0, none⟩)) := by rw [cell_of_block k0]; rfl
  go_wp2
  go_ret
  exact ⟨rfl, hm1.below (by (repeat (first | exact Below.refl _ _ | assumption | refine Below.drew ?_ | refine below_drewN ?_ _ | refine balloc ?_ _ | refine Below.setCell ?_ (by first | (simp; done) | (simp; omega) | omega) _ | refine bchain (by assumption) ?_))), Mods.chain (show Below w1.heap.size w1 _ from by (repeat (first | exact Below.refl _ _ | assumption | refine Below.drew ?_ | refine below_drewN ?_ _ | refine balloc ?_ _ | refine Below.setCell ?_ (by first | (simp; done) | (simp; omega) | omega) _ | refine bchain (by assumption) ?_))) hM1⟩
set_option maxRecDepth 100000 in
set_option maxHeartbeats 1000000 in
theorem tostub_n {w : World} {bO bY : Nat} {lo ly : Int} {wo wy : List Int} {gO gY : Option Nat} (hm : MemAt w bO bY lo ly wo wy gO gY) (a n u : Int) (he : isE (fun k => !stB k) wo wy a = 0) (hn : okM n = false) :
    Calls Try.prog 37 #[.agg #[.pointer (some ⟨bO, 0, none⟩), .pointer (some ⟨bY, 0, none⟩)], .int .i64 a, .int .i64 n, .int .u64 u] w fun e w' => e = .returned (.int .i64 1) ∧ MemAt w' bO bY lo ly (wo) (wy) gO gY ∧ Mods (MS bO bY gO gY) w w' := by
  have hH := fun (W : World) (H : MemAt W bO bY lo ly wo wy gO gY) => is_unst H a
  have hN := fun W => machine_any n W
  rw [show decide (1 ≤ n ∧ n ≤ 8) = okM n from rfl, hn] at hN
  rw [he] at hH
  clear he hn
  have hM0 : Mods (MS bO bY gO gY) w w := Mods.refl _ _
  have hm0 := hm
  have hn0 := hm.fresh
  go_enter Try.func37, Try.ntmps37
  go_wp2_with fail
  refine (hH _ (hm0.below (by (repeat (first | exact Below.refl _ _ | assumption | refine Below.drew ?_ | refine below_drewN ?_ _ | refine balloc ?_ _ | refine Below.setCell ?_ (by first | (simp; done) | (simp; omega) | omega) _ | refine bchain (by assumption) ?_))))).mono ?_
  rintro e w1 ⟨rfl, hb1⟩
  have hB1 : Below w.heap.size w w1 := by (repeat (first | exact Below.refl _ _ | assumption | refine Below.drew ?_ | refine below_drewN ?_ _ | refine balloc ?_ _ | refine Below.setCell ?_ (by first | (simp; done) | (simp; omega) | omega) _ | refine bchain (by assumption) ?_))
  have k0 : w1.heap[w.heap.size]? = some (.cells #[.pointer (some ⟨bO, 0, none⟩), .pointer (some ⟨bY, 0, none⟩)] 29 (0, 0)) := bblock hb1 (by repeat (first | exact alloc_at _ (by simp) | refine alloc_lt _ ?_))
  have hM1 := Mods.chain hB1 hM0
  have hm1 := hm0.below hB1
  have hs1 : w.heap.size ≤ w1.heap.size := hM1.size
  have hz_k0 : w.heap.size < w1.heap.size := (Array.getElem?_eq_some_iff.1 k0).1
  clear hB1 hm0 hM0 hb1
  have k0_0 : w1.cell? ⟨w.heap.size, 0, none⟩ = some (.pointer (some ⟨bO, 0, none⟩)) := by rw [cell_of_block k0]; rfl
  have k0_1 : w1.cell? ⟨w.heap.size, 1, none⟩ = some (.pointer (some ⟨bY, 0, none⟩)) := by rw [cell_of_block k0]; rfl
  go_wp2_with fail
  refine (hN _).mono ?_
  rintro e w2 ⟨rfl, hb2⟩
  have hB2 : Below w1.heap.size w1 w2 := by (repeat (first | exact Below.refl _ _ | assumption | refine Below.drew ?_ | refine below_drewN ?_ _ | refine balloc ?_ _ | refine Below.setCell ?_ (by first | (simp; done) | (simp; omega) | omega) _ | refine bchain (by assumption) ?_))
  have k0 := bblock hB2 k0
  have hM2 := Mods.chain hB2 hM1
  have hm2 := hm1.below hB2
  have hs2 : w.heap.size ≤ w2.heap.size := hM2.size
  clear hz_k0
  have hz_k0 : w.heap.size < w2.heap.size := (Array.getElem?_eq_some_iff.1 k0).1
  clear hB2 hm1 hM1 hb2
  clear k0_0 k0_1
  have k0_0 : w2.cell? ⟨w.heap.size, 0, none⟩ = some (.pointer (some ⟨bO, 0, none⟩)) := by rw [cell_of_block k0]; rfl
  have k0_1 : w2.cell? ⟨w.heap.size, 1, none⟩ = some (.pointer (some ⟨bY, 0, none⟩)) := by rw [cell_of_block k0]; rfl
  go_wp2
  go_ret
  exact ⟨rfl, hm2.below (by (repeat (first | exact Below.refl _ _ | assumption | refine Below.drew ?_ | refine below_drewN ?_ _ | refine balloc ?_ _ | refine Below.setCell ?_ (by first | (simp; done) | (simp; omega) | omega) _ | refine bchain (by assumption) ?_))), Mods.chain (show Below w2.heap.size w2 _ from by (repeat (first | exact Below.refl _ _ | assumption | refine Below.drew ?_ | refine below_drewN ?_ _ | refine balloc ?_ _ | refine Below.setCell ?_ (by first | (simp; done) | (simp; omega) | omega) _ | refine bchain (by assumption) ?_))) hM2⟩
set_option maxRecDepth 100000 in
set_option maxHeartbeats 1000000 in
theorem tostub_y {w : World} {bO bY : Nat} {lo ly : Int} {wo wy : List Int} {gO gY : Option Nat} (hm : MemAt w bO bY lo ly wo wy gO gY) (a n u : Int) (hu : U64 u) (he : isE (fun k => !stB k) wo wy a = 0) (hn : okM n = true) :
    Calls Try.prog 37 #[.agg #[.pointer (some ⟨bO, 0, none⟩), .pointer (some ⟨bY, 0, none⟩)], .int .i64 a, .int .i64 n, .int .u64 u] w fun e w' => e = .returned (.int .i64 0) ∧ MemAt w' bO bY lo ly ((wrM wo wy a 3 [n, u]).1) ((wrM wo wy a 3 [n, u]).2) gO gY ∧ Mods (MS bO bY gO gY) w w' := by
  have hH := fun (W : World) (H : MemAt W bO bY lo ly wo wy gO gY) => is_unst H a
  have hN := fun W => machine_any n W
  rw [show decide (1 ≤ n ∧ n ≤ 8) = okM n from rfl, hn] at hN
  have hnb : 1 ≤ n ∧ n ≤ 8 := of_decide_eq_true hn
  have hpu : ∀ x ∈ [n, u], U64 x := by
    intro x hx
    simp only [List.mem_cons, List.not_mem_nil, or_false] at hx
    rcases hx with rfl | rfl
    · exact U64.of (by omega) (by omega)
    · exact hu
  have hWr := fun (W : World) (H : MemAt W bO bY lo ly wo wy gO gY) => write_any (H.below (balloc (Below.refl _ W) (.cells #[.int .u64 n, .int .u64 u] 56))) a 3 (.inl rfl) W.heap.size 2 [n, u] (fun i x hx => by rw [cell_of_block (alloc_get _ _)]; rcases i with _ | _ | i <;> simp at hx ⊢ <;> exact hx) hpu (H.fresh _ (Nat.le_refl _)) (by simp) (by omega) (isE_zero he).1
  rw [he] at hH
  generalize (wrM wo wy a 3 [n, u]).1 = wo2 at *
  generalize (wrM wo wy a 3 [n, u]).2 = wy2 at *
  obtain ⟨hn1, hn2⟩ := hnb
  clear he hn hpu hu
  have hM0 : Mods (MS bO bY gO gY) w w := Mods.refl _ _
  have hm0 := hm
  have hn0 := hm.fresh
  go_enter Try.func37, Try.ntmps37
  go_wp2_with fail
  refine (hH _ (hm0.below (by (repeat (first | exact Below.refl _ _ | assumption | refine Below.drew ?_ | refine below_drewN ?_ _ | refine balloc ?_ _ | refine Below.setCell ?_ (by first | (simp; done) | (simp; omega) | omega) _ | refine bchain (by assumption) ?_))))).mono ?_
  rintro e w1 ⟨rfl, hb1⟩
  have hB1 : Below w.heap.size w w1 := by (repeat (first | exact Below.refl _ _ | assumption | refine Below.drew ?_ | refine below_drewN ?_ _ | refine balloc ?_ _ | refine Below.setCell ?_ (by first | (simp; done) | (simp; omega) | omega) _ | refine bchain (by assumption) ?_))
  have k0 : w1.heap[w.heap.size]? = some (.cells #[.pointer (some ⟨bO, 0, none⟩), .pointer (some ⟨bY, 0, none⟩)] 29 (0, 0)) := bblock hb1 (by repeat (first | exact alloc_at _ (by simp) | refine alloc_lt _ ?_))
  have hM1 := Mods.chain hB1 hM0
  have hm1 := hm0.below hB1
  have hs1 : w.heap.size ≤ w1.heap.size := hM1.size
  have hz_k0 : w.heap.size < w1.heap.size := (Array.getElem?_eq_some_iff.1 k0).1
  clear hB1 hm0 hM0 hb1
  have k0_0 : w1.cell? ⟨w.heap.size, 0, none⟩ = some (.pointer (some ⟨bO, 0, none⟩)) := by rw [cell_of_block k0]; rfl
  have k0_1 : w1.cell? ⟨w.heap.size, 1, none⟩ = some (.pointer (some ⟨bY, 0, none⟩)) := by rw [cell_of_block k0]; rfl
  go_wp2_with fail
  refine (hN _).mono ?_
  rintro e w2 ⟨rfl, hb2⟩
  have hB2 : Below w1.heap.size w1 w2 := by (repeat (first | exact Below.refl _ _ | assumption | refine Below.drew ?_ | refine below_drewN ?_ _ | refine balloc ?_ _ | refine Below.setCell ?_ (by first | (simp; done) | (simp; omega) | omega) _ | refine bchain (by assumption) ?_))
  have k0 := bblock hB2 k0
  have hM2 := Mods.chain hB2 hM1
  have hm2 := hm1.below hB2
  have hs2 : w.heap.size ≤ w2.heap.size := hM2.size
  clear hz_k0
  have hz_k0 : w.heap.size < w2.heap.size := (Array.getElem?_eq_some_iff.1 k0).1
  clear hB2 hm1 hM1 hb2
  clear k0_0 k0_1
  have k0_0 : w2.cell? ⟨w.heap.size, 0, none⟩ = some (.pointer (some ⟨bO, 0, none⟩)) := by rw [cell_of_block k0]; rfl
  have k0_1 : w2.cell? ⟨w.heap.size, 1, none⟩ = some (.pointer (some ⟨bY, 0, none⟩)) := by rw [cell_of_block k0]; rfl
  go_wp2_with fail
  refine (hWr _ hm2).mono ?_
  rintro e w9 ⟨rfl, hm9, hX9⟩
  have hM9 := (hM2.alloc (.cells #[.int .u64 n, .int .u64 u] 56)).trans hX9 (fun i hi => .inl hi)
  go_wp2
  go_ret
  exact ⟨rfl, hm9, hM9⟩
theorem tostub_any {w : World} {bO bY : Nat} {lo ly : Int} {wo wy : List Int} {gO gY : Option Nat} (hm : MemAt w bO bY lo ly wo wy gO gY) (a n u : Int) (hu : U64 u) : Calls Try.prog 37 #[.agg #[.pointer (some ⟨bO, 0, none⟩), .pointer (some ⟨bY, 0, none⟩)], .int .i64 a, .int .i64 n, .int .u64 u] w fun e w' => e = .returned (.int .i64 (tsE wo wy a n)) ∧ MemAt w' bO bY lo ly (tsM wo wy a n u).1 (tsM wo wy a n u).2 gO gY ∧ Mods (MS bO bY gO gY) w w' := by
  by_cases he : isE (fun k => !stB k) wo wy a = 0
  · cases hn : okM n
    · have e : tsE wo wy a n = 1 := by unfold tsE; rw [if_neg (by simpa using he), hn]; rfl
      unfold tsM
      rw [e, if_neg (by decide)]
      exact tostub_n hm a n u he hn
    · have e : tsE wo wy a n = 0 := by unfold tsE; rw [if_neg (by simpa using he), hn]; rfl
      unfold tsM
      rw [e, if_pos rfl]
      exact tostub_y hm a n u hu he hn
  · have e : tsE wo wy a n = isE (fun k => !stB k) wo wy a := by unfold tsE; rw [if_pos he]
    unfold tsM
    rw [e, if_neg he]
    exact tostub_e hm a n u he
def sbE (wo wy : List Int) (a : Int) : Int := isE (fun k => k == 3) wo wy a
def sbN (wo wy : List Int) (a : Int) : Int := if sbE wo wy a = 0 then wrap64 (LD wo wy (a + 2)) else 0
def sbU (wo wy : List Int) (a : Int) : Int := if sbE wo wy a = 0 then LD wo wy (a + 3) else 0
set_option maxRecDepth 100000 in
set_option maxHeartbeats 1000000 in
theorem mstub_e {w : World} {bO bY : Nat} {lo ly : Int} {wo wy : List Int} {gO gY : Option Nat} (hm : MemAt w bO bY lo ly wo wy gO gY) (a : Int) (he : sbE wo wy a ≠ 0) :
    Calls Try.prog 34 #[.agg #[.pointer (some ⟨bO, 0, none⟩), .pointer (some ⟨bY, 0, none⟩)], .int .i64 a] w fun e w' => e = .returned (.tuple #[.int .i64 0, .int .u64 0, .int .i64 (sbE wo wy a)]) ∧ Below w.heap.size w w' := by
  have hH := fun W (h : Below w.heap.size w W) => is_stub (hm.below h) a
  unfold sbE at *
  generalize isE (fun k => k == 3) wo wy a = er at *
  have hb1 : (er != 0) = true := by simpa using he
  clear hm he
  have hw0 : Below w.heap.size w w := Below.refl _ _
  go_enter Try.func34, Try.ntmps34
  go_wp2_with fail
  refine (hH _ (by (repeat (first | exact Below.refl _ _ | assumption | refine Below.drew ?_ | refine below_drewN ?_ _ | refine balloc ?_ _ | refine Below.setCell ?_ (by first | (simp; done) | (simp; omega) | omega) _ | refine bchain (by assumption) ?_)))).mono ?_
  rintro e w1 ⟨rfl, hb1⟩
  have hB1 : Below w.heap.size w w1 := by (repeat (first | exact Below.refl _ _ | assumption | refine Below.drew ?_ | refine below_drewN ?_ _ | refine balloc ?_ _ | refine Below.setCell ?_ (by first | (simp; done) | (simp; omega) | omega) _ | refine bchain (by assumption) ?_))
  have k0 : w1.heap[w.heap.size]? = some (.cells #[.pointer (some ⟨bO, 0, none⟩), .pointer (some ⟨bY, 0, none⟩)] 29 (0, 0)) := bblock hb1 (by repeat (first | exact alloc_at _ (by simp) | refine alloc_lt _ ?_))
  have hw1 := bchain hB1 hw0
  have hz_k0 : w.heap.size < w1.heap.size := (Array.getElem?_eq_some_iff.1 k0).1
  clear hB1
  have k0_0 : w1.cell? ⟨w.heap.size, 0, none⟩ = some (.pointer (some ⟨bO, 0, none⟩)) := by rw [cell_of_block k0]; rfl
  have k0_1 : w1.cell? ⟨w.heap.size, 1, none⟩ = some (.pointer (some ⟨bY, 0, none⟩)) := by rw [cell_of_block k0]; rfl
  go_wp2
  go_ret3
  exact ⟨rfl, by (repeat (first | exact Below.refl _ _ | assumption | refine Below.drew ?_ | refine below_drewN ?_ _ | refine balloc ?_ _ | refine Below.setCell ?_ (by first | (simp; done) | (simp; omega) | omega) _ | refine bchain (by assumption) ?_))⟩
set_option maxRecDepth 100000 in
set_option maxHeartbeats 1000000 in
theorem mstub_y {w : World} {bO bY : Nat} {lo ly : Int} {wo wy : List Int} {gO gY : Option Nat} (hm : MemAt w bO bY lo ly wo wy gO gY) (a : Int) (he : sbE wo wy a = 0) :
    Calls Try.prog 34 #[.agg #[.pointer (some ⟨bO, 0, none⟩), .pointer (some ⟨bY, 0, none⟩)], .int .i64 a] w fun e w' => e = .returned (.tuple #[.int .i64 (wrap64 (LD wo wy (a + 2))), .int .u64 (LD wo wy (a + 3)), .int .i64 0]) ∧ Below w.heap.size w w' := by
  have hH := fun W (h : Below w.heap.size w W) => is_stub (hm.below h) a
  have hL2 := fun W (h : Below w.heap.size w W) => mload_any (hm.below h) (a + 2)
  have hL3 := fun W (h : Below w.heap.size w W) => mload_any (hm.below h) (a + 3)
  unfold sbE at *
  rw [he] at hH
  have he0 := (isE_zero he).1
  have hbd := HE_bd he0
  have hk1 := (hm.partOk a).b0
  have hk2 := (hm.partOk a).top
  have hk3 := (hm.partOk a).lm1
  have hx0 : 0 ≤ wordsI (HF wo wy a) := by unfold wordsI; split <;> omega
  have ha : 0 ≤ a ∧ a ≤ 1099511627776 := by omega
  obtain ⟨ha0, ha1⟩ := ha
  generalize LD wo wy (a + 2) = x at *
  generalize LE wo wy (a + 2) = y at *
  generalize LD wo wy (a + 3) = x3 at *
  generalize LE wo wy (a + 3) = y3 at *
  clear hm he he0 hbd hk1 hk2 hk3 hx0
  have hw0 : Below w.heap.size w w := Below.refl _ _
  go_enter Try.func34, Try.ntmps34
  go_wp2_with fail
  refine (hH _ (by (repeat (first | exact Below.refl _ _ | assumption | refine Below.drew ?_ | refine below_drewN ?_ _ | refine balloc ?_ _ | refine Below.setCell ?_ (by first | (simp; done) | (simp; omega) | omega) _ | refine bchain (by assumption) ?_)))).mono ?_
  rintro e w1 ⟨rfl, hb1⟩
  have hB1 : Below w.heap.size w w1 := by (repeat (first | exact Below.refl _ _ | assumption | refine Below.drew ?_ | refine below_drewN ?_ _ | refine balloc ?_ _ | refine Below.setCell ?_ (by first | (simp; done) | (simp; omega) | omega) _ | refine bchain (by assumption) ?_))
  have k0 : w1.heap[w.heap.size]? = some (.cells #[.pointer (some ⟨bO, 0, none⟩), .pointer (some ⟨bY, 0, none⟩)] 29 (0, 0)) := bblock hb1 (by repeat (first | exact alloc_at _ (by simp) | refine alloc_lt _ ?_))
  have hw1 := bchain hB1 hw0
  have hz_k0 : w.heap.size < w1.heap.size := (Array.getElem?_eq_some_iff.1 k0).1
  clear hB1
  have k0_0 : w1.cell? ⟨w.heap.size, 0, none⟩ = some (.pointer (some ⟨bO, 0, none⟩)) := by rw [cell_of_block k0]; rfl
  have k0_1 : w1.cell? ⟨w.heap.size, 1, none⟩ = some (.pointer (some ⟨bY, 0, none⟩)) := by rw [cell_of_block k0]; rfl
  go_wp2_with fail
  refine (hL2 _ (by (repeat (first | exact Below.refl _ _ | assumption | refine Below.drew ?_ | refine below_drewN ?_ _ | refine balloc ?_ _ | refine Below.setCell ?_ (by first | (simp; done) | (simp; omega) | omega) _ | refine bchain (by assumption) ?_)))).mono ?_
  rintro e w2 ⟨rfl, hb2⟩
  have hB2 : Below w1.heap.size w1 w2 := by (repeat (first | exact Below.refl _ _ | assumption | refine Below.drew ?_ | refine below_drewN ?_ _ | refine balloc ?_ _ | refine Below.setCell ?_ (by first | (simp; done) | (simp; omega) | omega) _ | refine bchain (by assumption) ?_))
  have k0 := bblock hB2 k0
  have hw2 := bchain hB2 hw1
  clear hz_k0
  have hz_k0 : w.heap.size < w2.heap.size := (Array.getElem?_eq_some_iff.1 k0).1
  clear hB2
  clear k0_0 k0_1
  have k0_0 : w2.cell? ⟨w.heap.size, 0, none⟩ = some (.pointer (some ⟨bO, 0, none⟩)) := by rw [cell_of_block k0]; rfl
  have k0_1 : w2.cell? ⟨w.heap.size, 1, none⟩ = some (.pointer (some ⟨bY, 0, none⟩)) := by rw [cell_of_block k0]; rfl
  go_wp2_with fail
  refine (hL3 _ (by (repeat (first | exact Below.refl _ _ | assumption | refine Below.drew ?_ | refine below_drewN ?_ _ | refine balloc ?_ _ | refine Below.setCell ?_ (by first | (simp; done) | (simp; omega) | omega) _ | refine bchain (by assumption) ?_)))).mono ?_
  rintro e w3 ⟨rfl, hb3⟩
  have hB3 : Below w2.heap.size w2 w3 := by (repeat (first | exact Below.refl _ _ | assumption | refine Below.drew ?_ | refine below_drewN ?_ _ | refine balloc ?_ _ | refine Below.setCell ?_ (by first | (simp; done) | (simp; omega) | omega) _ | refine bchain (by assumption) ?_))
  have k0 := bblock hB3 k0
  have hw3 := bchain hB3 hw2
  clear hz_k0
  have hz_k0 : w.heap.size < w3.heap.size := (Array.getElem?_eq_some_iff.1 k0).1
  clear hB3
  clear k0_0 k0_1
  have k0_0 : w3.cell? ⟨w.heap.size, 0, none⟩ = some (.pointer (some ⟨bO, 0, none⟩)) := by rw [cell_of_block k0]; rfl
  have k0_1 : w3.cell? ⟨w.heap.size, 1, none⟩ = some (.pointer (some ⟨bY, 0, none⟩)) := by rw [cell_of_block k0]; rfl
  go_wp2
  go_ret3
  exact ⟨rfl, by (repeat (first | exact Below.refl _ _ | assumption | refine Below.drew ?_ | refine below_drewN ?_ _ | refine balloc ?_ _ | refine Below.setCell ?_ (by first | (simp; done) | (simp; omega) | omega) _ | refine bchain (by assumption) ?_))⟩
theorem mstub_any {w : World} {bO bY : Nat} {lo ly : Int} {wo wy : List Int} {gO gY : Option Nat} (hm : MemAt w bO bY lo ly wo wy gO gY) (a : Int) : Calls Try.prog 34 #[.agg #[.pointer (some ⟨bO, 0, none⟩), .pointer (some ⟨bY, 0, none⟩)], .int .i64 a] w fun e w' => e = .returned (.tuple #[.int .i64 (sbN wo wy a), .int .u64 (sbU wo wy a), .int .i64 (sbE wo wy a)]) ∧ Below w.heap.size w w' := by
  unfold sbN sbU
  by_cases he : sbE wo wy a = 0
  · rw [if_pos he, if_pos he, he]
    exact mstub_y hm a he
  · rw [if_neg he, if_neg he]
    exact mstub_e hm a he
def rrE (wo wy : List Int) (a n : Int) : Int := if sbE wo wy a ≠ 0 then sbE wo wy a else if okM n then 0 else 1
def rrM (wo wy : List Int) (a n u : Int) : List Int × List Int := if rrE wo wy a n = 0 then (stO (stO wo (a + 2) n) (a + 3) u, stY (stY wy (a + 2) n) (a + 3) u) else (wo, wy)
set_option maxRecDepth 100000 in
set_option maxHeartbeats 1000000 in
theorem reroute_e {w : World} {bO bY : Nat} {lo ly : Int} {wo wy : List Int} {gO gY : Option Nat} (hm : MemAt w bO bY lo ly wo wy gO gY) (a n u : Int) (he : sbE wo wy a ≠ 0) :
    Calls Try.prog 59 #[.agg #[.pointer (some ⟨bO, 0, none⟩), .pointer (some ⟨bY, 0, none⟩)], .int .i64 a, .int .i64 n, .int .u64 u] w fun e w' => e = .returned (.int .i64 (sbE wo wy a)) ∧ MemAt w' bO bY lo ly (wo) (wy) gO gY ∧ Mods (MS bO bY gO gY) w w' := by
  have hH := fun (W : World) (H : MemAt W bO bY lo ly wo wy gO gY) => is_stub H a
  unfold sbE at *
  generalize isE (fun k => k == 3) wo wy a = er at *
  have hb1 : (er != 0) = true := by simpa using he
  clear he
  have hM0 : Mods (MS bO bY gO gY) w w := Mods.refl _ _
  have hm0 := hm
  have hn0 := hm.fresh
  go_enter Try.func59, Try.ntmps59
  go_wp2_with fail
  refine (hH _ (hm0.below (by (repeat (first | exact Below.refl _ _ | assumption | refine Below.drew ?_ | refine below_drewN ?_ _ | refine balloc ?_ _ | refine Below.setCell ?_ (by first | (simp; done) | (simp; omega) | omega) _ | refine bchain (by assumption) ?_))))).mono ?_
  rintro e w1 ⟨rfl, hb1⟩
  have hB1 : Below w.heap.size w w1 := by (repeat (first | exact Below.refl _ _ | assumption | refine Below.drew ?_ | refine below_drewN ?_ _ | refine balloc ?_ _ | refine Below.setCell ?_ (by first | (simp; done) | (simp; omega) | omega) _ | refine bchain (by assumption) ?_))
  have k0 : w1.heap[w.heap.size]? = some (.cells #[.pointer (some ⟨bO, 0, none⟩), .pointer (some ⟨bY, 0, none⟩)] 29 (0, 0)) := bblock hb1 (by repeat (first | exact alloc_at _ (by simp) | refine alloc_lt _ ?_))
  have hM1 := Mods.chain hB1 hM0
  have hm1 := hm0.below hB1
  have hs1 : w.heap.size ≤ w1.heap.size := hM1.size
  have hz_k0 : w.heap.size < w1.heap.size := (Array.getElem?_eq_some_iff.1 k0).1
  clear hB1 hm0 hM0 hb1
  have k0_0 : w1.cell? ⟨w.heap.size, 0, none⟩ = some (.pointer (some ⟨bO, 0, none⟩)) := by rw [cell_of_block k0]; rfl
  have k0_1 : w1.cell? ⟨w.heap.size, 1, none⟩ = some (.pointer (some ⟨bY, 0, none⟩)) := by rw [cell_of_block k0]; rfl
  go_wp2
  go_ret
  exact ⟨rfl, hm1.below (by (repeat (first | exact Below.refl _ _ | assumption | refine Below.drew ?_ | refine below_drewN ?_ _ | refine balloc ?_ _ | refine Below.setCell ?_ (by first | (simp; done) | (simp; omega) | omega) _ | refine bchain (by assumption) ?_))), Mods.chain (show Below w1.heap.size w1 _ from by (repeat (first | exact Below.refl _ _ | assumption | refine Below.drew ?_ | refine below_drewN ?_ _ | refine balloc ?_ _ | refine Below.setCell ?_ (by first | (simp; done) | (simp; omega) | omega) _ | refine bchain (by assumption) ?_))) hM1⟩
set_option maxRecDepth 100000 in
set_option maxHeartbeats 1000000 in
theorem reroute_n {w : World} {bO bY : Nat} {lo ly : Int} {wo wy : List Int} {gO gY : Option Nat} (hm : MemAt w bO bY lo ly wo wy gO gY) (a n u : Int) (he : sbE wo wy a = 0) (hn : okM n = false) :
    Calls Try.prog 59 #[.agg #[.pointer (some ⟨bO, 0, none⟩), .pointer (some ⟨bY, 0, none⟩)], .int .i64 a, .int .i64 n, .int .u64 u] w fun e w' => e = .returned (.int .i64 1) ∧ MemAt w' bO bY lo ly (wo) (wy) gO gY ∧ Mods (MS bO bY gO gY) w w' := by
  have hH := fun (W : World) (H : MemAt W bO bY lo ly wo wy gO gY) => is_stub H a
  have hN := fun W => machine_any n W
  rw [show decide (1 ≤ n ∧ n ≤ 8) = okM n from rfl, hn] at hN
  unfold sbE at *
  rw [he] at hH
  clear he hn
  have hM0 : Mods (MS bO bY gO gY) w w := Mods.refl _ _
  have hm0 := hm
  have hn0 := hm.fresh
  go_enter Try.func59, Try.ntmps59
  go_wp2_with fail
  refine (hH _ (hm0.below (by (repeat (first | exact Below.refl _ _ | assumption | refine Below.drew ?_ | refine below_drewN ?_ _ | refine balloc ?_ _ | refine Below.setCell ?_ (by first | (simp; done) | (simp; omega) | omega) _ | refine bchain (by assumption) ?_))))).mono ?_
  rintro e w1 ⟨rfl, hb1⟩
  have hB1 : Below w.heap.size w w1 := by (repeat (first | exact Below.refl _ _ | assumption | refine Below.drew ?_ | refine below_drewN ?_ _ | refine balloc ?_ _ | refine Below.setCell ?_ (by first | (simp; done) | (simp; omega) | omega) _ | refine bchain (by assumption) ?_))
  have k0 : w1.heap[w.heap.size]? = some (.cells #[.pointer (some ⟨bO, 0, none⟩), .pointer (some ⟨bY, 0, none⟩)] 29 (0, 0)) := bblock hb1 (by repeat (first | exact alloc_at _ (by simp) | refine alloc_lt _ ?_))
  have hM1 := Mods.chain hB1 hM0
  have hm1 := hm0.below hB1
  have hs1 : w.heap.size ≤ w1.heap.size := hM1.size
  have hz_k0 : w.heap.size < w1.heap.size := (Array.getElem?_eq_some_iff.1 k0).1
  clear hB1 hm0 hM0 hb1
  have k0_0 : w1.cell? ⟨w.heap.size, 0, none⟩ = some (.pointer (some ⟨bO, 0, none⟩)) := by rw [cell_of_block k0]; rfl
  have k0_1 : w1.cell? ⟨w.heap.size, 1, none⟩ = some (.pointer (some ⟨bY, 0, none⟩)) := by rw [cell_of_block k0]; rfl
  go_wp2_with fail
  refine (hN _).mono ?_
  rintro e w2 ⟨rfl, hb2⟩
  have hB2 : Below w1.heap.size w1 w2 := by (repeat (first | exact Below.refl _ _ | assumption | refine Below.drew ?_ | refine below_drewN ?_ _ | refine balloc ?_ _ | refine Below.setCell ?_ (by first | (simp; done) | (simp; omega) | omega) _ | refine bchain (by assumption) ?_))
  have k0 := bblock hB2 k0
  have hM2 := Mods.chain hB2 hM1
  have hm2 := hm1.below hB2
  have hs2 : w.heap.size ≤ w2.heap.size := hM2.size
  clear hz_k0
  have hz_k0 : w.heap.size < w2.heap.size := (Array.getElem?_eq_some_iff.1 k0).1
  clear hB2 hm1 hM1 hb2
  clear k0_0 k0_1
  have k0_0 : w2.cell? ⟨w.heap.size, 0, none⟩ = some (.pointer (some ⟨bO, 0, none⟩)) := by rw [cell_of_block k0]; rfl
  have k0_1 : w2.cell? ⟨w.heap.size, 1, none⟩ = some (.pointer (some ⟨bY, 0, none⟩)) := by rw [cell_of_block k0]; rfl
  go_wp2
  go_ret
  exact ⟨rfl, hm2.below (by (repeat (first | exact Below.refl _ _ | assumption | refine Below.drew ?_ | refine below_drewN ?_ _ | refine balloc ?_ _ | refine Below.setCell ?_ (by first | (simp; done) | (simp; omega) | omega) _ | refine bchain (by assumption) ?_))), Mods.chain (show Below w2.heap.size w2 _ from by (repeat (first | exact Below.refl _ _ | assumption | refine Below.drew ?_ | refine below_drewN ?_ _ | refine balloc ?_ _ | refine Below.setCell ?_ (by first | (simp; done) | (simp; omega) | omega) _ | refine bchain (by assumption) ?_))) hM2⟩
set_option maxRecDepth 100000 in
set_option maxHeartbeats 1000000 in
theorem reroute_y {w : World} {bO bY : Nat} {lo ly : Int} {wo wy : List Int} {gO gY : Option Nat} (hm : MemAt w bO bY lo ly wo wy gO gY) (a n u : Int) (hu : U64 u) (he : sbE wo wy a = 0) (hn : okM n = true) :
    Calls Try.prog 59 #[.agg #[.pointer (some ⟨bO, 0, none⟩), .pointer (some ⟨bY, 0, none⟩)], .int .i64 a, .int .i64 n, .int .u64 u] w fun e w' => e = .returned (.int .i64 0) ∧ MemAt w' bO bY lo ly (stO (stO wo (a + 2) n) (a + 3) u) (stY (stY wy (a + 2) n) (a + 3) u) gO gY ∧ Mods (MS bO bY gO gY) w w' := by
  have hH := fun (W : World) (H : MemAt W bO bY lo ly wo wy gO gY) => is_stub H a
  have hN := fun W => machine_any n W
  rw [show decide (1 ≤ n ∧ n ≤ 8) = okM n from rfl, hn] at hN
  have hnb : 1 ≤ n ∧ n ≤ 8 := of_decide_eq_true hn
  obtain ⟨hn1, hn2⟩ := hnb
  have hS1 := fun (W : World) (H : MemAt W bO bY lo ly wo wy gO gY) => mstore_any H (a + 2) n (U64.of (by omega) (by omega))
  have hS2 := fun (W : World) (H : MemAt W bO bY lo ly (stO wo (a + 2) n) (stY wy (a + 2) n) gO gY) => mstore_any H (a + 3) u hu
  unfold sbE at *
  rw [he] at hH
  have he0 := (isE_zero he).1
  have hbd := HE_bd he0
  have hk1 := (hm.partOk a).b0
  have hk2 := (hm.partOk a).top
  have hk3 := (hm.partOk a).lm1
  have hx0 : 0 ≤ wordsI (HF wo wy a) := by unfold wordsI; split <;> omega
  have ha : 0 ≤ a ∧ a ≤ 1099511627776 := by omega
  obtain ⟨ha0, ha1⟩ := ha
  generalize stO wo (a + 2) n = wo1 at *
  generalize stY wy (a + 2) n = wy1 at *
  generalize LE wo wy (a + 2) = l1 at *
  generalize LE wo1 wy1 (a + 3) = l2 at *
  generalize stO wo1 (a + 3) u = wo2 at *
  generalize stY wy1 (a + 3) u = wy2 at *
  clear he hn he0 hbd hk1 hk2 hk3 hx0 hu
  have hM0 : Mods (MS bO bY gO gY) w w := Mods.refl _ _
  have hm0 := hm
  have hn0 := hm.fresh
  go_enter Try.func59, Try.ntmps59
  go_wp2_with fail
  refine (hH _ (hm0.below (by (repeat (first | exact Below.refl _ _ | assumption | refine Below.drew ?_ | refine below_drewN ?_ _ | refine balloc ?_ _ | refine Below.setCell ?_ (by first | (simp; done) | (simp; omega) | omega) _ | refine bchain (by assumption) ?_))))).mono ?_
  rintro e w1 ⟨rfl, hb1⟩
  have hB1 : Below w.heap.size w w1 := by (repeat (first | exact Below.refl _ _ | assumption | refine Below.drew ?_ | refine below_drewN ?_ _ | refine balloc ?_ _ | refine Below.setCell ?_ (by first | (simp; done) | (simp; omega) | omega) _ | refine bchain (by assumption) ?_))
  have k0 : w1.heap[w.heap.size]? = some (.cells #[.pointer (some ⟨bO, 0, none⟩), .pointer (some ⟨bY, 0, none⟩)] 29 (0, 0)) := bblock hb1 (by repeat (first | exact alloc_at _ (by simp) | refine alloc_lt _ ?_))
  have hM1 := Mods.chain hB1 hM0
  have hm1 := hm0.below hB1
  have hs1 : w.heap.size ≤ w1.heap.size := hM1.size
  have hz_k0 : w.heap.size < w1.heap.size := (Array.getElem?_eq_some_iff.1 k0).1
  clear hB1 hm0 hM0 hb1
  have k0_0 : w1.cell? ⟨w.heap.size, 0, none⟩ = some (.pointer (some ⟨bO, 0, none⟩)) := by rw [cell_of_block k0]; rfl
  have k0_1 : w1.cell? ⟨w.heap.size, 1, none⟩ = some (.pointer (some ⟨bY, 0, none⟩)) := by rw [cell_of_block k0]; rfl
  go_wp2_with fail
  refine (hN _).mono ?_
  rintro e w2 ⟨rfl, hb2⟩
  have hB2 : Below w1.heap.size w1 w2 := by (repeat (first | exact Below.refl _ _ | assumption | refine Below.drew ?_ | refine below_drewN ?_ _ | refine balloc ?_ _ | refine Below.setCell ?_ (by first | (simp; done) | (simp; omega) | omega) _ | refine bchain (by assumption) ?_))
  have k0 := bblock hB2 k0
  have hM2 := Mods.chain hB2 hM1
  have hm2 := hm1.below hB2
  have hs2 : w.heap.size ≤ w2.heap.size := hM2.size
  clear hz_k0
  have hz_k0 : w.heap.size < w2.heap.size := (Array.getElem?_eq_some_iff.1 k0).1
  clear hB2 hm1 hM1 hb2
  clear k0_0 k0_1
  have k0_0 : w2.cell? ⟨w.heap.size, 0, none⟩ = some (.pointer (some ⟨bO, 0, none⟩)) := by rw [cell_of_block k0]; rfl
  have k0_1 : w2.cell? ⟨w.heap.size, 1, none⟩ = some (.pointer (some ⟨bY, 0, none⟩)) := by rw [cell_of_block k0]; rfl
  go_wp2_with fail
  refine (hS1 _ (hm2.below (by (repeat (first | exact Below.refl _ _ | assumption | refine Below.drew ?_ | refine below_drewN ?_ _ | refine balloc ?_ _ | refine Below.setCell ?_ (by first | (simp; done) | (simp; omega) | omega) _ | refine bchain (by assumption) ?_))))).mono ?_
  rintro e w3 ⟨rfl, hm3, hX3⟩
  have k0 := mblock hX3 (bblock (show Below w2.heap.size w2 _ from by (repeat (first | exact Below.refl _ _ | assumption | refine Below.drew ?_ | refine below_drewN ?_ _ | refine balloc ?_ _ | refine Below.setCell ?_ (by first | (simp; done) | (simp; omega) | omega) _ | refine bchain (by assumption) ?_))) k0) (hn0 _ (by omega))
  have hM3 := (Mods.chain (show Below w2.heap.size w2 _ from by (repeat (first | exact Below.refl _ _ | assumption | refine Below.drew ?_ | refine below_drewN ?_ _ | refine balloc ?_ _ | refine Below.setCell ?_ (by first | (simp; done) | (simp; omega) | omega) _ | refine bchain (by assumption) ?_))) hM2).trans hX3 (fun i hi => .inl hi)
  have hs3 : w.heap.size ≤ w3.heap.size := hM3.size
  clear hz_k0
  have hz_k0 : w.heap.size < w3.heap.size := (Array.getElem?_eq_some_iff.1 k0).1
  clear hm2 hM2 hX3
  clear k0_0 k0_1
  have k0_0 : w3.cell? ⟨w.heap.size, 0, none⟩ = some (.pointer (some ⟨bO, 0, none⟩)) := by rw [cell_of_block k0]; rfl
  have k0_1 : w3.cell? ⟨w.heap.size, 1, none⟩ = some (.pointer (some ⟨bY, 0, none⟩)) := by rw [cell_of_block k0]; rfl
  go_wp2_with fail
  refine (hS2 _ (hm3.below (by (repeat (first | exact Below.refl _ _ | assumption | refine Below.drew ?_ | refine below_drewN ?_ _ | refine balloc ?_ _ | refine Below.setCell ?_ (by first | (simp; done) | (simp; omega) | omega) _ | refine bchain (by assumption) ?_))))).mono ?_
  rintro e w4 ⟨rfl, hm4, hX4⟩
  have k0 := mblock hX4 (bblock (show Below w3.heap.size w3 _ from by (repeat (first | exact Below.refl _ _ | assumption | refine Below.drew ?_ | refine below_drewN ?_ _ | refine balloc ?_ _ | refine Below.setCell ?_ (by first | (simp; done) | (simp; omega) | omega) _ | refine bchain (by assumption) ?_))) k0) (hn0 _ (by omega))
  have hM4 := (Mods.chain (show Below w3.heap.size w3 _ from by (repeat (first | exact Below.refl _ _ | assumption | refine Below.drew ?_ | refine below_drewN ?_ _ | refine balloc ?_ _ | refine Below.setCell ?_ (by first | (simp; done) | (simp; omega) | omega) _ | refine bchain (by assumption) ?_))) hM3).trans hX4 (fun i hi => .inl hi)
  have hs4 : w.heap.size ≤ w4.heap.size := hM4.size
  clear hz_k0
  have hz_k0 : w.heap.size < w4.heap.size := (Array.getElem?_eq_some_iff.1 k0).1
  clear hm3 hM3 hX4
  clear k0_0 k0_1
  have k0_0 : w4.cell? ⟨w.heap.size, 0, none⟩ = some (.pointer (some ⟨bO, 0, none⟩)) := by rw [cell_of_block k0]; rfl
  have k0_1 : w4.cell? ⟨w.heap.size, 1, none⟩ = some (.pointer (some ⟨bY, 0, none⟩)) := by rw [cell_of_block k0]; rfl
  go_wp2
  go_ret
  exact ⟨rfl, hm4.below (by (repeat (first | exact Below.refl _ _ | assumption | refine Below.drew ?_ | refine below_drewN ?_ _ | refine balloc ?_ _ | refine Below.setCell ?_ (by first | (simp; done) | (simp; omega) | omega) _ | refine bchain (by assumption) ?_))), Mods.chain (show Below w4.heap.size w4 _ from by (repeat (first | exact Below.refl _ _ | assumption | refine Below.drew ?_ | refine below_drewN ?_ _ | refine balloc ?_ _ | refine Below.setCell ?_ (by first | (simp; done) | (simp; omega) | omega) _ | refine bchain (by assumption) ?_))) hM4⟩
theorem reroute_any {w : World} {bO bY : Nat} {lo ly : Int} {wo wy : List Int} {gO gY : Option Nat} (hm : MemAt w bO bY lo ly wo wy gO gY) (a n u : Int) (hu : U64 u) : Calls Try.prog 59 #[.agg #[.pointer (some ⟨bO, 0, none⟩), .pointer (some ⟨bY, 0, none⟩)], .int .i64 a, .int .i64 n, .int .u64 u] w fun e w' => e = .returned (.int .i64 (rrE wo wy a n)) ∧ MemAt w' bO bY lo ly (rrM wo wy a n u).1 (rrM wo wy a n u).2 gO gY ∧ Mods (MS bO bY gO gY) w w' := by
  by_cases he : sbE wo wy a = 0
  · cases hn : okM n
    · have e : rrE wo wy a n = 1 := by unfold rrE; rw [if_neg (by simpa using he), hn]; rfl
      unfold rrM
      rw [e, if_neg (by decide)]
      exact reroute_n hm a n u he hn
    · have e : rrE wo wy a n = 0 := by unfold rrE; rw [if_neg (by simpa using he), hn]; rfl
      unfold rrM
      rw [e, if_pos rfl]
      exact reroute_y hm a n u hu he hn
  · have e : rrE wo wy a n = sbE wo wy a := by unfold rrE; rw [if_pos he]
    unfold rrM
    rw [e, if_neg he]
    exact reroute_e hm a n u he
end Go.Proofs.Ytcmhgjkijegpnaa
