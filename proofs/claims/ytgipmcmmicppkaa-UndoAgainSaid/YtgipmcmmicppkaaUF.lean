/-
  The reference's memory: refmeshref06.Load; refmeshref07.part, Load, Header.
-/
import Derived.Test.YtgipmcmmicppkaaUE
import Derived.Test.YtgipmcmmicppkaaUB
import Derived.BigQuiet
namespace Go.Proofs.Ytgipmcmmicppkaa
open Go.RowKit
set_option linter.unusedSimpArgs false
set_option linter.unusedVariables false

/-! ### refmeshref06.Load -/
set_option maxRecDepth 100000 in
set_option maxHeartbeats 1000000 in
theorem rload_no {w : World} {A : Option Addr} {n cap : Nat} {bs lm : Int} {ws : List Int} {g : Option Nat} (h : MdAt w (.agg #[.int .i64 bs, .int .i64 lm, .slice A n cap]) bs lm ws g) (hk : SpOk bs lm ws) (hn : ws.length = n) (x : Int) (hx : inB bs ws.length x = false) :
    Calls Try.prog 76 #[.agg #[.int .i64 bs, .int .i64 lm, .slice A n cap], .int .i64 x] w fun e w' => e = .returned (.tuple #[.int .u64 0, .int .i64 2]) ∧ Below w.heap.size w w' := by
  have hC := fun W (H : Below w.heap.size w W) => rcontains_any (h.below H) hk x
  rw [hx] at hC
  clear h hk hx hn
  have hw0 : Below w.heap.size w w := Below.refl _ _
  go_enter Try.func76, Try.ntmps76
  go_wp2_with fail
  refine (hC _ (by (repeat (first | exact Below.refl _ _ | assumption | refine Below.drew ?_ | refine below_drewN ?_ _ | refine balloc ?_ _ | refine Below.setCell ?_ (by first | (simp; done) | (simp; omega) | omega) _ | refine bchain (by assumption) ?_)))).mono ?_
  rintro e w1 ⟨rfl, hb1⟩
  have hB1 : Below w.heap.size w w1 := by (repeat (first | exact Below.refl _ _ | assumption | refine Below.drew ?_ | refine below_drewN ?_ _ | refine balloc ?_ _ | refine Below.setCell ?_ (by first | (simp; done) | (simp; omega) | omega) _ | refine bchain (by assumption) ?_))
  have k0 : w1.heap[w.heap.size]? = some (.cells #[.int .i64 bs, .int .i64 lm, .slice A n cap] 33 (0, 0)) := bblock hb1 (by repeat (first | exact alloc_at _ (by simp) | refine alloc_lt _ ?_))
  have hw1 := bchain hB1 hw0
  have hz_k0 : w.heap.size < w1.heap.size := (Array.getElem?_eq_some_iff.1 k0).1
  clear hB1
  have k0_0 : w1.cell? ⟨w.heap.size, 0, none⟩ = some (.int .i64 bs) := by rw [cell_of_block k0]; rfl
  have k0_1 : w1.cell? ⟨w.heap.size, 1, none⟩ = some (.int .i64 lm) := by rw [cell_of_block k0]; rfl
  have k0_2 : w1.cell? ⟨w.heap.size, 2, none⟩ = some (.slice A n cap) := by rw [cell_of_block k0]; rfl
  go_wp2
  go_ret2
  exact ⟨rfl, by (repeat (first | exact Below.refl _ _ | assumption | refine Below.drew ?_ | refine below_drewN ?_ _ | refine balloc ?_ _ | refine Below.setCell ?_ (by first | (simp; done) | (simp; omega) | omega) _ | refine bchain (by assumption) ?_))⟩
set_option maxRecDepth 100000 in
set_option maxHeartbeats 1000000 in
theorem rload_yes {w : World} {A : Option Addr} {n cap : Nat} {bs lm : Int} {ws : List Int} {g : Option Nat} (h : MdAt w (.agg #[.int .i64 bs, .int .i64 lm, .slice A n cap]) bs lm ws g) (hk : SpOk bs lm ws) (hn : ws.length = n) (i : Nat) (hi : i < ws.length) :
    Calls Try.prog 76 #[.agg #[.int .i64 bs, .int .i64 lm, .slice A n cap], .int .i64 (bs + i)] w fun e w' => e = .returned (.tuple #[.int .u64 (ws.getD i 0), .int .i64 0]) ∧ Below w.heap.size w w' := by
  have hC := fun W (H : Below w.heap.size w W) => rcontains_any (h.below H) hk (bs + i)
  rw [inB_iff.2 ⟨by omega, by omega⟩] at hC
  obtain ⟨a', cap', hv, hr⟩ := h
  simp only [Value.agg.injEq, Array.mk.injEq, List.cons.injEq, Value.slice.injEq, and_true, true_and] at hv
  obtain ⟨rfl, rfl, rfl⟩ := hv
  have b0 := hk.b0
  have b1 := hk.top
  have b2 := hk.lm1
  obtain ⟨G, rfl, rfl, qw, _⟩ := hr.word hi
  generalize ws.getD i 0 = y at *
  generalize ws.length = n at *
  have s1 : IntKind.i64.wrap (bs + (i : Int) - bs) = (i : Int) := by rw [show bs + (i : Int) - bs = (i : Int) by omega]; exact IntWalk.i64_in _ (by omega)
  have s2 : (bs + (i : Int) - bs).toNat = i := by omega
  have s3 : (0 : Int) ≤ bs + (i : Int) - bs := by omega
  have s4 : bs + (i : Int) - bs < (n : Int) := by omega
  clear hr hk
  have hw0 : Below w.heap.size w w := Below.refl _ _
  go_enter Try.func76, Try.ntmps76
  go_wp2_with fail
  refine (hC _ (by (repeat (first | exact Below.refl _ _ | assumption | refine Below.drew ?_ | refine below_drewN ?_ _ | refine balloc ?_ _ | refine Below.setCell ?_ (by first | (simp; done) | (simp; omega) | omega) _ | refine bchain (by assumption) ?_)))).mono ?_
  rintro e w1 ⟨rfl, hb1⟩
  have hB1 : Below w.heap.size w w1 := by (repeat (first | exact Below.refl _ _ | assumption | refine Below.drew ?_ | refine below_drewN ?_ _ | refine balloc ?_ _ | refine Below.setCell ?_ (by first | (simp; done) | (simp; omega) | omega) _ | refine bchain (by assumption) ?_))
  have k0 : w1.heap[w.heap.size]? = some (.cells #[.int .i64 bs, .int .i64 lm, .slice (some ⟨G, 0, none⟩) n cap] 33 (0, 0)) := bblock hb1 (by repeat (first | exact alloc_at _ (by simp) | refine alloc_lt _ ?_))
  have hw1 := bchain hB1 hw0
  have hz_k0 : w.heap.size < w1.heap.size := (Array.getElem?_eq_some_iff.1 k0).1
  clear hB1
  have qw := bcellv hw1 qw
  have k0_0 : w1.cell? ⟨w.heap.size, 0, none⟩ = some (.int .i64 bs) := by rw [cell_of_block k0]; rfl
  have k0_1 : w1.cell? ⟨w.heap.size, 1, none⟩ = some (.int .i64 lm) := by rw [cell_of_block k0]; rfl
  have k0_2 : w1.cell? ⟨w.heap.size, 2, none⟩ = some (.slice (some ⟨G, 0, none⟩) n cap) := by rw [cell_of_block k0]; rfl
  go_wp2
  go_ret2
  exact ⟨rfl, by (repeat (first | exact Below.refl _ _ | assumption | refine Below.drew ?_ | refine below_drewN ?_ _ | refine balloc ?_ _ | refine Below.setCell ?_ (by first | (simp; done) | (simp; omega) | omega) _ | refine bchain (by assumption) ?_))⟩
theorem rload_any {w : World} {A : Option Addr} {n cap : Nat} {bs lm : Int} {ws : List Int} {g : Option Nat} (h : MdAt w (.agg #[.int .i64 bs, .int .i64 lm, .slice A n cap]) bs lm ws g) (hk : SpOk bs lm ws) (hn : ws.length = n) (x : Int) : Calls Try.prog 76 #[.agg #[.int .i64 bs, .int .i64 lm, .slice A n cap], .int .i64 x] w fun e w' => e = .returned (.tuple #[.int .u64 (ldW bs ws x), .int .i64 (ioE bs ws x)]) ∧ Below w.heap.size w w' := by
  unfold ldW ioE
  cases hx : inB bs ws.length x
  · exact rload_no h hk hn x hx
  · obtain ⟨h0, h1⟩ := inB_iff.1 hx
    obtain ⟨i, rfl⟩ : ∃ i : Nat, x = bs + (i : Int) := ⟨(x - bs).toNat, by omega⟩
    rw [show (bs + (i : Int) - bs).toNat = i by omega]
    exact rload_yes h hk hn i (by omega)

/-! ### The memory -/
structure RMem (w : World) (aO : Option Addr) (nO cO : Nat) (aY : Option Addr) (nY cY : Nat) (lo ly : Int) (wo wy : List Int) (gO gY : Option Nat) : Prop where
  lO : wo.length = nO
  lY : wy.length = nY
  old : RowAt w aO cO wo gO
  yng : RowAt w aY cY wy gY
  okO : SpOk 0 lo wo
  okY : SpOk 16777216 ly wy
  lim : lo ≤ 16777216
theorem RMem.below {w w' : World} {aO : Option Addr} {nO cO : Nat} {aY : Option Addr} {nY cY : Nat} {lo ly : Int} {wo wy : List Int} {gO gY : Option Nat} (h : RMem w aO nO cO aY nY cY lo ly wo wy gO gY) (hb : Below w.heap.size w w') : RMem w' aO nO cO aY nY cY lo ly wo wy gO gY :=
  ⟨h.lO, h.lY, h.old.keep (fun _ _ _ => bblock hb), h.yng.keep (fun _ _ _ => bblock hb), h.okO, h.okY, h.lim⟩
theorem RMem.mdO {w : World} {aO : Option Addr} {nO cO : Nat} {aY : Option Addr} {nY cY : Nat} {lo ly : Int} {wo wy : List Int} {gO gY : Option Nat} (h : RMem w aO nO cO aY nY cY lo ly wo wy gO gY) : MdAt w (.agg #[.int .i64 0, .int .i64 lo, .slice aO nO cO]) 0 lo wo gO := ⟨aO, cO, by rw [h.lO], h.old⟩
theorem RMem.mdY {w : World} {aO : Option Addr} {nO cO : Nat} {aY : Option Addr} {nY cY : Nat} {lo ly : Int} {wo wy : List Int} {gO gY : Option Nat} (h : RMem w aO nO cO aY nY cY lo ly wo wy gO gY) : MdAt w (.agg #[.int .i64 16777216, .int .i64 ly, .slice aY nY cY]) 16777216 ly wy gY := ⟨aY, cY, by rw [h.lY], h.yng⟩
/-- What the reference takes for the space of an address serves as well. -/
theorem prt_same {w : World} {aO : Option Addr} {nO cO : Nat} {aY : Option Addr} {nY cY : Nat} {lo ly : Int} {wo wy : List Int} {gO gY : Option Nat} (h : RMem w aO nO cO aY nY cY lo ly wo wy gO gY) (a : Int) :
    (inB 0 wo.length a = true ∧ bsA a = 0 ∧ wsA wo wy a = wo) ∨ (inB 0 wo.length a = false ∧ bsA a = 16777216 ∧ wsA wo wy a = wy) ∨ (inB 0 wo.length a = false ∧ bsA a = 0 ∧ wsA wo wy a = wo ∧ inB 16777216 wy.length a = false) := by
  have h1 := h.okO.top
  have h2 := h.lim
  unfold bsA wsA
  cases hi : inB 0 wo.length a
  · by_cases hy : 16777216 ≤ a
    · exact .inr (.inl ⟨rfl, if_pos hy, if_pos hy⟩)
    · refine .inr (.inr ⟨rfl, if_neg hy, if_neg hy, ?_⟩)
      unfold inB
      rw [decide_eq_false_iff_not]
      omega
  · obtain ⟨h3, h4⟩ := inB_iff.1 hi
    have hy : ¬ 16777216 ≤ a := by omega
    exact .inl ⟨rfl, if_neg hy, if_neg hy⟩
set_option maxRecDepth 100000 in
set_option maxHeartbeats 1000000 in
theorem rpart_O {w : World} {aO : Option Addr} {nO cO : Nat} {aY : Option Addr} {nY cY : Nat} {lo ly : Int} {wo wy : List Int} {gO gY : Option Nat} (hm : RMem w aO nO cO aY nY cY lo ly wo wy gO gY) (a : Int) (hi : inB 0 wo.length a = true) :
    Calls Try.prog 77 #[.agg #[.int .i64 0, .int .i64 lo, .slice aO nO cO, .int .i64 16777216, .int .i64 ly, .slice aY nY cY], .int .i64 a] w fun e w' => e = .returned (.agg #[.int .i64 0, .int .i64 lo, .slice aO nO cO]) ∧ Below w.heap.size w w' := by
  have hC := fun W (H : Below w.heap.size w W) => rcontains_any (hm.below H).mdO hm.okO a
  rw [hi] at hC
  clear hm hi
  have hw0 : Below w.heap.size w w := Below.refl _ _
  go_enter Try.func77, Try.ntmps77
  go_wp2_with fail
  refine (hC _ (by (repeat (first | exact Below.refl _ _ | assumption | refine Below.drew ?_ | refine below_drewN ?_ _ | refine balloc ?_ _ | refine Below.setCell ?_ (by first | (simp; done) | (simp; omega) | omega) _ | refine bchain (by assumption) ?_)))).mono ?_
  rintro e w1 ⟨rfl, hb1⟩
  have hB1 : Below w.heap.size w w1 := by (repeat (first | exact Below.refl _ _ | assumption | refine Below.drew ?_ | refine below_drewN ?_ _ | refine balloc ?_ _ | refine Below.setCell ?_ (by first | (simp; done) | (simp; omega) | omega) _ | refine bchain (by assumption) ?_))
  have k0 : w1.heap[w.heap.size]? = some (.cells #[.int .i64 0, .int .i64 lo, .slice aO nO cO, .int .i64 16777216, .int .i64 ly, .slice aY nY cY] 35 (0, 0)) := bblock hb1 (by repeat (first | exact alloc_at _ (by simp) | refine alloc_lt _ ?_))
  have r : w1.heap[w.heap.size + 1]? = some (.cells #[.int .i64 0, .int .i64 0, .slice none 0 0] 33 (0, 0)) := bblock hb1 (by repeat (first | exact alloc_at _ (by simp) | refine alloc_lt _ ?_))
  have hw1 := bchain hB1 hw0
  have hz_k0 : w.heap.size < w1.heap.size := (Array.getElem?_eq_some_iff.1 k0).1
  have hz_r : w.heap.size + 1 < w1.heap.size := (Array.getElem?_eq_some_iff.1 r).1
  clear hB1
  have k0_0 : w1.cell? ⟨w.heap.size, 0, none⟩ = some (.int .i64 0) := by rw [cell_of_block k0]; rfl
  have k0_1 : w1.cell? ⟨w.heap.size, 1, none⟩ = some (.int .i64 lo) := by rw [cell_of_block k0]; rfl
  have k0_2 : w1.cell? ⟨w.heap.size, 2, none⟩ = some (.slice aO nO cO) := by rw [cell_of_block k0]; rfl
  have k0_3 : w1.cell? ⟨w.heap.size, 3, none⟩ = some (.int .i64 16777216) := by rw [cell_of_block k0]; rfl
  have k0_4 : w1.cell? ⟨w.heap.size, 4, none⟩ = some (.int .i64 ly) := by rw [cell_of_block k0]; rfl
  have k0_5 : w1.cell? ⟨w.heap.size, 5, none⟩ = some (.slice aY nY cY) := by rw [cell_of_block k0]; rfl
  have r_0 : w1.cell? ⟨w.heap.size + 1, 0, none⟩ = some (.int .i64 0) := by rw [cell_of_block r]; rfl
  have r_1 : w1.cell? ⟨w.heap.size + 1, 1, none⟩ = some (.int .i64 0) := by rw [cell_of_block r]; rfl
  have r_2 : w1.cell? ⟨w.heap.size + 1, 2, none⟩ = some (.slice none 0 0) := by rw [cell_of_block r]; rfl
  have r_f : ∀ i, w1.frozen? ⟨w.heap.size + 1, i, none⟩ = false := frozen_of_block r
  go_wp2
  exact bodyPost_ret (v := .agg #[.int .i64 0, .int .i64 lo, .slice aO nO cO]) (by simp [results, Try.results77, go_sem, k0_0, k0_1, k0_2, k0_3, k0_4, k0_5, r_0, r_1, r_2, r_f, hz_k0, hz_r]) rfl ⟨rfl, by (repeat (first | exact Below.refl _ _ | assumption | refine Below.drew ?_ | refine below_drewN ?_ _ | refine balloc ?_ _ | refine Below.setCell ?_ (by first | (simp; done) | (simp; omega) | omega) _ | refine bchain (by assumption) ?_))⟩
set_option maxRecDepth 100000 in
set_option maxHeartbeats 1000000 in
theorem rpart_Y {w : World} {aO : Option Addr} {nO cO : Nat} {aY : Option Addr} {nY cY : Nat} {lo ly : Int} {wo wy : List Int} {gO gY : Option Nat} (hm : RMem w aO nO cO aY nY cY lo ly wo wy gO gY) (a : Int) (hi : inB 0 wo.length a = false) :
    Calls Try.prog 77 #[.agg #[.int .i64 0, .int .i64 lo, .slice aO nO cO, .int .i64 16777216, .int .i64 ly, .slice aY nY cY], .int .i64 a] w fun e w' => e = .returned (.agg #[.int .i64 16777216, .int .i64 ly, .slice aY nY cY]) ∧ Below w.heap.size w w' := by
  have hC := fun W (H : Below w.heap.size w W) => rcontains_any (hm.below H).mdO hm.okO a
  rw [hi] at hC
  clear hm hi
  have hw0 : Below w.heap.size w w := Below.refl _ _
  go_enter Try.func77, Try.ntmps77
  go_wp2_with fail
  refine (hC _ (by (repeat (first | exact Below.refl _ _ | assumption | refine Below.drew ?_ | refine below_drewN ?_ _ | refine balloc ?_ _ | refine Below.setCell ?_ (by first | (simp; done) | (simp; omega) | omega) _ | refine bchain (by assumption) ?_)))).mono ?_
  rintro e w1 ⟨rfl, hb1⟩
  have hB1 : Below w.heap.size w w1 := by (repeat (first | exact Below.refl _ _ | assumption | refine Below.drew ?_ | refine below_drewN ?_ _ | refine balloc ?_ _ | refine Below.setCell ?_ (by first | (simp; done) | (simp; omega) | omega) _ | refine bchain (by assumption) ?_))
  have k0 : w1.heap[w.heap.size]? = some (.cells #[.int .i64 0, .int .i64 lo, .slice aO nO cO, .int .i64 16777216, .int .i64 ly, .slice aY nY cY] 35 (0, 0)) := bblock hb1 (by repeat (first | exact alloc_at _ (by simp) | refine alloc_lt _ ?_))
  have r : w1.heap[w.heap.size + 1]? = some (.cells #[.int .i64 0, .int .i64 0, .slice none 0 0] 33 (0, 0)) := bblock hb1 (by repeat (first | exact alloc_at _ (by simp) | refine alloc_lt _ ?_))
  have hw1 := bchain hB1 hw0
  have hz_k0 : w.heap.size < w1.heap.size := (Array.getElem?_eq_some_iff.1 k0).1
  have hz_r : w.heap.size + 1 < w1.heap.size := (Array.getElem?_eq_some_iff.1 r).1
  clear hB1
  have k0_0 : w1.cell? ⟨w.heap.size, 0, none⟩ = some (.int .i64 0) := by rw [cell_of_block k0]; rfl
  have k0_1 : w1.cell? ⟨w.heap.size, 1, none⟩ = some (.int .i64 lo) := by rw [cell_of_block k0]; rfl
  have k0_2 : w1.cell? ⟨w.heap.size, 2, none⟩ = some (.slice aO nO cO) := by rw [cell_of_block k0]; rfl
  have k0_3 : w1.cell? ⟨w.heap.size, 3, none⟩ = some (.int .i64 16777216) := by rw [cell_of_block k0]; rfl
  have k0_4 : w1.cell? ⟨w.heap.size, 4, none⟩ = some (.int .i64 ly) := by rw [cell_of_block k0]; rfl
  have k0_5 : w1.cell? ⟨w.heap.size, 5, none⟩ = some (.slice aY nY cY) := by rw [cell_of_block k0]; rfl
  have r_0 : w1.cell? ⟨w.heap.size + 1, 0, none⟩ = some (.int .i64 0) := by rw [cell_of_block r]; rfl
  have r_1 : w1.cell? ⟨w.heap.size + 1, 1, none⟩ = some (.int .i64 0) := by rw [cell_of_block r]; rfl
  have r_2 : w1.cell? ⟨w.heap.size + 1, 2, none⟩ = some (.slice none 0 0) := by rw [cell_of_block r]; rfl
  have r_f : ∀ i, w1.frozen? ⟨w.heap.size + 1, i, none⟩ = false := frozen_of_block r
  go_wp2
  exact bodyPost_ret (v := .agg #[.int .i64 16777216, .int .i64 ly, .slice aY nY cY]) (by simp [results, Try.results77, go_sem, k0_0, k0_1, k0_2, k0_3, k0_4, k0_5, r_0, r_1, r_2, r_f, hz_k0, hz_r]) rfl ⟨rfl, by (repeat (first | exact Below.refl _ _ | assumption | refine Below.drew ?_ | refine below_drewN ?_ _ | refine balloc ?_ _ | refine Below.setCell ?_ (by first | (simp; done) | (simp; omega) | omega) _ | refine bchain (by assumption) ?_))⟩
end Go.Proofs.Ytgipmcmmicppkaa
namespace Go.Proofs.Ytgipmcmmicppkaa
open Go.RowKit
set_option linter.unusedSimpArgs false
set_option linter.unusedVariables false

set_option maxRecDepth 100000 in
set_option maxHeartbeats 1000000 in
theorem rmload_of {w : World} {aO : Option Addr} {nO cO : Nat} {aY : Option Addr} {nY cY : Nat} {lo ly : Int} {A : Option Addr} {n cap : Nat} {bs lm : Int} {a : Int} (hP : ∀ W, Below w.heap.size w W → Calls Try.prog 77 #[.agg #[.int .i64 0, .int .i64 lo, .slice aO nO cO, .int .i64 16777216, .int .i64 ly, .slice aY nY cY], .int .i64 a] W fun e w' => e = .returned (.agg #[.int .i64 bs, .int .i64 lm, .slice A n cap]) ∧ Below W.heap.size W w') (x y : Int) (hL : ∀ W, Below w.heap.size w W → Calls Try.prog 76 #[.agg #[.int .i64 bs, .int .i64 lm, .slice A n cap], .int .i64 a] W fun e w' => e = .returned (.tuple #[.int .u64 x, .int .i64 y]) ∧ Below W.heap.size W w') :
    Calls Try.prog 69 #[.agg #[.int .i64 0, .int .i64 lo, .slice aO nO cO, .int .i64 16777216, .int .i64 ly, .slice aY nY cY], .int .i64 a] w fun e w' => e = .returned (.tuple #[.int .u64 x, .int .i64 y]) ∧ Below w.heap.size w w' := by
  have hw0 : Below w.heap.size w w := Below.refl _ _
  go_enter Try.func69, Try.ntmps69
  go_wp2_with fail
  refine (hP _ (by (repeat (first | exact Below.refl _ _ | assumption | refine Below.drew ?_ | refine below_drewN ?_ _ | refine balloc ?_ _ | refine Below.setCell ?_ (by first | (simp; done) | (simp; omega) | omega) _ | refine bchain (by assumption) ?_)))).mono ?_
  rintro e w1 ⟨rfl, hb1⟩
  have hB1 : Below w.heap.size w w1 := by (repeat (first | exact Below.refl _ _ | assumption | refine Below.drew ?_ | refine below_drewN ?_ _ | refine balloc ?_ _ | refine Below.setCell ?_ (by first | (simp; done) | (simp; omega) | omega) _ | refine bchain (by assumption) ?_))
  have k0 : w1.heap[w.heap.size]? = some (.cells #[.int .i64 0, .int .i64 lo, .slice aO nO cO, .int .i64 16777216, .int .i64 ly, .slice aY nY cY] 35 (0, 0)) := bblock hb1 (by repeat (first | exact alloc_at _ (by simp) | refine alloc_lt _ ?_))
  have hw1 := bchain hB1 hw0
  have hz_k0 : w.heap.size < w1.heap.size := (Array.getElem?_eq_some_iff.1 k0).1
  clear hB1
  have k0_0 : w1.cell? ⟨w.heap.size, 0, none⟩ = some (.int .i64 0) := by rw [cell_of_block k0]; rfl
  have k0_1 : w1.cell? ⟨w.heap.size, 1, none⟩ = some (.int .i64 lo) := by rw [cell_of_block k0]; rfl
  have k0_2 : w1.cell? ⟨w.heap.size, 2, none⟩ = some (.slice aO nO cO) := by rw [cell_of_block k0]; rfl
  have k0_3 : w1.cell? ⟨w.heap.size, 3, none⟩ = some (.int .i64 16777216) := by rw [cell_of_block k0]; rfl
  have k0_4 : w1.cell? ⟨w.heap.size, 4, none⟩ = some (.int .i64 ly) := by rw [cell_of_block k0]; rfl
  have k0_5 : w1.cell? ⟨w.heap.size, 5, none⟩ = some (.slice aY nY cY) := by rw [cell_of_block k0]; rfl
  go_wp2_with fail
  refine (hL _ (by (repeat (first | exact Below.refl _ _ | assumption | refine Below.drew ?_ | refine below_drewN ?_ _ | refine balloc ?_ _ | refine Below.setCell ?_ (by first | (simp; done) | (simp; omega) | omega) _ | refine bchain (by assumption) ?_)))).mono ?_
  rintro e w2 ⟨rfl, hb2⟩
  have hB2 : Below w1.heap.size w1 w2 := by (repeat (first | exact Below.refl _ _ | assumption | refine Below.drew ?_ | refine below_drewN ?_ _ | refine balloc ?_ _ | refine Below.setCell ?_ (by first | (simp; done) | (simp; omega) | omega) _ | refine bchain (by assumption) ?_))
  have k0 := bblock hB2 k0
  have hw2 := bchain hB2 hw1
  clear hz_k0
  have hz_k0 : w.heap.size < w2.heap.size := (Array.getElem?_eq_some_iff.1 k0).1
  clear hB2
  clear k0_0 k0_1 k0_2 k0_3 k0_4 k0_5
  have k0_0 : w2.cell? ⟨w.heap.size, 0, none⟩ = some (.int .i64 0) := by rw [cell_of_block k0]; rfl
  have k0_1 : w2.cell? ⟨w.heap.size, 1, none⟩ = some (.int .i64 lo) := by rw [cell_of_block k0]; rfl
  have k0_2 : w2.cell? ⟨w.heap.size, 2, none⟩ = some (.slice aO nO cO) := by rw [cell_of_block k0]; rfl
  have k0_3 : w2.cell? ⟨w.heap.size, 3, none⟩ = some (.int .i64 16777216) := by rw [cell_of_block k0]; rfl
  have k0_4 : w2.cell? ⟨w.heap.size, 4, none⟩ = some (.int .i64 ly) := by rw [cell_of_block k0]; rfl
  have k0_5 : w2.cell? ⟨w.heap.size, 5, none⟩ = some (.slice aY nY cY) := by rw [cell_of_block k0]; rfl
  go_wp2
  go_ret2
  exact ⟨rfl, by (repeat (first | exact Below.refl _ _ | assumption | refine Below.drew ?_ | refine below_drewN ?_ _ | refine balloc ?_ _ | refine Below.setCell ?_ (by first | (simp; done) | (simp; omega) | omega) _ | refine bchain (by assumption) ?_))⟩
theorem rmload_any {w : World} {aO : Option Addr} {nO cO : Nat} {aY : Option Addr} {nY cY : Nat} {lo ly : Int} {wo wy : List Int} {gO gY : Option Nat} (hm : RMem w aO nO cO aY nY cY lo ly wo wy gO gY) (a : Int) : Calls Try.prog 69 #[.agg #[.int .i64 0, .int .i64 lo, .slice aO nO cO, .int .i64 16777216, .int .i64 ly, .slice aY nY cY], .int .i64 a] w fun e w' => e = .returned (.tuple #[.int .u64 (LD wo wy a), .int .i64 (LE wo wy a)]) ∧ Below w.heap.size w w' := by
  unfold LD LE
  rcases prt_same hm a with ⟨h1, h2, h3⟩ | ⟨h1, h2, h3⟩ | ⟨h1, h2, h3, h4⟩
  · rw [h2, h3]
    exact rmload_of (lm := lo) (A := aO) (n := nO) (cap := cO) (bs := 0) (fun W H => rpart_O (hm.below H) a h1) _ _ (fun W H => rload_any (hm.below H).mdO hm.okO hm.lO a)
  · rw [h2, h3]
    exact rmload_of (lm := ly) (A := aY) (n := nY) (cap := cY) (bs := 16777216) (fun W H => rpart_Y (hm.below H) a h1) _ _ (fun W H => rload_any (hm.below H).mdY hm.okY hm.lY a)
  · rw [h2, h3]
    have e1 : ldW 0 wo a = ldW 16777216 wy a := by unfold ldW; rw [h1, h4]; rfl
    have e2 : ioE 0 wo a = ioE 16777216 wy a := by unfold ioE; rw [h1, h4]
    rw [e1, e2]
    exact rmload_of (lm := ly) (A := aY) (n := nY) (cap := cY) (bs := 16777216) (fun W H => rpart_Y (hm.below H) a h1) _ _ (fun W H => rload_any (hm.below H).mdY hm.okY hm.lY a)
theorem RMem.partOk {w : World} {aO : Option Addr} {nO cO : Nat} {aY : Option Addr} {nY cY : Nat} {lo ly : Int} {wo wy : List Int} {gO gY : Option Nat} (h : RMem w aO nO cO aY nY cY lo ly wo wy gO gY) (a : Int) : SpOk (bsA a) (lmA lo ly a) (wsA wo wy a) := by
  unfold bsA lmA wsA
  split
  · exact h.okY
  · exact h.okO
theorem RMem.ldU {w : World} {aO : Option Addr} {nO cO : Nat} {aY : Option Addr} {nY cY : Nat} {lo ly : Int} {wo wy : List Int} {gO gY : Option Nat} (h : RMem w aO nO cO aY nY cY lo ly wo wy gO gY) (a : Int) : U64 (LD wo wy a) := Proofs.Ytgipmcmmicppkaa.ldU (h.partOk a) a
end Go.Proofs.Ytgipmcmmicppkaa
namespace Go.Proofs.Ytgipmcmmicppkaa
open Go.RowKit
set_option linter.unusedSimpArgs false
set_option linter.unusedVariables false

/-- A memory that is handed back: its rows are the old ones, or new. -/
def RNext (w : World) (mk : Value → Value) (lo ly : Int) (wo wy : List Int) (gO gY : Option Nat) (e : Ending) (w' : World) : Prop :=
  ∃ (aO : Option Addr) (nO cO : Nat) (aY : Option Addr) (nY cY : Nat) (gO' gY' : Option Nat), e = .returned (mk (.agg #[.int .i64 0, .int .i64 lo, .slice aO nO cO, .int .i64 16777216, .int .i64 ly, .slice aY nY cY])) ∧ RMem w' aO nO cO aY nY cY lo ly wo wy gO' gY' ∧ (∀ G, gO' = some G → gO = some G ∨ w.heap.size ≤ G) ∧ (∀ G, gY' = some G → gY = some G ∨ w.heap.size ≤ G) ∧ Below w.heap.size w w'
theorem RowAt.lt' {w : World} {a : Option Addr} {cap : Nat} {ws : List Int} {g : Option Nat} (h : RowAt w a cap ws g) : ∀ G, g = some G → G < w.heap.size := by
  rintro G rfl
  obtain ⟨_, _, h2⟩ := h
  rcases h2 with ⟨h, _⟩ | ⟨G', cur, e, _, hh, _⟩
  · cases h
  · cases e
    exact (Array.getElem?_eq_some_iff.1 hh).1
theorem RowAt.mods {S : Nat → Prop} {w w' : World} {a : Option Addr} {cap : Nat} {ws : List Int} {g : Option Nat} (h : RowAt w a cap ws g) (hM : Mods S w w') (hS : ∀ G, g = some G → ¬ S G) : RowAt w' a cap ws g :=
  h.keep (fun G o e ho => mblock hM ho (hS G e))
/-- Two blocks behind the old heap: the result's, and the variable's. -/
def Two (w : World) : Nat → Prop := fun k => k = w.heap.size ∨ k = w.heap.size + 1
theorem two_set {w wk W : World} (h : Mods (Two w) wk W) (b off : Nat) (u : Value) (hb : b = w.heap.size ∨ b = w.heap.size + 1) : Mods (Two w) wk (W.setCell ⟨b, off, none⟩ u) := h.setCell (p := ⟨b, off, none⟩) (.inl hb) u
theorem below_set {w W : World} (h : Below w.heap.size w W) (b off : Nat) (u : Value) (hb : w.heap.size ≤ b) : Below w.heap.size w (W.setCell ⟨b, off, none⟩ u) := h.setCell (p := ⟨b, off, none⟩) hb u
theorem rnext_fin {w wk W : World} {mk : Value → Value} {lo ly : Int} {wo wy wo' wy' : List Int} {gO gY gO' gY' : Option Nat} {aO : Option Addr} {nO cO : Nat} {aY : Option Addr} {nY cY : Nat} {aO' : Option Addr} {nO' cO' : Nat} {aY' : Option Addr} {nY' cY' : Nat}
    (hm : RMem w aO nO cO aY nY cY lo ly wo wy gO gY) (hk : RMem wk aO' nO' cO' aY' nY' cY' lo ly wo' wy' gO' gY') (hF : Mods (Two w) wk W) (hgO : ∀ G, gO' = some G → gO = some G ∨ w.heap.size + 2 ≤ G) (hgY : ∀ G, gY' = some G → gY = some G ∨ w.heap.size + 2 ≤ G) (hB : Below w.heap.size w W) :
    RNext w mk lo ly wo' wy' gO gY (.returned (mk (.agg #[.int .i64 0, .int .i64 lo, .slice aO' nO' cO', .int .i64 16777216, .int .i64 ly, .slice aY' nY' cY']))) W := by
  have l1 := hm.old.lt'
  have l2 := hm.yng.lt'
  refine ⟨aO', nO', cO', aY', nY', cY', gO', gY', rfl, ⟨hk.lO, hk.lY, hk.old.mods hF (fun G e => ?_), hk.yng.mods hF (fun G e => ?_), hk.okO, hk.okY, hk.lim⟩, fun G e => (hgO G e).imp id (fun h => by omega), fun G e => (hgY G e).imp id (fun h => by omega), hB⟩
  · rintro (h | h) <;> rcases hgO G e with h' | h' <;> first | omega | (have := l1 G h'; omega)
  · rintro (h | h) <;> rcases hgY G e with h' | h' <;> first | omega | (have := l2 G h'; omega)
set_option maxRecDepth 100000 in
set_option maxHeartbeats 400000 in
theorem rmstore_O {w : World} {aO : Option Addr} {nO cO : Nat} {aY : Option Addr} {nY cY : Nat} {lo ly : Int} {wo wy : List Int} {gO gY : Option Nat} (hm : RMem w aO nO cO aY nY cY lo ly wo wy gO gY) (a u : Int) (hu : U64 u) (hi : inB 0 wo.length a = true) :
    Calls Try.prog 59 #[.agg #[.int .i64 0, .int .i64 lo, .slice aO nO cO, .int .i64 16777216, .int .i64 ly, .slice aY nY cY], .int .i64 a, .int .u64 u] w (RNext w (fun v => .tuple #[v, .int .i64 (ioE 0 wo a)]) lo ly (stW 0 wo a u) (wy) gO gY) := by
  have hC := fun W (H : Below w.heap.size w W) => rcontains_any (hm.below H).mdO hm.okO a
  have hS := fun W (H : Below w.heap.size w W) => rstore_any (hm.below H).mdO hm.okO a u
  have hk2 := stOk hm.okO a hu
  have hmB := fun W (H : Below w.heap.size w W) => hm.below H
  rw [hi] at hC
  generalize ioE 0 wo a = er at *
  generalize hw2 : stW 0 wo a u = ws2 at *
  clear hi hw2 hu
  have hw0 : Below w.heap.size w w := Below.refl _ _
  go_enter Try.func59, Try.ntmps59
  go_wp2_with fail
  refine (hC _ (by (repeat (first | exact Below.refl _ _ | assumption | refine Below.drew ?_ | refine below_drewN ?_ _ | refine balloc ?_ _ | refine Below.setCell ?_ (by first | (simp; done) | (simp; omega) | omega) _ | refine bchain (by assumption) ?_)))).mono ?_
  rintro e w1 ⟨rfl, hb1⟩
  have hB1 : Below w.heap.size w w1 := by (repeat (first | exact Below.refl _ _ | assumption | refine Below.drew ?_ | refine below_drewN ?_ _ | refine balloc ?_ _ | refine Below.setCell ?_ (by first | (simp; done) | (simp; omega) | omega) _ | refine bchain (by assumption) ?_))
  have k0 : w1.heap[w.heap.size]? = some (.cells #[.int .i64 0, .int .i64 lo, .slice aO nO cO, .int .i64 16777216, .int .i64 ly, .slice aY nY cY] 35 (0, 0)) := bblock hb1 (by repeat (first | exact alloc_at _ (by simp) | refine alloc_lt _ ?_))
  have r : w1.heap[w.heap.size + 1]? = some (.cells #[.int .i64 0, .int .i64 0, .slice none 0 0, .int .i64 0, .int .i64 0, .slice none 0 0] 35 (0, 0)) := bblock hb1 (by repeat (first | exact alloc_at _ (by simp) | refine alloc_lt _ ?_))
  have hw1 := bchain hB1 hw0
  have hp1 : w.heap.size + 2 ≤ w1.heap.size := by have := (Array.getElem?_eq_some_iff.1 r).1; omega
  have hz_k0 : w.heap.size < w1.heap.size := (Array.getElem?_eq_some_iff.1 k0).1
  have hz_r : w.heap.size + 1 < w1.heap.size := (Array.getElem?_eq_some_iff.1 r).1
  clear hB1
  have k0_0 : w1.cell? ⟨w.heap.size, 0, none⟩ = some (.int .i64 0) := by rw [cell_of_block k0]; rfl
  have k0_1 : w1.cell? ⟨w.heap.size, 1, none⟩ = some (.int .i64 lo) := by rw [cell_of_block k0]; rfl
  have k0_2 : w1.cell? ⟨w.heap.size, 2, none⟩ = some (.slice aO nO cO) := by rw [cell_of_block k0]; rfl
  have k0_3 : w1.cell? ⟨w.heap.size, 3, none⟩ = some (.int .i64 16777216) := by rw [cell_of_block k0]; rfl
  have k0_4 : w1.cell? ⟨w.heap.size, 4, none⟩ = some (.int .i64 ly) := by rw [cell_of_block k0]; rfl
  have k0_5 : w1.cell? ⟨w.heap.size, 5, none⟩ = some (.slice aY nY cY) := by rw [cell_of_block k0]; rfl
  have k0_f : ∀ i, w1.frozen? ⟨w.heap.size, i, none⟩ = false := frozen_of_block k0
  have r_0 : w1.cell? ⟨w.heap.size + 1, 0, none⟩ = some (.int .i64 0) := by rw [cell_of_block r]; rfl
  have r_1 : w1.cell? ⟨w.heap.size + 1, 1, none⟩ = some (.int .i64 0) := by rw [cell_of_block r]; rfl
  have r_2 : w1.cell? ⟨w.heap.size + 1, 2, none⟩ = some (.slice none 0 0) := by rw [cell_of_block r]; rfl
  have r_3 : w1.cell? ⟨w.heap.size + 1, 3, none⟩ = some (.int .i64 0) := by rw [cell_of_block r]; rfl
  have r_4 : w1.cell? ⟨w.heap.size + 1, 4, none⟩ = some (.int .i64 0) := by rw [cell_of_block r]; rfl
  have r_5 : w1.cell? ⟨w.heap.size + 1, 5, none⟩ = some (.slice none 0 0) := by rw [cell_of_block r]; rfl
  have r_f : ∀ i, w1.frozen? ⟨w.heap.size + 1, i, none⟩ = false := frozen_of_block r
  go_wp2_with fail
  refine (hS _ (by (repeat (first | exact Below.refl _ _ | assumption | refine Below.drew ?_ | refine below_drewN ?_ _ | refine balloc ?_ _ | refine Below.setCell ?_ (by first | (simp; done) | (simp; omega) | omega) _ | refine bchain (by assumption) ?_)))).mono ?_
  rintro e w2 ⟨v2, rfl, g2, hmd2, hg2, hb2⟩
  have hB2 : Below w1.heap.size w1 w2 := by (repeat (first | exact Below.refl _ _ | assumption | refine Below.drew ?_ | refine below_drewN ?_ _ | refine balloc ?_ _ | refine Below.setCell ?_ (by first | (simp; done) | (simp; omega) | omega) _ | refine bchain (by assumption) ?_))
  have k0 := bblock hB2 k0
  have r := bblock hB2 r
  have hw2 := bchain hB2 hw1
  have hp2 : w.heap.size + 2 ≤ w2.heap.size := by have := (Array.getElem?_eq_some_iff.1 r).1; omega
  clear hz_k0 hz_r
  have hz_k0 : w.heap.size < w2.heap.size := (Array.getElem?_eq_some_iff.1 k0).1
  have hz_r : w.heap.size + 1 < w2.heap.size := (Array.getElem?_eq_some_iff.1 r).1
  clear hB2
  have hmd3 := hmd2
  obtain ⟨A2, c2, rfl, hr2⟩ := hmd2
  have hgl : ∀ G, g2 = some G → gO = some G ∨ w.heap.size + 2 ≤ G := fun G e => (hg2 G e).imp id (fun h => by omega)
  have hmk := hmB _ hw2
  generalize hL : ws2.length = N2 at *
  have HL := Lib.hid hL
  clear k0_0 k0_1 k0_2 k0_3 k0_4 k0_5 k0_f r_0 r_1 r_2 r_3 r_4 r_5 r_f
  have k0_0 : w2.cell? ⟨w.heap.size, 0, none⟩ = some (.int .i64 0) := by rw [cell_of_block k0]; rfl
  have k0_1 : w2.cell? ⟨w.heap.size, 1, none⟩ = some (.int .i64 lo) := by rw [cell_of_block k0]; rfl
  have k0_2 : w2.cell? ⟨w.heap.size, 2, none⟩ = some (.slice aO nO cO) := by rw [cell_of_block k0]; rfl
  have k0_3 : w2.cell? ⟨w.heap.size, 3, none⟩ = some (.int .i64 16777216) := by rw [cell_of_block k0]; rfl
  have k0_4 : w2.cell? ⟨w.heap.size, 4, none⟩ = some (.int .i64 ly) := by rw [cell_of_block k0]; rfl
  have k0_5 : w2.cell? ⟨w.heap.size, 5, none⟩ = some (.slice aY nY cY) := by rw [cell_of_block k0]; rfl
  have k0_f : ∀ i, w2.frozen? ⟨w.heap.size, i, none⟩ = false := frozen_of_block k0
  have r_0 : w2.cell? ⟨w.heap.size + 1, 0, none⟩ = some (.int .i64 0) := by rw [cell_of_block r]; rfl
  have r_1 : w2.cell? ⟨w.heap.size + 1, 1, none⟩ = some (.int .i64 0) := by rw [cell_of_block r]; rfl
  have r_2 : w2.cell? ⟨w.heap.size + 1, 2, none⟩ = some (.slice none 0 0) := by rw [cell_of_block r]; rfl
  have r_3 : w2.cell? ⟨w.heap.size + 1, 3, none⟩ = some (.int .i64 0) := by rw [cell_of_block r]; rfl
  have r_4 : w2.cell? ⟨w.heap.size + 1, 4, none⟩ = some (.int .i64 0) := by rw [cell_of_block r]; rfl
  have r_5 : w2.cell? ⟨w.heap.size + 1, 5, none⟩ = some (.slice none 0 0) := by rw [cell_of_block r]; rfl
  have r_f : ∀ i, w2.frozen? ⟨w.heap.size + 1, i, none⟩ = false := frozen_of_block r
  have hRM : RMem w2 A2 N2 c2 aY nY cY lo ly ws2 wy g2 gY := ⟨hL, hmk.lY, hr2, hmk.yng, hk2, hmk.okY, hmk.lim⟩
  clear hL hr2 hmd3 hmk hS hC hmB hg2
  go_wp2
  refine bodyPost_ret (v := .tuple #[.agg #[.int .i64 0, .int .i64 lo, .slice A2 N2 c2, .int .i64 16777216, .int .i64 ly, .slice aY nY cY], .int .i64 er]) (by simp [results, Try.results59, go_sem, k0_0, k0_1, k0_2, k0_3, k0_4, k0_5, k0_f, r_0, r_1, r_2, r_3, r_4, r_5, r_f, hz_k0, hz_r]) rfl ?_
  refine rnext_fin (w := w) (wk := w2) (mk := fun v => .tuple #[v, .int .i64 er]) hm hRM ?_ hgl (fun G e => .inl e) ?_
  · (repeat (first | (with_reducible refine Mods.alloc ?_ _) | (with_reducible refine two_set ?_ _ _ _ (.inl rfl)) | (with_reducible refine two_set ?_ _ _ _ (.inr rfl)) | (with_reducible exact Mods.refl _ _)))
  · (repeat (first | (with_reducible refine balloc ?_ _) | (with_reducible refine below_set ?_ _ _ _ (Nat.le_refl _)) | (with_reducible refine below_set ?_ _ _ _ (Nat.le_add_right _ _)) | (with_reducible assumption)))
set_option maxRecDepth 100000 in
set_option maxHeartbeats 400000 in
theorem rmstore_Y {w : World} {aO : Option Addr} {nO cO : Nat} {aY : Option Addr} {nY cY : Nat} {lo ly : Int} {wo wy : List Int} {gO gY : Option Nat} (hm : RMem w aO nO cO aY nY cY lo ly wo wy gO gY) (a u : Int) (hu : U64 u) (hi : inB 0 wo.length a = false) :
    Calls Try.prog 59 #[.agg #[.int .i64 0, .int .i64 lo, .slice aO nO cO, .int .i64 16777216, .int .i64 ly, .slice aY nY cY], .int .i64 a, .int .u64 u] w (RNext w (fun v => .tuple #[v, .int .i64 (ioE 16777216 wy a)]) lo ly (wo) (stW 16777216 wy a u) gO gY) := by
  have hC := fun W (H : Below w.heap.size w W) => rcontains_any (hm.below H).mdO hm.okO a
  have hS := fun W (H : Below w.heap.size w W) => rstore_any (hm.below H).mdY hm.okY a u
  have hk2 := stOk hm.okY a hu
  have hmB := fun W (H : Below w.heap.size w W) => hm.below H
  rw [hi] at hC
  generalize ioE 16777216 wy a = er at *
  generalize hw2 : stW 16777216 wy a u = ws2 at *
  clear hi hw2 hu
  have hw0 : Below w.heap.size w w := Below.refl _ _
  go_enter Try.func59, Try.ntmps59
  go_wp2_with fail
  refine (hC _ (by (repeat (first | exact Below.refl _ _ | assumption | refine Below.drew ?_ | refine below_drewN ?_ _ | refine balloc ?_ _ | refine Below.setCell ?_ (by first | (simp; done) | (simp; omega) | omega) _ | refine bchain (by assumption) ?_)))).mono ?_
  rintro e w1 ⟨rfl, hb1⟩
  have hB1 : Below w.heap.size w w1 := by (repeat (first | exact Below.refl _ _ | assumption | refine Below.drew ?_ | refine below_drewN ?_ _ | refine balloc ?_ _ | refine Below.setCell ?_ (by first | (simp; done) | (simp; omega) | omega) _ | refine bchain (by assumption) ?_))
  have k0 : w1.heap[w.heap.size]? = some (.cells #[.int .i64 0, .int .i64 lo, .slice aO nO cO, .int .i64 16777216, .int .i64 ly, .slice aY nY cY] 35 (0, 0)) := bblock hb1 (by repeat (first | exact alloc_at _ (by simp) | refine alloc_lt _ ?_))
  have r : w1.heap[w.heap.size + 1]? = some (.cells #[.int .i64 0, .int .i64 0, .slice none 0 0, .int .i64 0, .int .i64 0, .slice none 0 0] 35 (0, 0)) := bblock hb1 (by repeat (first | exact alloc_at _ (by simp) | refine alloc_lt _ ?_))
  have hw1 := bchain hB1 hw0
  have hp1 : w.heap.size + 2 ≤ w1.heap.size := by have := (Array.getElem?_eq_some_iff.1 r).1; omega
  have hz_k0 : w.heap.size < w1.heap.size := (Array.getElem?_eq_some_iff.1 k0).1
  have hz_r : w.heap.size + 1 < w1.heap.size := (Array.getElem?_eq_some_iff.1 r).1
  clear hB1
  have k0_0 : w1.cell? ⟨w.heap.size, 0, none⟩ = some (.int .i64 0) := by rw [cell_of_block k0]; rfl
  have k0_1 : w1.cell? ⟨w.heap.size, 1, none⟩ = some (.int .i64 lo) := by rw [cell_of_block k0]; rfl
  have k0_2 : w1.cell? ⟨w.heap.size, 2, none⟩ = some (.slice aO nO cO) := by rw [cell_of_block k0]; rfl
  have k0_3 : w1.cell? ⟨w.heap.size, 3, none⟩ = some (.int .i64 16777216) := by rw [cell_of_block k0]; rfl
  have k0_4 : w1.cell? ⟨w.heap.size, 4, none⟩ = some (.int .i64 ly) := by rw [cell_of_block k0]; rfl
  have k0_5 : w1.cell? ⟨w.heap.size, 5, none⟩ = some (.slice aY nY cY) := by rw [cell_of_block k0]; rfl
  have k0_f : ∀ i, w1.frozen? ⟨w.heap.size, i, none⟩ = false := frozen_of_block k0
  have r_0 : w1.cell? ⟨w.heap.size + 1, 0, none⟩ = some (.int .i64 0) := by rw [cell_of_block r]; rfl
  have r_1 : w1.cell? ⟨w.heap.size + 1, 1, none⟩ = some (.int .i64 0) := by rw [cell_of_block r]; rfl
  have r_2 : w1.cell? ⟨w.heap.size + 1, 2, none⟩ = some (.slice none 0 0) := by rw [cell_of_block r]; rfl
  have r_3 : w1.cell? ⟨w.heap.size + 1, 3, none⟩ = some (.int .i64 0) := by rw [cell_of_block r]; rfl
  have r_4 : w1.cell? ⟨w.heap.size + 1, 4, none⟩ = some (.int .i64 0) := by rw [cell_of_block r]; rfl
  have r_5 : w1.cell? ⟨w.heap.size + 1, 5, none⟩ = some (.slice none 0 0) := by rw [cell_of_block r]; rfl
  have r_f : ∀ i, w1.frozen? ⟨w.heap.size + 1, i, none⟩ = false := frozen_of_block r
  go_wp2_with fail
  refine (hS _ (by (repeat (first | exact Below.refl _ _ | assumption | refine Below.drew ?_ | refine below_drewN ?_ _ | refine balloc ?_ _ | refine Below.setCell ?_ (by first | (simp; done) | (simp; omega) | omega) _ | refine bchain (by assumption) ?_)))).mono ?_
  rintro e w2 ⟨v2, rfl, g2, hmd2, hg2, hb2⟩
  have hB2 : Below w1.heap.size w1 w2 := by (repeat (first | exact Below.refl _ _ | assumption | refine Below.drew ?_ | refine below_drewN ?_ _ | refine balloc ?_ _ | refine Below.setCell ?_ (by first | (simp; done) | (simp; omega) | omega) _ | refine bchain (by assumption) ?_))
  have k0 := bblock hB2 k0
  have r := bblock hB2 r
  have hw2 := bchain hB2 hw1
  have hp2 : w.heap.size + 2 ≤ w2.heap.size := by have := (Array.getElem?_eq_some_iff.1 r).1; omega
  clear hz_k0 hz_r
  have hz_k0 : w.heap.size < w2.heap.size := (Array.getElem?_eq_some_iff.1 k0).1
  have hz_r : w.heap.size + 1 < w2.heap.size := (Array.getElem?_eq_some_iff.1 r).1
  clear hB2
  have hmd3 := hmd2
  obtain ⟨A2, c2, rfl, hr2⟩ := hmd2
  have hgl : ∀ G, g2 = some G → gY = some G ∨ w.heap.size + 2 ≤ G := fun G e => (hg2 G e).imp id (fun h => by omega)
  have hmk := hmB _ hw2
  generalize hL : ws2.length = N2 at *
  have HL := Lib.hid hL
  clear k0_0 k0_1 k0_2 k0_3 k0_4 k0_5 k0_f r_0 r_1 r_2 r_3 r_4 r_5 r_f
  have k0_0 : w2.cell? ⟨w.heap.size, 0, none⟩ = some (.int .i64 0) := by rw [cell_of_block k0]; rfl
  have k0_1 : w2.cell? ⟨w.heap.size, 1, none⟩ = some (.int .i64 lo) := by rw [cell_of_block k0]; rfl
  have k0_2 : w2.cell? ⟨w.heap.size, 2, none⟩ = some (.slice aO nO cO) := by rw [cell_of_block k0]; rfl
  have k0_3 : w2.cell? ⟨w.heap.size, 3, none⟩ = some (.int .i64 16777216) := by rw [cell_of_block k0]; rfl
  have k0_4 : w2.cell? ⟨w.heap.size, 4, none⟩ = some (.int .i64 ly) := by rw [cell_of_block k0]; rfl
  have k0_5 : w2.cell? ⟨w.heap.size, 5, none⟩ = some (.slice aY nY cY) := by rw [cell_of_block k0]; rfl
  have k0_f : ∀ i, w2.frozen? ⟨w.heap.size, i, none⟩ = false := frozen_of_block k0
  have r_0 : w2.cell? ⟨w.heap.size + 1, 0, none⟩ = some (.int .i64 0) := by rw [cell_of_block r]; rfl
  have r_1 : w2.cell? ⟨w.heap.size + 1, 1, none⟩ = some (.int .i64 0) := by rw [cell_of_block r]; rfl
  have r_2 : w2.cell? ⟨w.heap.size + 1, 2, none⟩ = some (.slice none 0 0) := by rw [cell_of_block r]; rfl
  have r_3 : w2.cell? ⟨w.heap.size + 1, 3, none⟩ = some (.int .i64 0) := by rw [cell_of_block r]; rfl
  have r_4 : w2.cell? ⟨w.heap.size + 1, 4, none⟩ = some (.int .i64 0) := by rw [cell_of_block r]; rfl
  have r_5 : w2.cell? ⟨w.heap.size + 1, 5, none⟩ = some (.slice none 0 0) := by rw [cell_of_block r]; rfl
  have r_f : ∀ i, w2.frozen? ⟨w.heap.size + 1, i, none⟩ = false := frozen_of_block r
  have hRM : RMem w2 aO nO cO A2 N2 c2 lo ly wo ws2 gO g2 := ⟨hmk.lO, hL, hmk.old, hr2, hmk.okO, hk2, hmk.lim⟩
  clear hL hr2 hmd3 hmk hS hC hmB hg2
  go_wp2
  refine bodyPost_ret (v := .tuple #[.agg #[.int .i64 0, .int .i64 lo, .slice aO nO cO, .int .i64 16777216, .int .i64 ly, .slice A2 N2 c2], .int .i64 er]) (by simp [results, Try.results59, go_sem, k0_0, k0_1, k0_2, k0_3, k0_4, k0_5, k0_f, r_0, r_1, r_2, r_3, r_4, r_5, r_f, hz_k0, hz_r]) rfl ?_
  refine rnext_fin (w := w) (wk := w2) (mk := fun v => .tuple #[v, .int .i64 er]) hm hRM ?_ (fun G e => .inl e) hgl ?_
  · (repeat (first | (with_reducible refine Mods.alloc ?_ _) | (with_reducible refine two_set ?_ _ _ _ (.inl rfl)) | (with_reducible refine two_set ?_ _ _ _ (.inr rfl)) | (with_reducible exact Mods.refl _ _)))
  · (repeat (first | (with_reducible refine balloc ?_ _) | (with_reducible refine below_set ?_ _ _ _ (Nat.le_refl _)) | (with_reducible refine below_set ?_ _ _ _ (Nat.le_add_right _ _)) | (with_reducible assumption)))
theorem rmstore_any {w : World} {aO : Option Addr} {nO cO : Nat} {aY : Option Addr} {nY cY : Nat} {lo ly : Int} {wo wy : List Int} {gO gY : Option Nat} (hm : RMem w aO nO cO aY nY cY lo ly wo wy gO gY) (a u : Int) (hu : U64 u) : Calls Try.prog 59 #[.agg #[.int .i64 0, .int .i64 lo, .slice aO nO cO, .int .i64 16777216, .int .i64 ly, .slice aY nY cY], .int .i64 a, .int .u64 u] w (RNext w (fun v => .tuple #[v, .int .i64 (LE wo wy a)]) lo ly (stO wo a u) (stY wy a u) gO gY) := by
  unfold LE stO stY
  rcases prt_same hm a with ⟨h1, h2, h3⟩ | ⟨h1, h2, h3⟩ | ⟨h1, h2, h3, h4⟩
  · have hn : ¬ 16777216 ≤ a := by
      obtain ⟨_, h5⟩ := inB_iff.1 h1
      have := hm.okO.top
      have := hm.lim
      omega
    rw [if_neg hn, if_neg hn, h2, h3]
    exact rmstore_O hm a u hu h1
  · have hn : 16777216 ≤ a := by
      unfold bsA at h2
      by_cases h : 16777216 ≤ a
      · exact h
      · rw [if_neg h] at h2; cases h2
    rw [if_pos hn, if_pos hn, h2, h3]
    exact rmstore_Y hm a u hu h1
  · have hn : ¬ 16777216 ≤ a := by
      unfold bsA at h2
      intro h
      rw [if_pos h] at h2; cases h2
    rw [if_neg hn, if_neg hn, h2, h3]
    have e1 : stW 0 wo a u = wo := by unfold stW; rw [h1]; rfl
    have e2 : ioE 0 wo a = ioE 16777216 wy a := by unfold ioE; rw [h1, h4]
    have e3 : stW 16777216 wy a u = wy := by unfold stW; rw [h4]; rfl
    have := rmstore_Y hm a u hu h1
    rw [e3] at this
    rw [e1, e2]
    exact this
end Go.Proofs.Ytgipmcmmicppkaa
namespace Go.Proofs.Ytgipmcmmicppkaa
open Go.RowKit
set_option linter.unusedSimpArgs false
set_option linter.unusedVariables false

def Four (w : World) : Nat → Prop := fun k => k = w.heap.size ∨ k = w.heap.size + 3
theorem four_set {w wk W : World} (h : Mods (Four w) wk W) (b off : Nat) (u : Value) (hb : b = w.heap.size ∨ b = w.heap.size + 3) : Mods (Four w) wk (W.setCell ⟨b, off, none⟩ u) := h.setCell (p := ⟨b, off, none⟩) (.inl hb) u
theorem rnext_fin4 {w wk W : World} {mk : Value → Value} {lo ly : Int} {wo wy wo' wy' : List Int} {gO gY gO' gY' : Option Nat} {aO : Option Addr} {nO cO : Nat} {aY : Option Addr} {nY cY : Nat} {aO' : Option Addr} {nO' cO' : Nat} {aY' : Option Addr} {nY' cY' : Nat}
    (hm : RMem w aO nO cO aY nY cY lo ly wo wy gO gY) (hk : RMem wk aO' nO' cO' aY' nY' cY' lo ly wo' wy' gO' gY') (hF : Mods (Four w) wk W) (hgO : ∀ G, gO' = some G → gO = some G ∨ w.heap.size + 4 ≤ G) (hgY : ∀ G, gY' = some G → gY = some G ∨ w.heap.size + 4 ≤ G) (hB : Below w.heap.size w W) :
    RNext w mk lo ly wo' wy' gO gY (.returned (mk (.agg #[.int .i64 0, .int .i64 lo, .slice aO' nO' cO', .int .i64 16777216, .int .i64 ly, .slice aY' nY' cY']))) W := by
  have l1 := hm.old.lt'
  have l2 := hm.yng.lt'
  refine ⟨aO', nO', cO', aY', nY', cY', gO', gY', rfl, ⟨hk.lO, hk.lY, hk.old.mods hF (fun G e => ?_), hk.yng.mods hF (fun G e => ?_), hk.okO, hk.okY, hk.lim⟩, fun G e => (hgO G e).imp id (fun h => by omega), fun G e => (hgY G e).imp id (fun h => by omega), hB⟩
  · rintro (h | h) <;> rcases hgO G e with h' | h' <;> first | omega | (have := l1 G h'; omega)
  · rintro (h | h) <;> rcases hgY G e with h' | h' <;> first | omega | (have := l2 G h'; omega)
set_option maxRecDepth 100000 in
set_option maxHeartbeats 2000000 in
theorem rmalloc_O {w : World} {aO : Option Addr} {nO cO : Nat} {aY : Option Addr} {nY cY : Nat} {lo ly : Int} {wo wy : List Int} {gO gY : Option Nat} (hm : RMem w aO nO cO aY nY cY lo ly wo wy gO gY) (k c f m s : Int) :
    Calls Try.prog 41 #[.agg #[.int .i64 0, .int .i64 lo, .slice aO nO cO, .int .i64 16777216, .int .i64 ly, .slice aY nY cY], .bool false, .agg #[.int .i64 k, .int .i64 c, .int .i64 f], .agg #[.int .i64 m, .int .i64 s]] w (RNext w (fun v => .tuple #[v, .int .i64 (alA 0 lo wo k c f m s), .int .i64 (alE 0 lo wo k c f m s)]) lo ly (alW 0 lo wo k c f m s) (wy) gO gY) := by
  have hS := fun W (H : Below w.heap.size w W) => ralloc_any (hm.below H).mdO hm.okO k c f m s
  have hk2 := alOk hm.okO k c f m s
  have hmB := fun W (H : Below w.heap.size w W) => hm.below H
  generalize alE 0 lo wo k c f m s = er at *
  generalize alA 0 lo wo k c f m s = ad at *
  generalize hw2 : alW 0 lo wo k c f m s = ws2 at *
  clear hw2
  have hw0 : Below w.heap.size w w := Below.refl _ _
  go_enter Try.func41, Try.ntmps41
  go_wp2_with fail
  refine (hS _ (by (repeat (first | exact Below.refl _ _ | assumption | refine Below.drew ?_ | refine below_drewN ?_ _ | refine balloc ?_ _ | refine Below.setCell ?_ (by first | (simp; done) | (simp; omega) | omega) _ | refine bchain (by assumption) ?_)))).mono ?_
  rintro e w1 ⟨v2, rfl, g2, hmd2, hg2, hb1⟩
  have hB1 : Below w.heap.size w w1 := by (repeat (first | exact Below.refl _ _ | assumption | refine Below.drew ?_ | refine below_drewN ?_ _ | refine balloc ?_ _ | refine Below.setCell ?_ (by first | (simp; done) | (simp; omega) | omega) _ | refine bchain (by assumption) ?_))
  have k0 : w1.heap[w.heap.size]? = some (.cells #[.int .i64 0, .int .i64 lo, .slice aO nO cO, .int .i64 16777216, .int .i64 ly, .slice aY nY cY] 35 (0, 0)) := bblock hb1 (by repeat (first | exact alloc_at _ (by simp) | refine alloc_lt _ ?_))
  have hb : w1.heap[w.heap.size + 1]? = some (.cells #[.int .i64 k, .int .i64 c, .int .i64 f] 69 (0, 0)) := bblock hb1 (by repeat (first | exact alloc_at _ (by simp) | refine alloc_lt _ ?_))
  have ib : w1.heap[w.heap.size + 2]? = some (.cells #[.int .i64 m, .int .i64 s] 71 (0, 0)) := bblock hb1 (by repeat (first | exact alloc_at _ (by simp) | refine alloc_lt _ ?_))
  have r : w1.heap[w.heap.size + 3]? = some (.cells #[.int .i64 0, .int .i64 0, .slice none 0 0, .int .i64 0, .int .i64 0, .slice none 0 0] 35 (0, 0)) := bblock hb1 (by repeat (first | exact alloc_at _ (by simp) | refine alloc_lt _ ?_))
  have hw1 := bchain hB1 hw0
  have hp1 : w.heap.size + 4 ≤ w1.heap.size := by have := (Array.getElem?_eq_some_iff.1 r).1; omega
  have hz_k0 : w.heap.size < w1.heap.size := (Array.getElem?_eq_some_iff.1 k0).1
  have hz_hb : w.heap.size + 1 < w1.heap.size := (Array.getElem?_eq_some_iff.1 hb).1
  have hz_ib : w.heap.size + 2 < w1.heap.size := (Array.getElem?_eq_some_iff.1 ib).1
  have hz_r : w.heap.size + 3 < w1.heap.size := (Array.getElem?_eq_some_iff.1 r).1
  clear hB1
  have hmd3 := hmd2
  obtain ⟨A2, c2, rfl, hr2⟩ := hmd2
  have hgl : ∀ G, g2 = some G → gO = some G ∨ w.heap.size + 4 ≤ G := fun G e => (hg2 G e).imp id (fun h => by simp at h; omega)
  have hmk := hmB _ hw1
  generalize hL : ws2.length = N2 at *
  have HL := Lib.hid hL
  have k0_0 : w1.cell? ⟨w.heap.size, 0, none⟩ = some (.int .i64 0) := by rw [cell_of_block k0]; rfl
  have k0_1 : w1.cell? ⟨w.heap.size, 1, none⟩ = some (.int .i64 lo) := by rw [cell_of_block k0]; rfl
  have k0_2 : w1.cell? ⟨w.heap.size, 2, none⟩ = some (.slice aO nO cO) := by rw [cell_of_block k0]; rfl
  have k0_3 : w1.cell? ⟨w.heap.size, 3, none⟩ = some (.int .i64 16777216) := by rw [cell_of_block k0]; rfl
  have k0_4 : w1.cell? ⟨w.heap.size, 4, none⟩ = some (.int .i64 ly) := by rw [cell_of_block k0]; rfl
  have k0_5 : w1.cell? ⟨w.heap.size, 5, none⟩ = some (.slice aY nY cY) := by rw [cell_of_block k0]; rfl
  have k0_f : ∀ i, w1.frozen? ⟨w.heap.size, i, none⟩ = false := frozen_of_block k0
  have hb_0 : w1.cell? ⟨w.heap.size + 1, 0, none⟩ = some (.int .i64 k) := by rw [cell_of_block hb]; rfl
  have hb_1 : w1.cell? ⟨w.heap.size + 1, 1, none⟩ = some (.int .i64 c) := by rw [cell_of_block hb]; rfl
  have hb_2 : w1.cell? ⟨w.heap.size + 1, 2, none⟩ = some (.int .i64 f) := by rw [cell_of_block hb]; rfl
  have ib_0 : w1.cell? ⟨w.heap.size + 2, 0, none⟩ = some (.int .i64 m) := by rw [cell_of_block ib]; rfl
  have ib_1 : w1.cell? ⟨w.heap.size + 2, 1, none⟩ = some (.int .i64 s) := by rw [cell_of_block ib]; rfl
  have r_0 : w1.cell? ⟨w.heap.size + 3, 0, none⟩ = some (.int .i64 0) := by rw [cell_of_block r]; rfl
  have r_1 : w1.cell? ⟨w.heap.size + 3, 1, none⟩ = some (.int .i64 0) := by rw [cell_of_block r]; rfl
  have r_2 : w1.cell? ⟨w.heap.size + 3, 2, none⟩ = some (.slice none 0 0) := by rw [cell_of_block r]; rfl
  have r_3 : w1.cell? ⟨w.heap.size + 3, 3, none⟩ = some (.int .i64 0) := by rw [cell_of_block r]; rfl
  have r_4 : w1.cell? ⟨w.heap.size + 3, 4, none⟩ = some (.int .i64 0) := by rw [cell_of_block r]; rfl
  have r_5 : w1.cell? ⟨w.heap.size + 3, 5, none⟩ = some (.slice none 0 0) := by rw [cell_of_block r]; rfl
  have r_f : ∀ i, w1.frozen? ⟨w.heap.size + 3, i, none⟩ = false := frozen_of_block r
  have hRM : RMem w1 A2 N2 c2 aY nY cY lo ly ws2 wy g2 gY := ⟨hL, hmk.lY, hr2, hmk.yng, hk2, hmk.okY, hmk.lim⟩
  clear hL hr2 hmd3 hmk hS hmB hg2
  go_wp2
  refine bodyPost_ret (v := .tuple #[.agg #[.int .i64 0, .int .i64 lo, .slice A2 N2 c2, .int .i64 16777216, .int .i64 ly, .slice aY nY cY], .int .i64 ad, .int .i64 er]) (by simp [results, Try.results41, go_sem, k0_0, k0_1, k0_2, k0_3, k0_4, k0_5, k0_f, hb_0, hb_1, hb_2, ib_0, ib_1, r_0, r_1, r_2, r_3, r_4, r_5, r_f, hz_k0, hz_hb, hz_ib, hz_r]) rfl ?_
  refine rnext_fin4 (w := w) (wk := w1) (mk := fun v => .tuple #[v, .int .i64 ad, .int .i64 er]) hm hRM ?_ hgl (fun G e => .inl e) ?_
  · (repeat (first | (with_reducible refine Mods.alloc ?_ _) | (with_reducible refine four_set ?_ _ _ _ (.inl rfl)) | (with_reducible refine four_set ?_ _ _ _ (.inr rfl)) | (with_reducible exact Mods.refl _ _)))
  · (repeat (first | (with_reducible refine balloc ?_ _) | (with_reducible refine below_set ?_ _ _ _ (by omega)) | (with_reducible assumption)))
set_option maxRecDepth 100000 in
set_option maxHeartbeats 2000000 in
theorem rmalloc_Y {w : World} {aO : Option Addr} {nO cO : Nat} {aY : Option Addr} {nY cY : Nat} {lo ly : Int} {wo wy : List Int} {gO gY : Option Nat} (hm : RMem w aO nO cO aY nY cY lo ly wo wy gO gY) (k c f m s : Int) :
    Calls Try.prog 41 #[.agg #[.int .i64 0, .int .i64 lo, .slice aO nO cO, .int .i64 16777216, .int .i64 ly, .slice aY nY cY], .bool true, .agg #[.int .i64 k, .int .i64 c, .int .i64 f], .agg #[.int .i64 m, .int .i64 s]] w (RNext w (fun v => .tuple #[v, .int .i64 (alA 16777216 ly wy k c f m s), .int .i64 (alE 16777216 ly wy k c f m s)]) lo ly (wo) (alW 16777216 ly wy k c f m s) gO gY) := by
  have hS := fun W (H : Below w.heap.size w W) => ralloc_any (hm.below H).mdY hm.okY k c f m s
  have hk2 := alOk hm.okY k c f m s
  have hmB := fun W (H : Below w.heap.size w W) => hm.below H
  generalize alE 16777216 ly wy k c f m s = er at *
  generalize alA 16777216 ly wy k c f m s = ad at *
  generalize hw2 : alW 16777216 ly wy k c f m s = ws2 at *
  clear hw2
  have hw0 : Below w.heap.size w w := Below.refl _ _
  go_enter Try.func41, Try.ntmps41
  go_wp2_with fail
  refine (hS _ (by (repeat (first | exact Below.refl _ _ | assumption | refine Below.drew ?_ | refine below_drewN ?_ _ | refine balloc ?_ _ | refine Below.setCell ?_ (by first | (simp; done) | (simp; omega) | omega) _ | refine bchain (by assumption) ?_)))).mono ?_
  rintro e w1 ⟨v2, rfl, g2, hmd2, hg2, hb1⟩
  have hB1 : Below w.heap.size w w1 := by (repeat (first | exact Below.refl _ _ | assumption | refine Below.drew ?_ | refine below_drewN ?_ _ | refine balloc ?_ _ | refine Below.setCell ?_ (by first | (simp; done) | (simp; omega) | omega) _ | refine bchain (by assumption) ?_))
  have k0 : w1.heap[w.heap.size]? = some (.cells #[.int .i64 0, .int .i64 lo, .slice aO nO cO, .int .i64 16777216, .int .i64 ly, .slice aY nY cY] 35 (0, 0)) := bblock hb1 (by repeat (first | exact alloc_at _ (by simp) | refine alloc_lt _ ?_))
  have hb : w1.heap[w.heap.size + 1]? = some (.cells #[.int .i64 k, .int .i64 c, .int .i64 f] 69 (0, 0)) := bblock hb1 (by repeat (first | exact alloc_at _ (by simp) | refine alloc_lt _ ?_))
  have ib : w1.heap[w.heap.size + 2]? = some (.cells #[.int .i64 m, .int .i64 s] 71 (0, 0)) := bblock hb1 (by repeat (first | exact alloc_at _ (by simp) | refine alloc_lt _ ?_))
  have r : w1.heap[w.heap.size + 3]? = some (.cells #[.int .i64 0, .int .i64 0, .slice none 0 0, .int .i64 0, .int .i64 0, .slice none 0 0] 35 (0, 0)) := bblock hb1 (by repeat (first | exact alloc_at _ (by simp) | refine alloc_lt _ ?_))
  have hw1 := bchain hB1 hw0
  have hp1 : w.heap.size + 4 ≤ w1.heap.size := by have := (Array.getElem?_eq_some_iff.1 r).1; omega
  have hz_k0 : w.heap.size < w1.heap.size := (Array.getElem?_eq_some_iff.1 k0).1
  have hz_hb : w.heap.size + 1 < w1.heap.size := (Array.getElem?_eq_some_iff.1 hb).1
  have hz_ib : w.heap.size + 2 < w1.heap.size := (Array.getElem?_eq_some_iff.1 ib).1
  have hz_r : w.heap.size + 3 < w1.heap.size := (Array.getElem?_eq_some_iff.1 r).1
  clear hB1
  have hmd3 := hmd2
  obtain ⟨A2, c2, rfl, hr2⟩ := hmd2
  have hgl : ∀ G, g2 = some G → gY = some G ∨ w.heap.size + 4 ≤ G := fun G e => (hg2 G e).imp id (fun h => by simp at h; omega)
  have hmk := hmB _ hw1
  generalize hL : ws2.length = N2 at *
  have HL := Lib.hid hL
  have k0_0 : w1.cell? ⟨w.heap.size, 0, none⟩ = some (.int .i64 0) := by rw [cell_of_block k0]; rfl
  have k0_1 : w1.cell? ⟨w.heap.size, 1, none⟩ = some (.int .i64 lo) := by rw [cell_of_block k0]; rfl
  have k0_2 : w1.cell? ⟨w.heap.size, 2, none⟩ = some (.slice aO nO cO) := by rw [cell_of_block k0]; rfl
  have k0_3 : w1.cell? ⟨w.heap.size, 3, none⟩ = some (.int .i64 16777216) := by rw [cell_of_block k0]; rfl
  have k0_4 : w1.cell? ⟨w.heap.size, 4, none⟩ = some (.int .i64 ly) := by rw [cell_of_block k0]; rfl
  have k0_5 : w1.cell? ⟨w.heap.size, 5, none⟩ = some (.slice aY nY cY) := by rw [cell_of_block k0]; rfl
  have k0_f : ∀ i, w1.frozen? ⟨w.heap.size, i, none⟩ = false := frozen_of_block k0
  have hb_0 : w1.cell? ⟨w.heap.size + 1, 0, none⟩ = some (.int .i64 k) := by rw [cell_of_block hb]; rfl
  have hb_1 : w1.cell? ⟨w.heap.size + 1, 1, none⟩ = some (.int .i64 c) := by rw [cell_of_block hb]; rfl
  have hb_2 : w1.cell? ⟨w.heap.size + 1, 2, none⟩ = some (.int .i64 f) := by rw [cell_of_block hb]; rfl
  have ib_0 : w1.cell? ⟨w.heap.size + 2, 0, none⟩ = some (.int .i64 m) := by rw [cell_of_block ib]; rfl
  have ib_1 : w1.cell? ⟨w.heap.size + 2, 1, none⟩ = some (.int .i64 s) := by rw [cell_of_block ib]; rfl
  have r_0 : w1.cell? ⟨w.heap.size + 3, 0, none⟩ = some (.int .i64 0) := by rw [cell_of_block r]; rfl
  have r_1 : w1.cell? ⟨w.heap.size + 3, 1, none⟩ = some (.int .i64 0) := by rw [cell_of_block r]; rfl
  have r_2 : w1.cell? ⟨w.heap.size + 3, 2, none⟩ = some (.slice none 0 0) := by rw [cell_of_block r]; rfl
  have r_3 : w1.cell? ⟨w.heap.size + 3, 3, none⟩ = some (.int .i64 0) := by rw [cell_of_block r]; rfl
  have r_4 : w1.cell? ⟨w.heap.size + 3, 4, none⟩ = some (.int .i64 0) := by rw [cell_of_block r]; rfl
  have r_5 : w1.cell? ⟨w.heap.size + 3, 5, none⟩ = some (.slice none 0 0) := by rw [cell_of_block r]; rfl
  have r_f : ∀ i, w1.frozen? ⟨w.heap.size + 3, i, none⟩ = false := frozen_of_block r
  have hRM : RMem w1 aO nO cO A2 N2 c2 lo ly wo ws2 gO g2 := ⟨hmk.lO, hL, hmk.old, hr2, hmk.okO, hk2, hmk.lim⟩
  clear hL hr2 hmd3 hmk hS hmB hg2
  go_wp2
  refine bodyPost_ret (v := .tuple #[.agg #[.int .i64 0, .int .i64 lo, .slice aO nO cO, .int .i64 16777216, .int .i64 ly, .slice A2 N2 c2], .int .i64 ad, .int .i64 er]) (by simp [results, Try.results41, go_sem, k0_0, k0_1, k0_2, k0_3, k0_4, k0_5, k0_f, hb_0, hb_1, hb_2, ib_0, ib_1, r_0, r_1, r_2, r_3, r_4, r_5, r_f, hz_k0, hz_hb, hz_ib, hz_r]) rfl ?_
  refine rnext_fin4 (w := w) (wk := w1) (mk := fun v => .tuple #[v, .int .i64 ad, .int .i64 er]) hm hRM ?_ (fun G e => .inl e) hgl ?_
  · (repeat (first | (with_reducible refine Mods.alloc ?_ _) | (with_reducible refine four_set ?_ _ _ _ (.inl rfl)) | (with_reducible refine four_set ?_ _ _ _ (.inr rfl)) | (with_reducible exact Mods.refl _ _)))
  · (repeat (first | (with_reducible refine balloc ?_ _) | (with_reducible refine below_set ?_ _ _ _ (by omega)) | (with_reducible assumption)))
/-- Alloc, at every input. -/
def amE (lo ly : Int) (wo wy : List Int) (y : Bool) (k c f m s : Int) : Int := if y then alE 16777216 ly wy k c f m s else alE 0 lo wo k c f m s
def amA (lo ly : Int) (wo wy : List Int) (y : Bool) (k c f m s : Int) : Int := if y then alA 16777216 ly wy k c f m s else alA 0 lo wo k c f m s
def amO (lo : Int) (wo : List Int) (y : Bool) (k c f m s : Int) : List Int := if y then wo else alW 0 lo wo k c f m s
def amY (ly : Int) (wy : List Int) (y : Bool) (k c f m s : Int) : List Int := if y then alW 16777216 ly wy k c f m s else wy
theorem rmalloc_any {w : World} {aO : Option Addr} {nO cO : Nat} {aY : Option Addr} {nY cY : Nat} {lo ly : Int} {wo wy : List Int} {gO gY : Option Nat} (hm : RMem w aO nO cO aY nY cY lo ly wo wy gO gY) (y : Bool) (k c f m s : Int) : Calls Try.prog 41 #[.agg #[.int .i64 0, .int .i64 lo, .slice aO nO cO, .int .i64 16777216, .int .i64 ly, .slice aY nY cY], .bool y, .agg #[.int .i64 k, .int .i64 c, .int .i64 f], .agg #[.int .i64 m, .int .i64 s]] w (RNext w (fun v => .tuple #[v, .int .i64 (amA lo ly wo wy y k c f m s), .int .i64 (amE lo ly wo wy y k c f m s)]) lo ly (amO lo wo y k c f m s) (amY ly wy y k c f m s) gO gY) := by
  unfold amE amA amO amY
  cases y
  · exact rmalloc_O hm k c f m s
  · exact rmalloc_Y hm k c f m s
end Go.Proofs.Ytgipmcmmicppkaa
namespace Go.Proofs.Ytgipmcmmicppkaa
open Go.RowKit
set_option linter.unusedSimpArgs false
set_option linter.unusedVariables false

/-- The limit of a new memory. -/
def nmL (limit : Int) : Int := if limit < 0 then 0 else if limit ≤ 16777216 then limit else 16777216
theorem nmL_bd (limit : Int) : 0 ≤ nmL limit ∧ nmL limit ≤ 16777216 := by unfold nmL; split <;> (try split) <;> omega
theorem newLm_at {b L : Int} (h0 : 0 ≤ b) (h1 : 0 ≤ L) (h2 : L ≤ 16777216) (h3 : b ≤ 16777216) : newLm b (b + L) = b + L := by unfold newLm; omega
theorem new_ok {b L : Int} (h0 : 0 ≤ b) (h1 : 0 ≤ L) (h2 : L ≤ 16777216) (h3 : b ≤ 16777216) : SpOk b (b + L) [] := ⟨h0, by simp; omega, by omega, fun x h => by cases h⟩
theorem space_made {w : World} {k : Nat} {b lm : Int} (h : w.heap[k]? = some (.cells #[.int .i64 b, .int .i64 lm, .slice none 0 0] 92 (0, 0))) : SpAt w k b lm [] none := ⟨none, 0, h, ⟨by simp, by omega, .inl ⟨rfl, rfl⟩⟩, by simp⟩
theorem mem_made {w : World} {b1 b2 : Nat} {L : Int} (h0 : 0 ≤ L) (h1 : L ≤ 16777216) (h : w.heap[b1]? = some (.cells #[.int .i64 0, .int .i64 L, .slice none 0 0] 92 (0, 0))) (h' : w.heap[b2]? = some (.cells #[.int .i64 16777216, .int .i64 (16777216 + L), .slice none 0 0] 92 (0, 0))) (hn : b1 ≠ b2) : MemAt w b1 b2 L (16777216 + L) [] [] none none :=
  ⟨space_made h, space_made h', (by have := new_ok (b := 0) (by omega) h0 h1 (by omega); rwa [show (0 : Int) + L = L by omega] at this), new_ok (by omega) h0 h1 (by omega), h1, hn, by simp, by simp, by simp⟩
def NewMem (w : World) (L : Int) (e : Ending) (w' : World) : Prop := ∃ b1 b2, w.heap.size ≤ b1 ∧ w.heap.size ≤ b2 ∧ e = .returned (.agg #[.pointer (some ⟨b1, 0, none⟩), .pointer (some ⟨b2, 0, none⟩)]) ∧ MemAt w' b1 b2 L (16777216 + L) [] [] none none ∧ Below w.heap.size w w'
set_option maxRecDepth 100000 in
set_option maxHeartbeats 1000000 in
theorem onew_any (limit : Int) (w : World) : Calls Try.prog 31 #[.int .i64 limit] w (NewMem w (nmL limit)) := by
  obtain ⟨l0, l1⟩ := nmL_bd limit
  have hX : min (max limit 0) 16777216 = nmL limit := by unfold nmL; split <;> (try split) <;> omega
  generalize nmL limit = L at *
  have n1 := fun W => new_any 0 L W
  have n2 := fun W => new_any 16777216 (16777216 + L) W
  rw [show max (0 : Int) 0 = 0 by decide, show newLm 0 L = L by have := newLm_at (b := 0) (by omega) l0 l1 (by omega); rwa [show (0 : Int) + L = L by omega] at this] at n1
  rw [show max (16777216 : Int) 0 = 16777216 by decide, newLm_at (by omega) l0 l1 (by omega)] at n2
  have hm := fun (W : World) => mem_made (w := W) (b1 := w.heap.size + 1) (b2 := w.heap.size + 2) l0 l1
  go_enter Try.func31, Try.ntmps31
  go_wp2_with fail
  refine (n1 _).mono ?_
  rintro e _ ⟨rfl, rfl⟩
  go_wp2_with fail
  refine (n2 _).mono ?_
  rintro e _ ⟨rfl, rfl⟩
  go_wp2
  refine bodyPost_ret (v := .agg #[.pointer (some ⟨w.heap.size + 1, 0, none⟩), .pointer (some ⟨w.heap.size + 2, 0, none⟩)]) (by simp [results, Try.results31, go_sem]) rfl ?_
  refine ⟨w.heap.size + 1, w.heap.size + 2, by omega, by omega, rfl, hm _ ?_ ?_ (by omega), by (repeat (first | exact Below.refl _ _ | assumption | refine Below.drew ?_ | refine below_drewN ?_ _ | refine balloc ?_ _ | refine Below.setCell ?_ (by first | (simp; done) | (simp; omega) | omega) _ | refine bchain (by assumption) ?_))⟩
  · repeat (first | exact alloc_at _ (by simp) | refine alloc_lt _ ?_)
  · repeat (first | exact alloc_at _ (by simp) | refine alloc_lt _ ?_)
def RNew (w : World) (L : Int) (e : Ending) (w' : World) : Prop := ∃ (aO : Option Addr) (cO : Nat) (aY : Option Addr) (cY : Nat), e = .returned (.agg #[.int .i64 0, .int .i64 L, .slice aO 0 cO, .int .i64 16777216, .int .i64 (16777216 + L), .slice aY 0 cY]) ∧ RMem w' aO 0 cO aY 0 cY L (16777216 + L) [] [] none none ∧ Below w.heap.size w w'
set_option maxRecDepth 100000 in
set_option maxHeartbeats 1000000 in
theorem rmnew_any (limit : Int) (w : World) : Calls Try.prog 33 #[.int .i64 limit] w (RNew w (nmL limit)) := by
  obtain ⟨l0, l1⟩ := nmL_bd limit
  have hX : max 0 (min limit 16777216) = nmL limit := by unfold nmL; split <;> (try split) <;> omega
  generalize nmL limit = L at *
  have n1 := fun W => rnew_any 0 L W
  have n2 := fun W => rnew_any 16777216 (16777216 + L) W
  rw [show max (0 : Int) 0 = 0 by decide, show newLm 0 L = L by have := newLm_at (b := 0) (by omega) l0 l1 (by omega); rwa [show (0 : Int) + L = L by omega] at this] at n1
  rw [show max (16777216 : Int) 0 = 16777216 by decide, newLm_at (by omega) l0 l1 (by omega)] at n2
  have ok1 : SpOk 0 L [] := by have := new_ok (b := 0) (by omega) l0 l1 (by omega); rwa [show (0 : Int) + L = L by omega] at this
  have ok2 : SpOk 16777216 (16777216 + L) [] := new_ok (by omega) l0 l1 (by omega)
  go_enter Try.func33, Try.ntmps33
  go_wp2_with fail
  refine (n1 _).mono ?_
  rintro e w1 ⟨⟨v1, rfl, hv1⟩, hb1⟩
  obtain ⟨aO, cO, rfl, hrO⟩ := hv1
  have r := bblock hb1 (alloc_at (w := w) (.cells #[.int .i64 0, .int .i64 0, .slice none 0 0, .int .i64 0, .int .i64 0, .slice none 0 0] 35) (k := w.heap.size) rfl)
  have hw1 : Below w.heap.size w w1 := by (repeat (first | exact Below.refl _ _ | assumption | refine Below.drew ?_ | refine below_drewN ?_ _ | refine balloc ?_ _ | refine Below.setCell ?_ (by first | (simp; done) | (simp; omega) | omega) _ | refine bchain (by assumption) ?_))
  have HO := Lib.hid hrO
  clear hrO hb1
  go_wp2_with fail
  refine (n2 _).mono ?_
  rintro e w2 ⟨⟨v2, rfl, hv2⟩, hb2⟩
  obtain ⟨aY, cY, rfl, hrY⟩ := hv2
  have r := bblock hb2 r
  have hw2 := bchain hb2 hw1
  have hRM : RMem w2 aO 0 cO aY 0 cY L (16777216 + L) [] [] none none := ⟨rfl, rfl, HO.out.keep (fun G o e => by cases e), hrY, ok1, ok2, l1⟩
  clear hrY HO hb2 n1 n2
  have r_0 : w2.cell? ⟨w.heap.size, 0, none⟩ = some (.int .i64 0) := by rw [cell_of_block r]; rfl
  have r_1 : w2.cell? ⟨w.heap.size, 1, none⟩ = some (.int .i64 0) := by rw [cell_of_block r]; rfl
  have r_2 : w2.cell? ⟨w.heap.size, 2, none⟩ = some (.slice none 0 0) := by rw [cell_of_block r]; rfl
  have r_3 : w2.cell? ⟨w.heap.size, 3, none⟩ = some (.int .i64 0) := by rw [cell_of_block r]; rfl
  have r_4 : w2.cell? ⟨w.heap.size, 4, none⟩ = some (.int .i64 0) := by rw [cell_of_block r]; rfl
  have r_5 : w2.cell? ⟨w.heap.size, 5, none⟩ = some (.slice none 0 0) := by rw [cell_of_block r]; rfl
  have r_f : ∀ i, w2.frozen? ⟨w.heap.size, i, none⟩ = false := frozen_of_block r
  have hz_r : w.heap.size < w2.heap.size := (Array.getElem?_eq_some_iff.1 r).1
  go_wp2
  refine bodyPost_ret (v := .agg #[.int .i64 0, .int .i64 L, .slice aO 0 cO, .int .i64 16777216, .int .i64 (16777216 + L), .slice aY 0 cY]) (by simp [results, Try.results33, go_sem, r_0, r_1, r_2, r_3, r_4, r_5, hz_r]) rfl ?_
  refine ⟨aO, cO, aY, cY, rfl, ⟨rfl, rfl, hRM.old.keep (fun G o e => by cases e), hRM.yng.keep (fun G o e => by cases e), ok1, ok2, l1⟩, ?_⟩
  (repeat (first | (with_reducible refine balloc ?_ _) | (with_reducible refine below_set ?_ _ _ _ (Nat.le_refl _)) | (with_reducible refine below_set ?_ _ _ _ (Nat.le_add_right _ _)) | (with_reducible assumption)))
end Go.Proofs.Ytgipmcmmicppkaa
namespace Go.Proofs.Ytgipmcmmicppkaa
open Go.RowKit
set_option linter.unusedSimpArgs false
set_option linter.unusedVariables false

theorem mem_old' {w : World} {bO bY : Nat} {lo ly : Int} {wo wy : List Int} {gO gY : Option Nat} (hm : MemAt w bO bY lo ly wo wy gO gY) {w' : World} {wo' : List Int} (hn : SpNext w bO 0 lo wo' gO w') (hk : SpOk 0 lo wo') : ∃ gO', MemAt w' bO bY lo ly wo' wy gO' gY ∧ Mods (MS bO bY gO gY) w w' ∧ (∀ G, gO' = some G → gO = some G ∨ w.heap.size ≤ G) := by
  obtain ⟨g', hs, hM, hg⟩ := hn
  have l1 := hm.yng.lt
  have l2 := hm.yng.glt
  refine ⟨g', ⟨hs, hm.yng.mods hM (not_sps (Ne.symm hm.bb) (fun G e => fun h => hm.gb (by rw [e, h]))) (fun G e => not_sps (fun h => hm.bg (by rw [e, h])) (fun G' e' h => hm.gg G' e' (by rw [e, h]))), hk, hm.okY, hm.lim, hm.bb, fun e => ?_, hm.bg, fun G e e' => ?_⟩, hM.mono (fun k hk => .inl hk), hg⟩
  · rcases hg _ e with h | h
    · exact hm.gb h
    · omega
  · rcases hg _ e with h | h
    · exact hm.gg G h e'
    · have := l2 G e'; omega
theorem mem_yng' {w : World} {bO bY : Nat} {lo ly : Int} {wo wy : List Int} {gO gY : Option Nat} (hm : MemAt w bO bY lo ly wo wy gO gY) {w' : World} {wy' : List Int} (hn : SpNext w bY 16777216 ly wy' gY w') (hk : SpOk 16777216 ly wy') : ∃ gY', MemAt w' bO bY lo ly wo wy' gO gY' ∧ Mods (MS bO bY gO gY) w w' ∧ (∀ G, gY' = some G → gY = some G ∨ w.heap.size ≤ G) := by
  obtain ⟨g', hs, hM, hg⟩ := hn
  have l1 := hm.old.lt
  have l2 := hm.old.glt
  refine ⟨g', ⟨hm.old.mods hM (not_sps hm.bb (fun G e => fun h => hm.bg (by rw [e, h]))) (fun G e => not_sps (fun h => hm.gb (by rw [e, h])) (fun G' e' h => hm.gg G e (by rw [e', h]))), hs, hm.okO, hk, hm.lim, hm.bb, hm.gb, fun e => ?_, fun G e e' => ?_⟩, hM.mono (fun k hk => .inr hk), hg⟩
  · rcases hg _ e with h | h
    · exact hm.bg h
    · omega
  · rcases hg _ e' with h | h
    · exact hm.gg G e h
    · have := l2 G e; omega
end Go.Proofs.Ytgipmcmmicppkaa
namespace Go.Proofs.Ytgipmcmmicppkaa
open Go.RowKit
set_option linter.unusedSimpArgs false
set_option linter.unusedVariables false

/-- A slice of integers: its cells. -/
def WrdsV (w : World) (v : Value) (xs : List Int) : Prop :=
  ∃ (a : Option Addr) (cap : Nat), v = .slice a xs.length cap ∧ xs.length ≤ cap ∧ cap ≤ 9223372036854775807 ∧ (xs = [] ∨ ∃ b off : Nat, a = some ⟨b, off, none⟩ ∧ ∀ i x, xs[i]? = some x → w.cell? ⟨b, off + i, none⟩ = some (.int .u64 x))
theorem WrdsV.below {w w' : World} {v : Value} {xs : List Int} (h : WrdsV w v xs) (hb : Below w.heap.size w w') : WrdsV w' v xs := by
  obtain ⟨a, cap, hv, h1, h2, h3⟩ := h
  refine ⟨a, cap, hv, h1, h2, ?_⟩
  rcases h3 with h3 | ⟨b, off, ha, h3⟩
  · exact .inl h3
  · exact .inr ⟨b, off, ha, fun i x hx => bcellv hb (h3 i x hx)⟩
theorem WrdsV.of_row {w : World} {B : Nat} {v : Value} {xs : List Int} (h : w.ownsRow B 43 1 v xs.length (xs.map (Value.int .u64))) : WrdsV w v xs := by
  obtain ⟨h1, h2⟩ := h
  rcases h2 with ⟨rfl, h0⟩ | ⟨g, cap, cur, rfl, _, hh, hn, hm, hs, ht⟩
  · have : xs = [] := List.length_eq_zero_iff.1 h0
    subst this
    exact ⟨none, 0, rfl, Nat.le_refl _, by omega, .inl rfl⟩
  · refine ⟨_, cap, rfl, hn, hm, .inr ⟨g, 0, rfl, fun i x hx => ?_⟩⟩
    rw [Nat.zero_add, cell_of_block hh]
    have hi : i < xs.length := (List.getElem?_eq_some_iff.1 hx).1
    have e : (cur.toList.take (xs.length * 1))[i]? = (xs.map (Value.int .u64))[i]? := by rw [ht]
    rw [List.getElem?_take_of_lt (by omega)] at e
    rw [← Array.getElem?_toList, e, List.getElem?_map, hx]
    rfl
theorem ret_boolW {a b : Bool} (h : a = b) : Ending.returned (.bool a) = Ending.returned (.bool b) := by rw [h]
theorem pre_eqW {xs ys : List Int} {t : Nat} (h : ∀ i, i < t → xs[i]? = ys[i]?) (ht : t = xs.length) (hl : xs.length = ys.length) : xs = ys := by
  refine List.ext_getElem? fun i => ?_
  by_cases hi : i < t
  · exact h i hi
  · rw [List.getElem?_eq_none (by omega), List.getElem?_eq_none (by omega)]

set_option maxRecDepth 100000 in
set_option maxHeartbeats 1000000 in
theorem wrds_any {w : World} {v1 v2 : Value} {xs ys : List Int} (h1 : WrdsV w v1 xs) (h2 : WrdsV w v2 ys) :
    Calls Try.prog 28 #[v1, v2] w fun e w' => e = .returned (.bool (decide (xs = ys))) ∧ Below w.heap.size w w' := by
  obtain ⟨a1, c1, rfl, n1, m1, r1⟩ := h1
  obtain ⟨a2, c2, rfl, n2, m2, r2⟩ := h2
  by_cases hl : xs.length = ys.length
  · rw [← hl] at n2 ⊢
    obtain ⟨n, hn⟩ : ∃ n, n = xs.length := ⟨_, rfl⟩
    rw [← hn] at n1 n2 ⊢
    go_enter Try.func28, Try.ntmps28
    go_wp2
    go_loopw [5] (fun i wr => ∃ t : Nat, t ≤ n ∧ i = .int .i64 t ∧ (∀ j, j < t → xs[j]? = ys[j]?) ∧ Below w.heap.size w wr) (fun i _ => n - (intOf i).toNat)
    case atStart => exact ⟨0, Nat.zero_le _, rfl, fun j h => by omega, Below.refl _ _⟩
    case round =>
      obtain ⟨t, ht, rfl, hp, hbr⟩ := hrel
      by_cases hlt : t < n
      · rcases r1 with r1 | ⟨b1, o1, rfl, r1⟩
        · have h0 : xs.length = 0 := by rw [r1]; rfl
          omega
        rcases r2 with r2 | ⟨b2, o2, rfl, r2⟩
        · have h0 : ys.length = 0 := by rw [r2]; rfl
          omega
        obtain ⟨x, hx⟩ : ∃ x, xs[t]? = some x := ⟨_, List.getElem?_eq_getElem (by omega)⟩
        obtain ⟨y, hy⟩ : ∃ y, ys[t]? = some y := ⟨_, List.getElem?_eq_getElem (by omega)⟩
        have q1 : wr.cell? ⟨b1, o1 + t, none⟩ = some (.int .u64 x) := bcellv hbr (r1 t x hx)
        have q2 : wr.cell? ⟨b2, o2 + t, none⟩ = some (.int .u64 y) := bcellv hbr (r2 t y hy)
        have HX := Lib.hid hx
        have HY := Lib.hid hy
        have s1 : ((t : Int)).toNat = t := by omega
        clear r1 r2 hx hy
        by_cases hxy : x = y
        · have hb : (x != y) = false := by simp [hxy]
          go_wp2_with fail
          go_quiet (fail)
          go_wp2
          go_roundw
          case rel => exact ⟨t + 1, by omega, by go_num, fun j hj => by
            by_cases hjt : j = t
            · rw [hjt, HX.out, HY.out, hxy]
            · exact hp j (by omega), by (repeat (first | exact Below.refl _ _ | assumption | refine Below.drew ?_ | refine below_drewN ?_ _ | refine balloc ?_ _ | refine Below.setCell ?_ (by first | (simp; done) | (simp; omega) | omega) _ | refine bchain (by assumption) ?_))⟩
          case measure => simp [intOf]; omega
        · have hb : (x != y) = true := by simp [hxy]
          have hne : decide (xs = ys) = false := by
            rw [decide_eq_false_iff_not]
            intro h
            have h3 := HX.out
            rw [h, HY.out] at h3
            exact hxy (by cases h3; rfl)
          go_wp2_with fail
          go_quiet (fail)
          go_wp2
          go_ret
          exact ⟨ret_boolW hne.symm, by (repeat (first | exact Below.refl _ _ | assumption | refine Below.drew ?_ | refine below_drewN ?_ _ | refine balloc ?_ _ | refine Below.setCell ?_ (by first | (simp; done) | (simp; omega) | omega) _ | refine bchain (by assumption) ?_))⟩
      · have htn : t = n := by omega
        have he : decide (xs = ys) = true := by rw [decide_eq_true_iff]; exact pre_eqW hp (htn.trans hn) hl
        go_wp2
        go_ret
        exact ⟨ret_boolW he.symm, by (repeat (first | exact Below.refl _ _ | assumption | refine Below.drew ?_ | refine below_drewN ?_ _ | refine balloc ?_ _ | refine Below.setCell ?_ (by first | (simp; done) | (simp; omega) | omega) _ | refine bchain (by assumption) ?_))⟩
  · have he : decide (xs = ys) = false := by
      rw [decide_eq_false_iff_not]
      intro h
      exact hl (by rw [h])
    rw [he]
    clear r1 r2 he
    generalize xs.length = n at *
    generalize ys.length = m at *
    go_enter Try.func28, Try.ntmps28
    go_wp2
    go_ret
    exact ⟨rfl, by (repeat (first | exact Below.refl _ _ | assumption | refine Below.drew ?_ | refine below_drewN ?_ _ | refine balloc ?_ _ | refine Below.setCell ?_ (by first | (simp; done) | (simp; omega) | omega) _ | refine bchain (by assumption) ?_))⟩
end Go.Proofs.Ytgipmcmmicppkaa
