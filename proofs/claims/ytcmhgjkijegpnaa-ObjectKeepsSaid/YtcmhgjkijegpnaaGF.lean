/-
  The reference's memory: refmeshref06.Load; refmeshref07.part, Load, Header.
-/
import Derived.Test.YtcmhgjkijegpnaaGE
namespace Go.Proofs.Ytcmhgjkijegpnaa
open Go.RowKit
set_option linter.unusedSimpArgs false
set_option linter.unusedVariables false

/-! ### refmeshref06.Load -/
set_option maxRecDepth 100000 in
set_option maxHeartbeats 1000000 in
theorem rload_no {w : World} {A : Option Addr} {n cap : Nat} {bs lm : Int} {ws : List Int} {g : Option Nat} (h : MdAt w (.agg #[.int .i64 bs, .int .i64 lm, .slice A n cap]) bs lm ws g) (hk : SpOk bs lm ws) (hn : ws.length = n) (x : Int) (hx : inB bs ws.length x = false) :
    Calls Try.prog 64 #[.agg #[.int .i64 bs, .int .i64 lm, .slice A n cap], .int .i64 x] w fun e w' => e = .returned (.tuple #[.int .u64 0, .int .i64 2]) ∧ Below w.heap.size w w' := by
  have hC := fun W (H : Below w.heap.size w W) => rcontains_any (h.below H) hk x
  rw [hx] at hC
  clear h hk hx hn
  have hw0 : Below w.heap.size w w := Below.refl _ _
  go_enter Try.func64, Try.ntmps64
  go_wp2_with fail
  refine (hC _ (by (repeat (first | exact Below.refl _ _ | assumption | refine Below.drew ?_ | refine below_drewN ?_ _ | refine balloc ?_ _ | refine Below.setCell ?_ (by first | (simp; done) | (simp; omega) | omega) _ | refine bchain (by assumption) ?_)))).mono ?_
  rintro e w1 ⟨rfl, hb1⟩
  have hB1 : Below w.heap.size w w1 := by (repeat (first | exact Below.refl _ _ | assumption | refine Below.drew ?_ | refine below_drewN ?_ _ | refine balloc ?_ _ | refine Below.setCell ?_ (by first | (simp; done) | (simp; omega) | omega) _ | refine bchain (by assumption) ?_))
  have k0 : w1.heap[w.heap.size]? = some (.cells #[.int .i64 bs, .int .i64 lm, .slice A n cap] 33 (0, 0)) := bblock hb1 (by repeat (first | exact alloc_at _ (by simp) | refine alloc_lt _ ?_))
  have hw1 := bchain hB1 hw0
  have hz_k0 : w.heap.size < w1.heap.size := (Array.getElem?_eq_some_iff.1 k0).1
  clear hB1
  have k0_0 : w1.cell? ⟨w.heap.size, 0, none⟩ = some (.int .i64 bs) := by rw [cell_of_block k0]; rfl
  have k0_1 : w1.cell? ⟨w.heap.size, 1, none⟩ = some (.int .i64 lm) := by rw [cell_of_block k0]; rfl
  have k0_2 : w1.cell? ⟨w.heap.size, 2, none⟩ = some (.slice A n cap) := by rw [cell_of_block k0]; rfl
  go_wp2
  go_ret2
  exact ⟨rfl, by (repeat (first | exact Below.refl _ _ | assumption | refine Below.drew ?_ | refine below_drewN ?_ _ | refine balloc ?_ _ | refine Below.setCell ?_ (by first | (simp; done) | (simp; omega) | omega) _ | refine bchain (by assumption) ?_))⟩
set_option maxRecDepth 100000 in
set_option maxHeartbeats 1000000 in
theorem rload_yes {w : World} {A : Option Addr} {n cap : Nat} {bs lm : Int} {ws : List Int} {g : Option Nat} (h : MdAt w (.agg #[.int .i64 bs, .int .i64 lm, .slice A n cap]) bs lm ws g) (hk : SpOk bs lm ws) (hn : ws.length = n) (i : Nat) (hi : i < ws.length) :
    Calls Try.prog 64 #[.agg #[.int .i64 bs, .int .i64 lm, .slice A n cap], .int .i64 (bs + i)] w fun e w' => e = .returned (.tuple #[.int .u64 (ws.getD i 0), .int .i64 0]) ∧ Below w.heap.size w w' := by
  have hC := fun W (H : Below w.heap.size w W) => rcontains_any (h.below H) hk (bs + i)
  rw [inB_iff.2 ⟨by omega, by omega⟩] at hC
  obtain ⟨a', cap', hv, hr⟩ := h
  simp only [Value.agg.injEq, Array.mk.injEq, List.cons.injEq, Value.slice.injEq, and_true, true_and] at hv
  obtain ⟨rfl, rfl, rfl⟩ := hv
  have b0 := hk.b0
  have b1 := hk.top
  have b2 := hk.lm1
  obtain ⟨G, rfl, rfl, qw, _⟩ := hr.word hi
  generalize ws.getD i 0 = y at *
  generalize ws.length = n at *
  have s1 : IntKind.i64.wrap (bs + (i : Int) - bs) = (i : Int) := by rw [show bs + (i : Int) - bs = (i : Int) by omega]; exact IntWalk.i64_in _ (by omega)
  have s2 : (bs + (i : Int) - bs).toNat = i := by omega
  have s3 : (0 : Int) ≤ bs + (i : Int) - bs := by omega
  have s4 : bs + (i : Int) - bs < (n : Int) := by omega
  clear hr hk
  have hw0 : Below w.heap.size w w := Below.refl _ _
  go_enter Try.func64, Try.ntmps64
  go_wp2_with fail
  refine (hC _ (by (repeat (first | exact Below.refl _ _ | assumption | refine Below.drew ?_ | refine below_drewN ?_ _ | refine balloc ?_ _ | refine Below.setCell ?_ (by first | (simp; done) | (simp; omega) | omega) _ | refine bchain (by assumption) ?_)))).mono ?_
  rintro e w1 ⟨rfl, hb1⟩
  have hB1 : Below w.heap.size w w1 := by (repeat (first | exact Below.refl _ _ | assumption | refine Below.drew ?_ | refine below_drewN ?_ _ | refine balloc ?_ _ | refine Below.setCell ?_ (by first | (simp; done) | (simp; omega) | omega) _ | refine bchain (by assumption) ?_))
  have k0 : w1.heap[w.heap.size]? = some (.cells #[.int .i64 bs, .int .i64 lm, .slice (some ⟨G, 0, none⟩) n cap] 33 (0, 0)) := bblock hb1 (by repeat (first | exact alloc_at _ (by simp) | refine alloc_lt _ ?_))
  have hw1 := bchain hB1 hw0
  have hz_k0 : w.heap.size < w1.heap.size := (Array.getElem?_eq_some_iff.1 k0).1
  clear hB1
  have qw := bcellv hw1 qw
  have k0_0 : w1.cell? ⟨w.heap.size, 0, none⟩ = some (.int .i64 bs) := by rw [cell_of_block k0]; rfl
  have k0_1 : w1.cell? ⟨w.heap.size, 1, none⟩ = some (.int .i64 lm) := by rw [cell_of_block k0]; rfl
  have k0_2 : w1.cell? ⟨w.heap.size, 2, none⟩ = some (.slice (some ⟨G, 0, none⟩) n cap) := by rw [cell_of_block k0]; rfl
  go_wp2
  go_ret2
  exact ⟨rfl, by (repeat (first | exact Below.refl _ _ | assumption | refine Below.drew ?_ | refine below_drewN ?_ _ | refine balloc ?_ _ | refine Below.setCell ?_ (by first | (simp; done) | (simp; omega) | omega) _ | refine bchain (by assumption) ?_))⟩
theorem rload_any {w : World} {A : Option Addr} {n cap : Nat} {bs lm : Int} {ws : List Int} {g : Option Nat} (h : MdAt w (.agg #[.int .i64 bs, .int .i64 lm, .slice A n cap]) bs lm ws g) (hk : SpOk bs lm ws) (hn : ws.length = n) (x : Int) : Calls Try.prog 64 #[.agg #[.int .i64 bs, .int .i64 lm, .slice A n cap], .int .i64 x] w fun e w' => e = .returned (.tuple #[.int .u64 (ldW bs ws x), .int .i64 (ioE bs ws x)]) ∧ Below w.heap.size w w' := by
  unfold ldW ioE
  cases hx : inB bs ws.length x
  · exact rload_no h hk hn x hx
  · obtain ⟨h0, h1⟩ := inB_iff.1 hx
    obtain ⟨i, rfl⟩ : ∃ i : Nat, x = bs + (i : Int) := ⟨(x - bs).toNat, by omega⟩
    rw [show (bs + (i : Int) - bs).toNat = i by omega]
    exact rload_yes h hk hn i (by omega)

/-! ### The memory -/
structure RMem (w : World) (aO : Option Addr) (nO cO : Nat) (aY : Option Addr) (nY cY : Nat) (lo ly : Int) (wo wy : List Int) (gO gY : Option Nat) : Prop where
  lO : wo.length = nO
  lY : wy.length = nY
  old : RowAt w aO cO wo gO
  yng : RowAt w aY cY wy gY
  okO : SpOk 0 lo wo
  okY : SpOk 16777216 ly wy
  lim : lo ≤ 16777216
theorem RMem.below {w w' : World} {aO : Option Addr} {nO cO : Nat} {aY : Option Addr} {nY cY : Nat} {lo ly : Int} {wo wy : List Int} {gO gY : Option Nat} (h : RMem w aO nO cO aY nY cY lo ly wo wy gO gY) (hb : Below w.heap.size w w') : RMem w' aO nO cO aY nY cY lo ly wo wy gO gY :=
  ⟨h.lO, h.lY, h.old.keep (fun _ _ _ => bblock hb), h.yng.keep (fun _ _ _ => bblock hb), h.okO, h.okY, h.lim⟩
theorem RMem.mdO {w : World} {aO : Option Addr} {nO cO : Nat} {aY : Option Addr} {nY cY : Nat} {lo ly : Int} {wo wy : List Int} {gO gY : Option Nat} (h : RMem w aO nO cO aY nY cY lo ly wo wy gO gY) : MdAt w (.agg #[.int .i64 0, .int .i64 lo, .slice aO nO cO]) 0 lo wo gO := ⟨aO, cO, by rw [h.lO], h.old⟩
theorem RMem.mdY {w : World} {aO : Option Addr} {nO cO : Nat} {aY : Option Addr} {nY cY : Nat} {lo ly : Int} {wo wy : List Int} {gO gY : Option Nat} (h : RMem w aO nO cO aY nY cY lo ly wo wy gO gY) : MdAt w (.agg #[.int .i64 16777216, .int .i64 ly, .slice aY nY cY]) 16777216 ly wy gY := ⟨aY, cY, by rw [h.lY], h.yng⟩
/-- What the reference takes for the space of an address serves as well. -/
theorem prt_same {w : World} {aO : Option Addr} {nO cO : Nat} {aY : Option Addr} {nY cY : Nat} {lo ly : Int} {wo wy : List Int} {gO gY : Option Nat} (h : RMem w aO nO cO aY nY cY lo ly wo wy gO gY) (a : Int) :
    (inB 0 wo.length a = true ∧ bsA a = 0 ∧ wsA wo wy a = wo) ∨ (inB 0 wo.length a = false ∧ bsA a = 16777216 ∧ wsA wo wy a = wy) ∨ (inB 0 wo.length a = false ∧ bsA a = 0 ∧ wsA wo wy a = wo ∧ inB 16777216 wy.length a = false) := by
  have h1 := h.okO.top
  have h2 := h.lim
  unfold bsA wsA
  cases hi : inB 0 wo.length a
  · by_cases hy : 16777216 ≤ a
    · exact .inr (.inl ⟨rfl, if_pos hy, if_pos hy⟩)
    · refine .inr (.inr ⟨rfl, if_neg hy, if_neg hy, ?_⟩)
      unfold inB
      rw [decide_eq_false_iff_not]
      omega
  · obtain ⟨h3, h4⟩ := inB_iff.1 hi
    have hy : ¬ 16777216 ≤ a := by omega
    exact .inl ⟨rfl, if_neg hy, if_neg hy⟩
set_option maxRecDepth 100000 in
set_option maxHeartbeats 1000000 in
theorem rpart_O {w : World} {aO : Option Addr} {nO cO : Nat} {aY : Option Addr} {nY cY : Nat} {lo ly : Int} {wo wy : List Int} {gO gY : Option Nat} (hm : RMem w aO nO cO aY nY cY lo ly wo wy gO gY) (a : Int) (hi : inB 0 wo.length a = true) :
    Calls Try.prog 65 #[.agg #[.int .i64 0, .int .i64 lo, .slice aO nO cO, .int .i64 16777216, .int .i64 ly, .slice aY nY cY], .int .i64 a] w fun e w' => e = .returned (.agg #[.int .i64 0, .int .i64 lo, .slice aO nO cO]) ∧ Below w.heap.size w w' := by
  have hC := fun W (H : Below w.heap.size w W) => rcontains_any (hm.below H).mdO hm.okO a
  rw [hi] at hC
  clear hm hi
  have hw0 : Below w.heap.size w w := Below.refl _ _
  go_enter Try.func65, Try.ntmps65
  go_wp2_with fail
  refine (hC _ (by (repeat (first | exact Below.refl _ _ | assumption | refine Below.drew ?_ | refine below_drewN ?_ _ | refine balloc ?_ _ | refine Below.setCell ?_ (by first | (simp; done) | (simp; omega) | omega) _ | refine bchain (by assumption) ?_)))).mono ?_
  rintro e w1 ⟨rfl, hb1⟩
  have hB1 : Below w.heap.size w w1 := by (repeat (first | exact Below.refl _ _ | assumption | refine Below.drew ?_ | refine below_drewN ?_ _ | refine balloc ?_ _ | refine Below.setCell ?_ (by first | (simp; done) | (simp; omega) | omega) _ | refine bchain (by assumption) ?_))
  have k0 : w1.heap[w.heap.size]? = some (.cells #[.int .i64 0, .int .i64 lo, .slice aO nO cO, .int .i64 16777216, .int .i64 ly, .slice aY nY cY] 35 (0, 0)) := bblock hb1 (by repeat (first | exact alloc_at _ (by simp) | refine alloc_lt _ ?_))
  have r : w1.heap[w.heap.size + 1]? = some (.cells #[.int .i64 0, .int .i64 0, .slice none 0 0] 33 (0, 0)) := bblock hb1 (by repeat (first | exact alloc_at _ (by simp) | refine alloc_lt _ ?_))
  have hw1 := bchain hB1 hw0
  have hz_k0 : w.heap.size < w1.heap.size := (Array.getElem?_eq_some_iff.1 k0).1
  have hz_r : w.heap.size + 1 < w1.heap.size := (Array.getElem?_eq_some_iff.1 r).1
  clear hB1
  have k0_0 : w1.cell? ⟨w.heap.size, 0, none⟩ = some (.int .i64 0) := by rw [cell_of_block k0]; rfl
  have k0_1 : w1.cell? ⟨w.heap.size, 1, none⟩ = some (.int .i64 lo) := by rw [cell_of_block k0]; rfl
  have k0_2 : w1.cell? ⟨w.heap.size, 2, none⟩ = some (.slice aO nO cO) := by rw [cell_of_block k0]; rfl
  have k0_3 : w1.cell? ⟨w.heap.size, 3, none⟩ = some (.int .i64 16777216) := by rw [cell_of_block k0]; rfl
  have k0_4 : w1.cell? ⟨w.heap.size, 4, none⟩ = some (.int .i64 ly) := by rw [cell_of_block k0]; rfl
  have k0_5 : w1.cell? ⟨w.heap.size, 5, none⟩ = some (.slice aY nY cY) := by rw [cell_of_block k0]; rfl
  have r_0 : w1.cell? ⟨w.heap.size + 1, 0, none⟩ = some (.int .i64 0) := by rw [cell_of_block r]; rfl
  have r_1 : w1.cell? ⟨w.heap.size + 1, 1, none⟩ = some (.int .i64 0) := by rw [cell_of_block r]; rfl
  have r_2 : w1.cell? ⟨w.heap.size + 1, 2, none⟩ = some (.slice none 0 0) := by rw [cell_of_block r]; rfl
  have r_f : ∀ i, w1.frozen? ⟨w.heap.size + 1, i, none⟩ = false := frozen_of_block r
  go_wp2
  exact bodyPost_ret (v := .agg #[.int .i64 0, .int .i64 lo, .slice aO nO cO]) (by simp [results, Try.results65, go_sem, k0_0, k0_1, k0_2, k0_3, k0_4, k0_5, r_0, r_1, r_2, r_f, hz_k0, hz_r]) rfl ⟨rfl, by (repeat (first | exact Below.refl _ _ | assumption | refine Below.drew ?_ | refine below_drewN ?_ _ | refine balloc ?_ _ | refine Below.setCell ?_ (by first | (simp; done) | (simp; omega) | omega) _ | refine bchain (by assumption) ?_))⟩
set_option maxRecDepth 100000 in
set_option maxHeartbeats 1000000 in
theorem rpart_Y {w : World} {aO : Option Addr} {nO cO : Nat} {aY : Option Addr} {nY cY : Nat} {lo ly : Int} {wo wy : List Int} {gO gY : Option Nat} (hm : RMem w aO nO cO aY nY cY lo ly wo wy gO gY) (a : Int) (hi : inB 0 wo.length a = false) :
    Calls Try.prog 65 #[.agg #[.int .i64 0, .int .i64 lo, .slice aO nO cO, .int .i64 16777216, .int .i64 ly, .slice aY nY cY], .int .i64 a] w fun e w' => e = .returned (.agg #[.int .i64 16777216, .int .i64 ly, .slice aY nY cY]) ∧ Below w.heap.size w w' := by
  have hC := fun W (H : Below w.heap.size w W) => rcontains_any (hm.below H).mdO hm.okO a
  rw [hi] at hC
  clear hm hi
  have hw0 : Below w.heap.size w w := Below.refl _ _
  go_enter Try.func65, Try.ntmps65
  go_wp2_with fail
  refine (hC _ (by (repeat (first | exact Below.refl _ _ | assumption | refine Below.drew ?_ | refine below_drewN ?_ _ | refine balloc ?_ _ | refine Below.setCell ?_ (by first | (simp; done) | (simp; omega) | omega) _ | refine bchain (by assumption) ?_)))).mono ?_
  rintro e w1 ⟨rfl, hb1⟩
  have hB1 : Below w.heap.size w w1 := by (repeat (first | exact Below.refl _ _ | assumption | refine Below.drew ?_ | refine below_drewN ?_ _ | refine balloc ?_ _ | refine Below.setCell ?_ (by first | (simp; done) | (simp; omega) | omega) _ | refine bchain (by assumption) ?_))
  have k0 : w1.heap[w.heap.size]? = some (.cells #[.int .i64 0, .int .i64 lo, .slice aO nO cO, .int .i64 16777216, .int .i64 ly, .slice aY nY cY] 35 (0, 0)) := bblock hb1 (by repeat (first | exact alloc_at _ (by simp) | refine alloc_lt _ ?_))
  have r : w1.heap[w.heap.size + 1]? = some (.cells #[.int .i64 0, .int .i64 0, .slice none 0 0] 33 (0, 0)) := bblock hb1 (by repeat (first | exact alloc_at _ (by simp) | refine alloc_lt _ ?_))
  have hw1 := bchain hB1 hw0
  have hz_k0 : w.heap.size < w1.heap.size := (Array.getElem?_eq_some_iff.1 k0).1
  have hz_r : w.heap.size + 1 < w1.heap.size := (Array.getElem?_eq_some_iff.1 r).1
  clear hB1
  have k0_0 : w1.cell? ⟨w.heap.size, 0, none⟩ = some (.int .i64 0) := by rw [cell_of_block k0]; rfl
  have k0_1 : w1.cell? ⟨w.heap.size, 1, none⟩ = some (.int .i64 lo) := by rw [cell_of_block k0]; rfl
  have k0_2 : w1.cell? ⟨w.heap.size, 2, none⟩ = some (.slice aO nO cO) := by rw [cell_of_block k0]; rfl
  have k0_3 : w1.cell? ⟨w.heap.size, 3, none⟩ = some (.int .i64 16777216) := by rw [cell_of_block k0]; rfl
  have k0_4 : w1.cell? ⟨w.heap.size, 4, none⟩ = some (.int .i64 ly) := by rw [cell_of_block k0]; rfl
  have k0_5 : w1.cell? ⟨w.heap.size, 5, none⟩ = some (.slice aY nY cY) := by rw [cell_of_block k0]; rfl
  have r_0 : w1.cell? ⟨w.heap.size + 1, 0, none⟩ = some (.int .i64 0) := by rw [cell_of_block r]; rfl
  have r_1 : w1.cell? ⟨w.heap.size + 1, 1, none⟩ = some (.int .i64 0) := by rw [cell_of_block r]; rfl
  have r_2 : w1.cell? ⟨w.heap.size + 1, 2, none⟩ = some (.slice none 0 0) := by rw [cell_of_block r]; rfl
  have r_f : ∀ i, w1.frozen? ⟨w.heap.size + 1, i, none⟩ = false := frozen_of_block r
  go_wp2
  exact bodyPost_ret (v := .agg #[.int .i64 16777216, .int .i64 ly, .slice aY nY cY]) (by simp [results, Try.results65, go_sem, k0_0, k0_1, k0_2, k0_3, k0_4, k0_5, r_0, r_1, r_2, r_f, hz_k0, hz_r]) rfl ⟨rfl, by (repeat (first | exact Below.refl _ _ | assumption | refine Below.drew ?_ | refine below_drewN ?_ _ | refine balloc ?_ _ | refine Below.setCell ?_ (by first | (simp; done) | (simp; omega) | omega) _ | refine bchain (by assumption) ?_))⟩
end Go.Proofs.Ytcmhgjkijegpnaa
namespace Go.Proofs.Ytcmhgjkijegpnaa
open Go.RowKit
set_option linter.unusedSimpArgs false
set_option linter.unusedVariables false

set_option maxRecDepth 100000 in
set_option maxHeartbeats 2000000 in
theorem rhdr_out {w : World} {aO : Option Addr} {nO cO : Nat} {aY : Option Addr} {nY cY : Nat} {lo ly : Int} {A : Option Addr} {n cap : Nat} {bs lm : Int} {ws : List Int} {g : Option Nat} {a : Int} (hP : ∀ W, Below w.heap.size w W → Calls Try.prog 65 #[.agg #[.int .i64 0, .int .i64 lo, .slice aO nO cO, .int .i64 16777216, .int .i64 ly, .slice aY nY cY], .int .i64 a] W fun e w' => e = .returned (.agg #[.int .i64 bs, .int .i64 lm, .slice A n cap]) ∧ Below W.heap.size W w') (hs : ∀ W, Below w.heap.size w W → MdAt W (.agg #[.int .i64 bs, .int .i64 lm, .slice A n cap]) bs lm ws g) (hk : SpOk bs lm ws) (hn : ws.length = n) (h : inB bs ws.length a = false) :
    Calls Try.prog 31 #[.agg #[.int .i64 0, .int .i64 lo, .slice aO nO cO, .int .i64 16777216, .int .i64 ly, .slice aY nY cY], .int .i64 a] w fun e w' => e = .returned (.tuple #[.agg #[.int .i64 0, .int .i64 0, .int .i64 0], .int .i64 2]) ∧ Below w.heap.size w w' := by
  have b0 := hk.b0
  have b1 := hk.top
  have b2 := hk.lm1
  have hL := fun W (h : Below w.heap.size w W) (c : Int) => rload_any (hs W h) hk hn c
  have hC := fun W (h : Below w.heap.size w W) (c : Int) => rcontains_any (hs W h) hk c
  have e1 : ioE bs ws a = 2 := by unfold ioE; rw [h]; rfl
  have hL1 := fun W h => hL W h a
  rw [e1] at hL1
  generalize ldW bs ws a = x at *
  clear h e1 hL hC
  rw [hn] at b1
  clear hs hk hn
  have hw0 : Below w.heap.size w w := Below.refl _ _
  go_enter Try.func31, Try.ntmps31
  go_wp2_with fail
  refine (hP _ (by (repeat (first | exact Below.refl _ _ | assumption | refine Below.drew ?_ | refine below_drewN ?_ _ | refine balloc ?_ _ | refine Below.setCell ?_ (by first | (simp; done) | (simp; omega) | omega) _ | refine bchain (by assumption) ?_)))).mono ?_
  rintro e w1 ⟨rfl, hb1⟩
  have hB1 : Below w.heap.size w w1 := by (repeat (first | exact Below.refl _ _ | assumption | refine Below.drew ?_ | refine below_drewN ?_ _ | refine balloc ?_ _ | refine Below.setCell ?_ (by first | (simp; done) | (simp; omega) | omega) _ | refine bchain (by assumption) ?_))
  have k0 : w1.heap[w.heap.size]? = some (.cells #[.int .i64 0, .int .i64 lo, .slice aO nO cO, .int .i64 16777216, .int .i64 ly, .slice aY nY cY] 35 (0, 0)) := bblock hb1 (by repeat (first | exact alloc_at _ (by simp) | refine alloc_lt _ ?_))
  have r : w1.heap[w.heap.size + 1]? = some (.cells #[.int .i64 0, .int .i64 0, .int .i64 0] 23 (0, 0)) := bblock hb1 (by repeat (first | exact alloc_at _ (by simp) | refine alloc_lt _ ?_))
  have hw1 := bchain hB1 hw0
  have hz_k0 : w.heap.size < w1.heap.size := (Array.getElem?_eq_some_iff.1 k0).1
  have hz_r : w.heap.size + 1 < w1.heap.size := (Array.getElem?_eq_some_iff.1 r).1
  clear hB1
  have k0_0 : w1.cell? ⟨w.heap.size, 0, none⟩ = some (.int .i64 0) := by rw [cell_of_block k0]; rfl
  have k0_1 : w1.cell? ⟨w.heap.size, 1, none⟩ = some (.int .i64 lo) := by rw [cell_of_block k0]; rfl
  have k0_2 : w1.cell? ⟨w.heap.size, 2, none⟩ = some (.slice aO nO cO) := by rw [cell_of_block k0]; rfl
  have k0_3 : w1.cell? ⟨w.heap.size, 3, none⟩ = some (.int .i64 16777216) := by rw [cell_of_block k0]; rfl
  have k0_4 : w1.cell? ⟨w.heap.size, 4, none⟩ = some (.int .i64 ly) := by rw [cell_of_block k0]; rfl
  have k0_5 : w1.cell? ⟨w.heap.size, 5, none⟩ = some (.slice aY nY cY) := by rw [cell_of_block k0]; rfl
  have r_0 : w1.cell? ⟨w.heap.size + 1, 0, none⟩ = some (.int .i64 0) := by rw [cell_of_block r]; rfl
  have r_1 : w1.cell? ⟨w.heap.size + 1, 1, none⟩ = some (.int .i64 0) := by rw [cell_of_block r]; rfl
  have r_2 : w1.cell? ⟨w.heap.size + 1, 2, none⟩ = some (.int .i64 0) := by rw [cell_of_block r]; rfl
  have r_f : ∀ i, w1.frozen? ⟨w.heap.size + 1, i, none⟩ = false := frozen_of_block r
  go_wp2_with fail
  refine (hL1 _ (by (repeat (first | exact Below.refl _ _ | assumption | refine Below.drew ?_ | refine below_drewN ?_ _ | refine balloc ?_ _ | refine Below.setCell ?_ (by first | (simp; done) | (simp; omega) | omega) _ | refine bchain (by assumption) ?_)))).mono ?_
  rintro e w2 ⟨rfl, hb2⟩
  have hB2 : Below w1.heap.size w1 w2 := by (repeat (first | exact Below.refl _ _ | assumption | refine Below.drew ?_ | refine below_drewN ?_ _ | refine balloc ?_ _ | refine Below.setCell ?_ (by first | (simp; done) | (simp; omega) | omega) _ | refine bchain (by assumption) ?_))
  have k0 := bblock hB2 k0
  have r := bblock hB2 r
  have s : w2.heap[w1.heap.size]? = some (.cells #[.int .i64 bs, .int .i64 lm, .slice A n cap] 33 (0, 0)) := bblock hb2 (by repeat (first | exact alloc_at _ (by simp) | refine alloc_lt _ ?_))
  have hw2 := bchain hB2 hw1
  clear hz_k0 hz_r
  have hz_k0 : w.heap.size < w2.heap.size := (Array.getElem?_eq_some_iff.1 k0).1
  have hz_r : w.heap.size + 1 < w2.heap.size := (Array.getElem?_eq_some_iff.1 r).1
  have hz_s : w1.heap.size < w2.heap.size := (Array.getElem?_eq_some_iff.1 s).1
  clear hB2
  clear k0_0 k0_1 k0_2 k0_3 k0_4 k0_5 r_0 r_1 r_2 r_f
  have k0_0 : w2.cell? ⟨w.heap.size, 0, none⟩ = some (.int .i64 0) := by rw [cell_of_block k0]; rfl
  have k0_1 : w2.cell? ⟨w.heap.size, 1, none⟩ = some (.int .i64 lo) := by rw [cell_of_block k0]; rfl
  have k0_2 : w2.cell? ⟨w.heap.size, 2, none⟩ = some (.slice aO nO cO) := by rw [cell_of_block k0]; rfl
  have k0_3 : w2.cell? ⟨w.heap.size, 3, none⟩ = some (.int .i64 16777216) := by rw [cell_of_block k0]; rfl
  have k0_4 : w2.cell? ⟨w.heap.size, 4, none⟩ = some (.int .i64 ly) := by rw [cell_of_block k0]; rfl
  have k0_5 : w2.cell? ⟨w.heap.size, 5, none⟩ = some (.slice aY nY cY) := by rw [cell_of_block k0]; rfl
  have r_0 : w2.cell? ⟨w.heap.size + 1, 0, none⟩ = some (.int .i64 0) := by rw [cell_of_block r]; rfl
  have r_1 : w2.cell? ⟨w.heap.size + 1, 1, none⟩ = some (.int .i64 0) := by rw [cell_of_block r]; rfl
  have r_2 : w2.cell? ⟨w.heap.size + 1, 2, none⟩ = some (.int .i64 0) := by rw [cell_of_block r]; rfl
  have r_f : ∀ i, w2.frozen? ⟨w.heap.size + 1, i, none⟩ = false := frozen_of_block r
  have s_0 : w2.cell? ⟨w1.heap.size, 0, none⟩ = some (.int .i64 bs) := by rw [cell_of_block s]; rfl
  have s_1 : w2.cell? ⟨w1.heap.size, 1, none⟩ = some (.int .i64 lm) := by rw [cell_of_block s]; rfl
  have s_2 : w2.cell? ⟨w1.heap.size, 2, none⟩ = some (.slice A n cap) := by rw [cell_of_block s]; rfl
  go_wp2
  exact bodyPost_ret (v := .tuple #[.agg #[.int .i64 0, .int .i64 0, .int .i64 0], .int .i64 2]) (by simp [results, Try.results31, go_sem, k0_0, k0_1, k0_2, k0_3, k0_4, k0_5, r_0, r_1, r_2, r_f, s_0, s_1, s_2, hz_k0, hz_r, hz_s]) rfl ⟨rfl, by (repeat (first | exact Below.refl _ _ | assumption | refine Below.drew ?_ | refine below_drewN ?_ _ | refine balloc ?_ _ | refine Below.setCell ?_ (by first | (simp; done) | (simp; omega) | omega) _ | refine bchain (by assumption) ?_))⟩
set_option maxRecDepth 100000 in
set_option maxHeartbeats 2000000 in
theorem rhdr_B {w : World} {aO : Option Addr} {nO cO : Nat} {aY : Option Addr} {nY cY : Nat} {lo ly : Int} {A : Option Addr} {n cap : Nat} {bs lm : Int} {ws : List Int} {g : Option Nat} {a : Int} (hP : ∀ W, Below w.heap.size w W → Calls Try.prog 65 #[.agg #[.int .i64 0, .int .i64 lo, .slice aO nO cO, .int .i64 16777216, .int .i64 ly, .slice aY nY cY], .int .i64 a] W fun e w' => e = .returned (.agg #[.int .i64 bs, .int .i64 lm, .slice A n cap]) ∧ Below W.heap.size W w') (hs : ∀ W, Below w.heap.size w W → MdAt W (.agg #[.int .i64 bs, .int .i64 lm, .slice A n cap]) bs lm ws g) (hk : SpOk bs lm ws) (hn : ws.length = n) (h : inB bs ws.length a = true) (hd : decB (ldW bs ws a) = false) :
    Calls Try.prog 31 #[.agg #[.int .i64 0, .int .i64 lo, .slice aO nO cO, .int .i64 16777216, .int .i64 ly, .slice aY nY cY], .int .i64 a] w fun e w' => e = .returned (.tuple #[.agg #[.int .i64 0, .int .i64 0, .int .i64 0], .int .i64 11]) ∧ Below w.heap.size w w' := by
  have b0 := hk.b0
  have b1 := hk.top
  have b2 := hk.lm1
  have hL := fun W (h : Below w.heap.size w W) (c : Int) => rload_any (hs W h) hk hn c
  have hC := fun W (h : Below w.heap.size w W) (c : Int) => rcontains_any (hs W h) hk c
  have a01 := inB_iff.1 h
  rw [hn] at a01
  obtain ⟨a0, a1⟩ := a01
  have e1 : ioE bs ws a = 0 := by unfold ioE; rw [h]; rfl
  have hL1 := fun W h => hL W h a
  rw [e1] at hL1
  have hL2 := fun W h => hL W h (a + 1)
  have hx := ldU hk a
  have hy := ldU hk (a + 1)
  generalize ldW bs ws a = x at *
  generalize ldW bs ws (a + 1) = y at *
  generalize ioE bs ws (a + 1) = e2 at *
  have hD := fun W => rdecode_no x hx hd W
  clear h e1 hL hC hx hy hd
  rw [hn] at b1
  clear hs hk hn
  have hw0 : Below w.heap.size w w := Below.refl _ _
  go_enter Try.func31, Try.ntmps31
  go_wp2_with fail
  refine (hP _ (by (repeat (first | exact Below.refl _ _ | assumption | refine Below.drew ?_ | refine below_drewN ?_ _ | refine balloc ?_ _ | refine Below.setCell ?_ (by first | (simp; done) | (simp; omega) | omega) _ | refine bchain (by assumption) ?_)))).mono ?_
  rintro e w1 ⟨rfl, hb1⟩
  have hB1 : Below w.heap.size w w1 := by (repeat (first | exact Below.refl _ _ | assumption | refine Below.drew ?_ | refine below_drewN ?_ _ | refine balloc ?_ _ | refine Below.setCell ?_ (by first | (simp; done) | (simp; omega) | omega) _ | refine bchain (by assumption) ?_))
  have k0 : w1.heap[w.heap.size]? = some (.cells #[.int .i64 0, .int .i64 lo, .slice aO nO cO, .int .i64 16777216, .int .i64 ly, .slice aY nY cY] 35 (0, 0)) := bblock hb1 (by repeat (first | exact alloc_at _ (by simp) | refine alloc_lt _ ?_))
  have r : w1.heap[w.heap.size + 1]? = some (.cells #[.int .i64 0, .int .i64 0, .int .i64 0] 23 (0, 0)) := bblock hb1 (by repeat (first | exact alloc_at _ (by simp) | refine alloc_lt _ ?_))
  have hw1 := bchain hB1 hw0
  have hz_k0 : w.heap.size < w1.heap.size := (Array.getElem?_eq_some_iff.1 k0).1
  have hz_r : w.heap.size + 1 < w1.heap.size := (Array.getElem?_eq_some_iff.1 r).1
  clear hB1
  have k0_0 : w1.cell? ⟨w.heap.size, 0, none⟩ = some (.int .i64 0) := by rw [cell_of_block k0]; rfl
  have k0_1 : w1.cell? ⟨w.heap.size, 1, none⟩ = some (.int .i64 lo) := by rw [cell_of_block k0]; rfl
  have k0_2 : w1.cell? ⟨w.heap.size, 2, none⟩ = some (.slice aO nO cO) := by rw [cell_of_block k0]; rfl
  have k0_3 : w1.cell? ⟨w.heap.size, 3, none⟩ = some (.int .i64 16777216) := by rw [cell_of_block k0]; rfl
  have k0_4 : w1.cell? ⟨w.heap.size, 4, none⟩ = some (.int .i64 ly) := by rw [cell_of_block k0]; rfl
  have k0_5 : w1.cell? ⟨w.heap.size, 5, none⟩ = some (.slice aY nY cY) := by rw [cell_of_block k0]; rfl
  have r_0 : w1.cell? ⟨w.heap.size + 1, 0, none⟩ = some (.int .i64 0) := by rw [cell_of_block r]; rfl
  have r_1 : w1.cell? ⟨w.heap.size + 1, 1, none⟩ = some (.int .i64 0) := by rw [cell_of_block r]; rfl
  have r_2 : w1.cell? ⟨w.heap.size + 1, 2, none⟩ = some (.int .i64 0) := by rw [cell_of_block r]; rfl
  have r_f : ∀ i, w1.frozen? ⟨w.heap.size + 1, i, none⟩ = false := frozen_of_block r
  go_wp2_with fail
  refine (hL1 _ (by (repeat (first | exact Below.refl _ _ | assumption | refine Below.drew ?_ | refine below_drewN ?_ _ | refine balloc ?_ _ | refine Below.setCell ?_ (by first | (simp; done) | (simp; omega) | omega) _ | refine bchain (by assumption) ?_)))).mono ?_
  rintro e w2 ⟨rfl, hb2⟩
  have hB2 : Below w1.heap.size w1 w2 := by (repeat (first | exact Below.refl _ _ | assumption | refine Below.drew ?_ | refine below_drewN ?_ _ | refine balloc ?_ _ | refine Below.setCell ?_ (by first | (simp; done) | (simp; omega) | omega) _ | refine bchain (by assumption) ?_))
  have k0 := bblock hB2 k0
  have r := bblock hB2 r
  have s : w2.heap[w1.heap.size]? = some (.cells #[.int .i64 bs, .int .i64 lm, .slice A n cap] 33 (0, 0)) := bblock hb2 (by repeat (first | exact alloc_at _ (by simp) | refine alloc_lt _ ?_))
  have hw2 := bchain hB2 hw1
  clear hz_k0 hz_r
  have hz_k0 : w.heap.size < w2.heap.size := (Array.getElem?_eq_some_iff.1 k0).1
  have hz_r : w.heap.size + 1 < w2.heap.size := (Array.getElem?_eq_some_iff.1 r).1
  have hz_s : w1.heap.size < w2.heap.size := (Array.getElem?_eq_some_iff.1 s).1
  clear hB2
  clear k0_0 k0_1 k0_2 k0_3 k0_4 k0_5 r_0 r_1 r_2 r_f
  have k0_0 : w2.cell? ⟨w.heap.size, 0, none⟩ = some (.int .i64 0) := by rw [cell_of_block k0]; rfl
  have k0_1 : w2.cell? ⟨w.heap.size, 1, none⟩ = some (.int .i64 lo) := by rw [cell_of_block k0]; rfl
  have k0_2 : w2.cell? ⟨w.heap.size, 2, none⟩ = some (.slice aO nO cO) := by rw [cell_of_block k0]; rfl
  have k0_3 : w2.cell? ⟨w.heap.size, 3, none⟩ = some (.int .i64 16777216) := by rw [cell_of_block k0]; rfl
  have k0_4 : w2.cell? ⟨w.heap.size, 4, none⟩ = some (.int .i64 ly) := by rw [cell_of_block k0]; rfl
  have k0_5 : w2.cell? ⟨w.heap.size, 5, none⟩ = some (.slice aY nY cY) := by rw [cell_of_block k0]; rfl
  have r_0 : w2.cell? ⟨w.heap.size + 1, 0, none⟩ = some (.int .i64 0) := by rw [cell_of_block r]; rfl
  have r_1 : w2.cell? ⟨w.heap.size + 1, 1, none⟩ = some (.int .i64 0) := by rw [cell_of_block r]; rfl
  have r_2 : w2.cell? ⟨w.heap.size + 1, 2, none⟩ = some (.int .i64 0) := by rw [cell_of_block r]; rfl
  have r_f : ∀ i, w2.frozen? ⟨w.heap.size + 1, i, none⟩ = false := frozen_of_block r
  have s_0 : w2.cell? ⟨w1.heap.size, 0, none⟩ = some (.int .i64 bs) := by rw [cell_of_block s]; rfl
  have s_1 : w2.cell? ⟨w1.heap.size, 1, none⟩ = some (.int .i64 lm) := by rw [cell_of_block s]; rfl
  have s_2 : w2.cell? ⟨w1.heap.size, 2, none⟩ = some (.slice A n cap) := by rw [cell_of_block s]; rfl
  go_wp2_with fail
  refine (hD _).mono ?_
  rintro e w3 ⟨rfl, hb3⟩
  have hB3 : Below w2.heap.size w2 w3 := by (repeat (first | exact Below.refl _ _ | assumption | refine Below.drew ?_ | refine below_drewN ?_ _ | refine balloc ?_ _ | refine Below.setCell ?_ (by first | (simp; done) | (simp; omega) | omega) _ | refine bchain (by assumption) ?_))
  have k0 := bblock hB3 k0
  have r := bblock hB3 r
  have s := bblock hB3 s
  have hw3 := bchain hB3 hw2
  clear hz_k0 hz_r hz_s
  have hz_k0 : w.heap.size < w3.heap.size := (Array.getElem?_eq_some_iff.1 k0).1
  have hz_r : w.heap.size + 1 < w3.heap.size := (Array.getElem?_eq_some_iff.1 r).1
  have hz_s : w1.heap.size < w3.heap.size := (Array.getElem?_eq_some_iff.1 s).1
  clear hB3
  clear k0_0 k0_1 k0_2 k0_3 k0_4 k0_5 r_0 r_1 r_2 r_f s_0 s_1 s_2
  have k0_0 : w3.cell? ⟨w.heap.size, 0, none⟩ = some (.int .i64 0) := by rw [cell_of_block k0]; rfl
  have k0_1 : w3.cell? ⟨w.heap.size, 1, none⟩ = some (.int .i64 lo) := by rw [cell_of_block k0]; rfl
  have k0_2 : w3.cell? ⟨w.heap.size, 2, none⟩ = some (.slice aO nO cO) := by rw [cell_of_block k0]; rfl
  have k0_3 : w3.cell? ⟨w.heap.size, 3, none⟩ = some (.int .i64 16777216) := by rw [cell_of_block k0]; rfl
  have k0_4 : w3.cell? ⟨w.heap.size, 4, none⟩ = some (.int .i64 ly) := by rw [cell_of_block k0]; rfl
  have k0_5 : w3.cell? ⟨w.heap.size, 5, none⟩ = some (.slice aY nY cY) := by rw [cell_of_block k0]; rfl
  have r_0 : w3.cell? ⟨w.heap.size + 1, 0, none⟩ = some (.int .i64 0) := by rw [cell_of_block r]; rfl
  have r_1 : w3.cell? ⟨w.heap.size + 1, 1, none⟩ = some (.int .i64 0) := by rw [cell_of_block r]; rfl
  have r_2 : w3.cell? ⟨w.heap.size + 1, 2, none⟩ = some (.int .i64 0) := by rw [cell_of_block r]; rfl
  have r_f : ∀ i, w3.frozen? ⟨w.heap.size + 1, i, none⟩ = false := frozen_of_block r
  have s_0 : w3.cell? ⟨w1.heap.size, 0, none⟩ = some (.int .i64 bs) := by rw [cell_of_block s]; rfl
  have s_1 : w3.cell? ⟨w1.heap.size, 1, none⟩ = some (.int .i64 lm) := by rw [cell_of_block s]; rfl
  have s_2 : w3.cell? ⟨w1.heap.size, 2, none⟩ = some (.slice A n cap) := by rw [cell_of_block s]; rfl
  go_wp2_with fail
  refine (hL2 _ (by (repeat (first | exact Below.refl _ _ | assumption | refine Below.drew ?_ | refine below_drewN ?_ _ | refine balloc ?_ _ | refine Below.setCell ?_ (by first | (simp; done) | (simp; omega) | omega) _ | refine bchain (by assumption) ?_)))).mono ?_
  rintro e w4 ⟨rfl, hb4⟩
  have hB4 : Below w3.heap.size w3 w4 := by (repeat (first | exact Below.refl _ _ | assumption | refine Below.drew ?_ | refine below_drewN ?_ _ | refine balloc ?_ _ | refine Below.setCell ?_ (by first | (simp; done) | (simp; omega) | omega) _ | refine bchain (by assumption) ?_))
  have k0 := bblock hB4 k0
  have r := bblock hB4 r
  have s := bblock hB4 s
  have t : w4.heap[w3.heap.size]? = some (.cells #[.int .i64 0, .int .i64 0, .int .i64 0] 23 (0, 0)) := bblock hb4 (by repeat (first | exact alloc_at _ (by simp) | refine alloc_lt _ ?_))
  have hw4 := bchain hB4 hw3
  clear hz_k0 hz_r hz_s
  have hz_k0 : w.heap.size < w4.heap.size := (Array.getElem?_eq_some_iff.1 k0).1
  have hz_r : w.heap.size + 1 < w4.heap.size := (Array.getElem?_eq_some_iff.1 r).1
  have hz_s : w1.heap.size < w4.heap.size := (Array.getElem?_eq_some_iff.1 s).1
  have hz_t : w3.heap.size < w4.heap.size := (Array.getElem?_eq_some_iff.1 t).1
  clear hB4
  clear k0_0 k0_1 k0_2 k0_3 k0_4 k0_5 r_0 r_1 r_2 r_f s_0 s_1 s_2
  have k0_0 : w4.cell? ⟨w.heap.size, 0, none⟩ = some (.int .i64 0) := by rw [cell_of_block k0]; rfl
  have k0_1 : w4.cell? ⟨w.heap.size, 1, none⟩ = some (.int .i64 lo) := by rw [cell_of_block k0]; rfl
  have k0_2 : w4.cell? ⟨w.heap.size, 2, none⟩ = some (.slice aO nO cO) := by rw [cell_of_block k0]; rfl
  have k0_3 : w4.cell? ⟨w.heap.size, 3, none⟩ = some (.int .i64 16777216) := by rw [cell_of_block k0]; rfl
  have k0_4 : w4.cell? ⟨w.heap.size, 4, none⟩ = some (.int .i64 ly) := by rw [cell_of_block k0]; rfl
  have k0_5 : w4.cell? ⟨w.heap.size, 5, none⟩ = some (.slice aY nY cY) := by rw [cell_of_block k0]; rfl
  have r_0 : w4.cell? ⟨w.heap.size + 1, 0, none⟩ = some (.int .i64 0) := by rw [cell_of_block r]; rfl
  have r_1 : w4.cell? ⟨w.heap.size + 1, 1, none⟩ = some (.int .i64 0) := by rw [cell_of_block r]; rfl
  have r_2 : w4.cell? ⟨w.heap.size + 1, 2, none⟩ = some (.int .i64 0) := by rw [cell_of_block r]; rfl
  have r_f : ∀ i, w4.frozen? ⟨w.heap.size + 1, i, none⟩ = false := frozen_of_block r
  have s_0 : w4.cell? ⟨w1.heap.size, 0, none⟩ = some (.int .i64 bs) := by rw [cell_of_block s]; rfl
  have s_1 : w4.cell? ⟨w1.heap.size, 1, none⟩ = some (.int .i64 lm) := by rw [cell_of_block s]; rfl
  have s_2 : w4.cell? ⟨w1.heap.size, 2, none⟩ = some (.slice A n cap) := by rw [cell_of_block s]; rfl
  have t_0 : w4.cell? ⟨w3.heap.size, 0, none⟩ = some (.int .i64 0) := by rw [cell_of_block t]; rfl
  have t_1 : w4.cell? ⟨w3.heap.size, 1, none⟩ = some (.int .i64 0) := by rw [cell_of_block t]; rfl
  have t_2 : w4.cell? ⟨w3.heap.size, 2, none⟩ = some (.int .i64 0) := by rw [cell_of_block t]; rfl
  go_wp2_with fail
  have o_k0_0 : ∀ x, (over w4 x).cell? ⟨w.heap.size, 0, none⟩ = some (.int .i64 0) := over_cell (by assumption)
  have o_k0_1 : ∀ x, (over w4 x).cell? ⟨w.heap.size, 1, none⟩ = some (.int .i64 lo) := over_cell (by assumption)
  have o_k0_2 : ∀ x, (over w4 x).cell? ⟨w.heap.size, 2, none⟩ = some (.slice aO nO cO) := over_cell (by assumption)
  have o_k0_3 : ∀ x, (over w4 x).cell? ⟨w.heap.size, 3, none⟩ = some (.int .i64 16777216) := over_cell (by assumption)
  have o_k0_4 : ∀ x, (over w4 x).cell? ⟨w.heap.size, 4, none⟩ = some (.int .i64 ly) := over_cell (by assumption)
  have o_k0_5 : ∀ x, (over w4 x).cell? ⟨w.heap.size, 5, none⟩ = some (.slice aY nY cY) := over_cell (by assumption)
  have o_r_0 : ∀ x, (over w4 x).cell? ⟨w.heap.size + 1, 0, none⟩ = some (.int .i64 0) := over_cell (by assumption)
  have o_r_1 : ∀ x, (over w4 x).cell? ⟨w.heap.size + 1, 1, none⟩ = some (.int .i64 0) := over_cell (by assumption)
  have o_r_2 : ∀ x, (over w4 x).cell? ⟨w.heap.size + 1, 2, none⟩ = some (.int .i64 0) := over_cell (by assumption)
  have o_s_0 : ∀ x, (over w4 x).cell? ⟨w1.heap.size, 0, none⟩ = some (.int .i64 bs) := over_cell (by assumption)
  have o_s_1 : ∀ x, (over w4 x).cell? ⟨w1.heap.size, 1, none⟩ = some (.int .i64 lm) := over_cell (by assumption)
  have o_s_2 : ∀ x, (over w4 x).cell? ⟨w1.heap.size, 2, none⟩ = some (.slice A n cap) := over_cell (by assumption)
  have o_t_0 : ∀ x, (over w4 x).cell? ⟨w3.heap.size, 0, none⟩ = some (.int .i64 0) := over_cell (by assumption)
  have o_t_1 : ∀ x, (over w4 x).cell? ⟨w3.heap.size, 1, none⟩ = some (.int .i64 0) := over_cell (by assumption)
  have o_t_2 : ∀ x, (over w4 x).cell? ⟨w3.heap.size, 2, none⟩ = some (.int .i64 0) := over_cell (by assumption)
  (refine wp_region_over (by kernel_rfl) (by kernel_rfl) ?_); (repeat (go_big_quiet_step ((first | fail)))); (refine wpQuiet_nil ?_)
  intro w5 hb5
  clear o_k0_0 o_k0_1 o_k0_2 o_k0_3 o_k0_4 o_k0_5 o_r_0 o_r_1 o_r_2 o_s_0 o_s_1 o_s_2 o_t_0 o_t_1 o_t_2
  have hB5 : Below w4.heap.size w4 w5 := by (repeat (first | exact Below.refl _ _ | assumption | refine Below.drew ?_ | refine below_drewN ?_ _ | refine balloc ?_ _ | refine Below.setCell ?_ (by first | (simp; done) | (simp; omega) | omega) _ | refine bchain (by assumption) ?_))
  have k0 := bblock hB5 k0
  have r := bblock hB5 r
  have s := bblock hB5 s
  have t := bblock hB5 t
  have hw5 := bchain hB5 hw4
  clear hz_k0 hz_r hz_s hz_t
  have hz_k0 : w.heap.size < w5.heap.size := (Array.getElem?_eq_some_iff.1 k0).1
  have hz_r : w.heap.size + 1 < w5.heap.size := (Array.getElem?_eq_some_iff.1 r).1
  have hz_s : w1.heap.size < w5.heap.size := (Array.getElem?_eq_some_iff.1 s).1
  have hz_t : w3.heap.size < w5.heap.size := (Array.getElem?_eq_some_iff.1 t).1
  clear hB5
  clear k0_0 k0_1 k0_2 k0_3 k0_4 k0_5 r_0 r_1 r_2 r_f s_0 s_1 s_2 t_0 t_1 t_2
  have k0_0 : w5.cell? ⟨w.heap.size, 0, none⟩ = some (.int .i64 0) := by rw [cell_of_block k0]; rfl
  have k0_1 : w5.cell? ⟨w.heap.size, 1, none⟩ = some (.int .i64 lo) := by rw [cell_of_block k0]; rfl
  have k0_2 : w5.cell? ⟨w.heap.size, 2, none⟩ = some (.slice aO nO cO) := by rw [cell_of_block k0]; rfl
  have k0_3 : w5.cell? ⟨w.heap.size, 3, none⟩ = some (.int .i64 16777216) := by rw [cell_of_block k0]; rfl
  have k0_4 : w5.cell? ⟨w.heap.size, 4, none⟩ = some (.int .i64 ly) := by rw [cell_of_block k0]; rfl
  have k0_5 : w5.cell? ⟨w.heap.size, 5, none⟩ = some (.slice aY nY cY) := by rw [cell_of_block k0]; rfl
  have r_0 : w5.cell? ⟨w.heap.size + 1, 0, none⟩ = some (.int .i64 0) := by rw [cell_of_block r]; rfl
  have r_1 : w5.cell? ⟨w.heap.size + 1, 1, none⟩ = some (.int .i64 0) := by rw [cell_of_block r]; rfl
  have r_2 : w5.cell? ⟨w.heap.size + 1, 2, none⟩ = some (.int .i64 0) := by rw [cell_of_block r]; rfl
  have r_f : ∀ i, w5.frozen? ⟨w.heap.size + 1, i, none⟩ = false := frozen_of_block r
  have s_0 : w5.cell? ⟨w1.heap.size, 0, none⟩ = some (.int .i64 bs) := by rw [cell_of_block s]; rfl
  have s_1 : w5.cell? ⟨w1.heap.size, 1, none⟩ = some (.int .i64 lm) := by rw [cell_of_block s]; rfl
  have s_2 : w5.cell? ⟨w1.heap.size, 2, none⟩ = some (.slice A n cap) := by rw [cell_of_block s]; rfl
  have t_0 : w5.cell? ⟨w3.heap.size, 0, none⟩ = some (.int .i64 0) := by rw [cell_of_block t]; rfl
  have t_1 : w5.cell? ⟨w3.heap.size, 1, none⟩ = some (.int .i64 0) := by rw [cell_of_block t]; rfl
  have t_2 : w5.cell? ⟨w3.heap.size, 2, none⟩ = some (.int .i64 0) := by rw [cell_of_block t]; rfl
  go_wp2
  exact bodyPost_ret (v := .tuple #[.agg #[.int .i64 0, .int .i64 0, .int .i64 0], .int .i64 11]) (by simp [results, Try.results31, go_sem, k0_0, k0_1, k0_2, k0_3, k0_4, k0_5, r_0, r_1, r_2, r_f, s_0, s_1, s_2, t_0, t_1, t_2, hz_k0, hz_r, hz_s, hz_t]) rfl ⟨rfl, by (repeat (first | exact Below.refl _ _ | assumption | refine Below.drew ?_ | refine below_drewN ?_ _ | refine balloc ?_ _ | refine Below.setCell ?_ (by first | (simp; done) | (simp; omega) | omega) _ | refine bchain (by assumption) ?_))⟩
set_option maxRecDepth 100000 in
set_option maxHeartbeats 2000000 in
theorem rhdr_A {w : World} {aO : Option Addr} {nO cO : Nat} {aY : Option Addr} {nY cY : Nat} {lo ly : Int} {A : Option Addr} {n cap : Nat} {bs lm : Int} {ws : List Int} {g : Option Nat} {a : Int} (hP : ∀ W, Below w.heap.size w W → Calls Try.prog 65 #[.agg #[.int .i64 0, .int .i64 lo, .slice aO nO cO, .int .i64 16777216, .int .i64 ly, .slice aY nY cY], .int .i64 a] W fun e w' => e = .returned (.agg #[.int .i64 bs, .int .i64 lm, .slice A n cap]) ∧ Below W.heap.size W w') (hs : ∀ W, Below w.heap.size w W → MdAt W (.agg #[.int .i64 bs, .int .i64 lm, .slice A n cap]) bs lm ws g) (hk : SpOk bs lm ws) (hn : ws.length = n) (h : inB bs ws.length a = true) (hd : decB (ldW bs ws a) = true) (h2 : inB bs ws.length (a + 1) = false) :
    Calls Try.prog 31 #[.agg #[.int .i64 0, .int .i64 lo, .slice aO nO cO, .int .i64 16777216, .int .i64 ly, .slice aY nY cY], .int .i64 a] w fun e w' => e = .returned (.tuple #[.agg #[.int .i64 0, .int .i64 0, .int .i64 0], .int .i64 11]) ∧ Below w.heap.size w w' := by
  have b0 := hk.b0
  have b1 := hk.top
  have b2 := hk.lm1
  have hL := fun W (h : Below w.heap.size w W) (c : Int) => rload_any (hs W h) hk hn c
  have hC := fun W (h : Below w.heap.size w W) (c : Int) => rcontains_any (hs W h) hk c
  have a01 := inB_iff.1 h
  rw [hn] at a01
  obtain ⟨a0, a1⟩ := a01
  have e1 : ioE bs ws a = 0 := by unfold ioE; rw [h]; rfl
  have hL1 := fun W h => hL W h a
  rw [e1] at hL1
  have hL2 := fun W h => hL W h (a + 1)
  have hx := ldU hk a
  have hy := ldU hk (a + 1)
  have e2 : ioE bs ws (a + 1) = 2 := by unfold ioE; rw [h2]; rfl
  rw [e2] at hL2
  generalize ldW bs ws a = x at *
  generalize ldW bs ws (a + 1) = y at *
  have hD := fun W => rdecode_yes x hx hd W
  generalize decK x = kk at *
  generalize decC x = cc at *
  generalize decF x = ff at *
  clear h h2 e1 e2 hL hC hx hy hd
  rw [hn] at b1
  clear hs hk hn
  have hw0 : Below w.heap.size w w := Below.refl _ _
  go_enter Try.func31, Try.ntmps31
  go_wp2_with fail
  refine (hP _ (by (repeat (first | exact Below.refl _ _ | assumption | refine Below.drew ?_ | refine below_drewN ?_ _ | refine balloc ?_ _ | refine Below.setCell ?_ (by first | (simp; done) | (simp; omega) | omega) _ | refine bchain (by assumption) ?_)))).mono ?_
  rintro e w1 ⟨rfl, hb1⟩
  have hB1 : Below w.heap.size w w1 := by (repeat (first | exact Below.refl _ _ | assumption | refine Below.drew ?_ | refine below_drewN ?_ _ | refine balloc ?_ _ | refine Below.setCell ?_ (by first | (simp; done) | (simp; omega) | omega) _ | refine bchain (by assumption) ?_))
  have k0 : w1.heap[w.heap.size]? = some (.cells #[.int .i64 0, .int .i64 lo, .slice aO nO cO, .int .i64 16777216, .int .i64 ly, .slice aY nY cY] 35 (0, 0)) := bblock hb1 (by repeat (first | exact alloc_at _ (by simp) | refine alloc_lt _ ?_))
  have r : w1.heap[w.heap.size + 1]? = some (.cells #[.int .i64 0, .int .i64 0, .int .i64 0] 23 (0, 0)) := bblock hb1 (by repeat (first | exact alloc_at _ (by simp) | refine alloc_lt _ ?_))
  have hw1 := bchain hB1 hw0
  have hz_k0 : w.heap.size < w1.heap.size := (Array.getElem?_eq_some_iff.1 k0).1
  have hz_r : w.heap.size + 1 < w1.heap.size := (Array.getElem?_eq_some_iff.1 r).1
  clear hB1
  have k0_0 : w1.cell? ⟨w.heap.size, 0, none⟩ = some (.int .i64 0) := by rw [cell_of_block k0]; rfl
  have k0_1 : w1.cell? ⟨w.heap.size, 1, none⟩ = some (.int .i64 lo) := by rw [cell_of_block k0]; rfl
  have k0_2 : w1.cell? ⟨w.heap.size, 2, none⟩ = some (.slice aO nO cO) := by rw [cell_of_block k0]; rfl
  have k0_3 : w1.cell? ⟨w.heap.size, 3, none⟩ = some (.int .i64 16777216) := by rw [cell_of_block k0]; rfl
  have k0_4 : w1.cell? ⟨w.heap.size, 4, none⟩ = some (.int .i64 ly) := by rw [cell_of_block k0]; rfl
  have k0_5 : w1.cell? ⟨w.heap.size, 5, none⟩ = some (.slice aY nY cY) := by rw [cell_of_block k0]; rfl
  have r_0 : w1.cell? ⟨w.heap.size + 1, 0, none⟩ = some (.int .i64 0) := by rw [cell_of_block r]; rfl
  have r_1 : w1.cell? ⟨w.heap.size + 1, 1, none⟩ = some (.int .i64 0) := by rw [cell_of_block r]; rfl
  have r_2 : w1.cell? ⟨w.heap.size + 1, 2, none⟩ = some (.int .i64 0) := by rw [cell_of_block r]; rfl
  have r_f : ∀ i, w1.frozen? ⟨w.heap.size + 1, i, none⟩ = false := frozen_of_block r
  go_wp2_with fail
  refine (hL1 _ (by (repeat (first | exact Below.refl _ _ | assumption | refine Below.drew ?_ | refine below_drewN ?_ _ | refine balloc ?_ _ | refine Below.setCell ?_ (by first | (simp; done) | (simp; omega) | omega) _ | refine bchain (by assumption) ?_)))).mono ?_
  rintro e w2 ⟨rfl, hb2⟩
  have hB2 : Below w1.heap.size w1 w2 := by (repeat (first | exact Below.refl _ _ | assumption | refine Below.drew ?_ | refine below_drewN ?_ _ | refine balloc ?_ _ | refine Below.setCell ?_ (by first | (simp; done) | (simp; omega) | omega) _ | refine bchain (by assumption) ?_))
  have k0 := bblock hB2 k0
  have r := bblock hB2 r
  have s : w2.heap[w1.heap.size]? = some (.cells #[.int .i64 bs, .int .i64 lm, .slice A n cap] 33 (0, 0)) := bblock hb2 (by repeat (first | exact alloc_at _ (by simp) | refine alloc_lt _ ?_))
  have hw2 := bchain hB2 hw1
  clear hz_k0 hz_r
  have hz_k0 : w.heap.size < w2.heap.size := (Array.getElem?_eq_some_iff.1 k0).1
  have hz_r : w.heap.size + 1 < w2.heap.size := (Array.getElem?_eq_some_iff.1 r).1
  have hz_s : w1.heap.size < w2.heap.size := (Array.getElem?_eq_some_iff.1 s).1
  clear hB2
  clear k0_0 k0_1 k0_2 k0_3 k0_4 k0_5 r_0 r_1 r_2 r_f
  have k0_0 : w2.cell? ⟨w.heap.size, 0, none⟩ = some (.int .i64 0) := by rw [cell_of_block k0]; rfl
  have k0_1 : w2.cell? ⟨w.heap.size, 1, none⟩ = some (.int .i64 lo) := by rw [cell_of_block k0]; rfl
  have k0_2 : w2.cell? ⟨w.heap.size, 2, none⟩ = some (.slice aO nO cO) := by rw [cell_of_block k0]; rfl
  have k0_3 : w2.cell? ⟨w.heap.size, 3, none⟩ = some (.int .i64 16777216) := by rw [cell_of_block k0]; rfl
  have k0_4 : w2.cell? ⟨w.heap.size, 4, none⟩ = some (.int .i64 ly) := by rw [cell_of_block k0]; rfl
  have k0_5 : w2.cell? ⟨w.heap.size, 5, none⟩ = some (.slice aY nY cY) := by rw [cell_of_block k0]; rfl
  have r_0 : w2.cell? ⟨w.heap.size + 1, 0, none⟩ = some (.int .i64 0) := by rw [cell_of_block r]; rfl
  have r_1 : w2.cell? ⟨w.heap.size + 1, 1, none⟩ = some (.int .i64 0) := by rw [cell_of_block r]; rfl
  have r_2 : w2.cell? ⟨w.heap.size + 1, 2, none⟩ = some (.int .i64 0) := by rw [cell_of_block r]; rfl
  have r_f : ∀ i, w2.frozen? ⟨w.heap.size + 1, i, none⟩ = false := frozen_of_block r
  have s_0 : w2.cell? ⟨w1.heap.size, 0, none⟩ = some (.int .i64 bs) := by rw [cell_of_block s]; rfl
  have s_1 : w2.cell? ⟨w1.heap.size, 1, none⟩ = some (.int .i64 lm) := by rw [cell_of_block s]; rfl
  have s_2 : w2.cell? ⟨w1.heap.size, 2, none⟩ = some (.slice A n cap) := by rw [cell_of_block s]; rfl
  go_wp2_with fail
  refine (hD _).mono ?_
  rintro e w3 ⟨rfl, hb3⟩
  have hB3 : Below w2.heap.size w2 w3 := by (repeat (first | exact Below.refl _ _ | assumption | refine Below.drew ?_ | refine below_drewN ?_ _ | refine balloc ?_ _ | refine Below.setCell ?_ (by first | (simp; done) | (simp; omega) | omega) _ | refine bchain (by assumption) ?_))
  have k0 := bblock hB3 k0
  have r := bblock hB3 r
  have s := bblock hB3 s
  have hw3 := bchain hB3 hw2
  clear hz_k0 hz_r hz_s
  have hz_k0 : w.heap.size < w3.heap.size := (Array.getElem?_eq_some_iff.1 k0).1
  have hz_r : w.heap.size + 1 < w3.heap.size := (Array.getElem?_eq_some_iff.1 r).1
  have hz_s : w1.heap.size < w3.heap.size := (Array.getElem?_eq_some_iff.1 s).1
  clear hB3
  clear k0_0 k0_1 k0_2 k0_3 k0_4 k0_5 r_0 r_1 r_2 r_f s_0 s_1 s_2
  have k0_0 : w3.cell? ⟨w.heap.size, 0, none⟩ = some (.int .i64 0) := by rw [cell_of_block k0]; rfl
  have k0_1 : w3.cell? ⟨w.heap.size, 1, none⟩ = some (.int .i64 lo) := by rw [cell_of_block k0]; rfl
  have k0_2 : w3.cell? ⟨w.heap.size, 2, none⟩ = some (.slice aO nO cO) := by rw [cell_of_block k0]; rfl
  have k0_3 : w3.cell? ⟨w.heap.size, 3, none⟩ = some (.int .i64 16777216) := by rw [cell_of_block k0]; rfl
  have k0_4 : w3.cell? ⟨w.heap.size, 4, none⟩ = some (.int .i64 ly) := by rw [cell_of_block k0]; rfl
  have k0_5 : w3.cell? ⟨w.heap.size, 5, none⟩ = some (.slice aY nY cY) := by rw [cell_of_block k0]; rfl
  have r_0 : w3.cell? ⟨w.heap.size + 1, 0, none⟩ = some (.int .i64 0) := by rw [cell_of_block r]; rfl
  have r_1 : w3.cell? ⟨w.heap.size + 1, 1, none⟩ = some (.int .i64 0) := by rw [cell_of_block r]; rfl
  have r_2 : w3.cell? ⟨w.heap.size + 1, 2, none⟩ = some (.int .i64 0) := by rw [cell_of_block r]; rfl
  have r_f : ∀ i, w3.frozen? ⟨w.heap.size + 1, i, none⟩ = false := frozen_of_block r
  have s_0 : w3.cell? ⟨w1.heap.size, 0, none⟩ = some (.int .i64 bs) := by rw [cell_of_block s]; rfl
  have s_1 : w3.cell? ⟨w1.heap.size, 1, none⟩ = some (.int .i64 lm) := by rw [cell_of_block s]; rfl
  have s_2 : w3.cell? ⟨w1.heap.size, 2, none⟩ = some (.slice A n cap) := by rw [cell_of_block s]; rfl
  go_wp2_with fail
  refine (hL2 _ (by (repeat (first | exact Below.refl _ _ | assumption | refine Below.drew ?_ | refine below_drewN ?_ _ | refine balloc ?_ _ | refine Below.setCell ?_ (by first | (simp; done) | (simp; omega) | omega) _ | refine bchain (by assumption) ?_)))).mono ?_
  rintro e w4 ⟨rfl, hb4⟩
  have hB4 : Below w3.heap.size w3 w4 := by (repeat (first | exact Below.refl _ _ | assumption | refine Below.drew ?_ | refine below_drewN ?_ _ | refine balloc ?_ _ | refine Below.setCell ?_ (by first | (simp; done) | (simp; omega) | omega) _ | refine bchain (by assumption) ?_))
  have k0 := bblock hB4 k0
  have r := bblock hB4 r
  have s := bblock hB4 s
  have t : w4.heap[w3.heap.size]? = some (.cells #[.int .i64 kk, .int .i64 cc, .int .i64 ff] 23 (0, 0)) := bblock hb4 (by repeat (first | exact alloc_at _ (by simp) | refine alloc_lt _ ?_))
  have hw4 := bchain hB4 hw3
  clear hz_k0 hz_r hz_s
  have hz_k0 : w.heap.size < w4.heap.size := (Array.getElem?_eq_some_iff.1 k0).1
  have hz_r : w.heap.size + 1 < w4.heap.size := (Array.getElem?_eq_some_iff.1 r).1
  have hz_s : w1.heap.size < w4.heap.size := (Array.getElem?_eq_some_iff.1 s).1
  have hz_t : w3.heap.size < w4.heap.size := (Array.getElem?_eq_some_iff.1 t).1
  clear hB4
  clear k0_0 k0_1 k0_2 k0_3 k0_4 k0_5 r_0 r_1 r_2 r_f s_0 s_1 s_2
  have k0_0 : w4.cell? ⟨w.heap.size, 0, none⟩ = some (.int .i64 0) := by rw [cell_of_block k0]; rfl
  have k0_1 : w4.cell? ⟨w.heap.size, 1, none⟩ = some (.int .i64 lo) := by rw [cell_of_block k0]; rfl
  have k0_2 : w4.cell? ⟨w.heap.size, 2, none⟩ = some (.slice aO nO cO) := by rw [cell_of_block k0]; rfl
  have k0_3 : w4.cell? ⟨w.heap.size, 3, none⟩ = some (.int .i64 16777216) := by rw [cell_of_block k0]; rfl
  have k0_4 : w4.cell? ⟨w.heap.size, 4, none⟩ = some (.int .i64 ly) := by rw [cell_of_block k0]; rfl
  have k0_5 : w4.cell? ⟨w.heap.size, 5, none⟩ = some (.slice aY nY cY) := by rw [cell_of_block k0]; rfl
  have r_0 : w4.cell? ⟨w.heap.size + 1, 0, none⟩ = some (.int .i64 0) := by rw [cell_of_block r]; rfl
  have r_1 : w4.cell? ⟨w.heap.size + 1, 1, none⟩ = some (.int .i64 0) := by rw [cell_of_block r]; rfl
  have r_2 : w4.cell? ⟨w.heap.size + 1, 2, none⟩ = some (.int .i64 0) := by rw [cell_of_block r]; rfl
  have r_f : ∀ i, w4.frozen? ⟨w.heap.size + 1, i, none⟩ = false := frozen_of_block r
  have s_0 : w4.cell? ⟨w1.heap.size, 0, none⟩ = some (.int .i64 bs) := by rw [cell_of_block s]; rfl
  have s_1 : w4.cell? ⟨w1.heap.size, 1, none⟩ = some (.int .i64 lm) := by rw [cell_of_block s]; rfl
  have s_2 : w4.cell? ⟨w1.heap.size, 2, none⟩ = some (.slice A n cap) := by rw [cell_of_block s]; rfl
  have t_0 : w4.cell? ⟨w3.heap.size, 0, none⟩ = some (.int .i64 kk) := by rw [cell_of_block t]; rfl
  have t_1 : w4.cell? ⟨w3.heap.size, 1, none⟩ = some (.int .i64 cc) := by rw [cell_of_block t]; rfl
  have t_2 : w4.cell? ⟨w3.heap.size, 2, none⟩ = some (.int .i64 ff) := by rw [cell_of_block t]; rfl
  go_wp2_with fail
  have o_k0_0 : ∀ x, (over w4 x).cell? ⟨w.heap.size, 0, none⟩ = some (.int .i64 0) := over_cell (by assumption)
  have o_k0_1 : ∀ x, (over w4 x).cell? ⟨w.heap.size, 1, none⟩ = some (.int .i64 lo) := over_cell (by assumption)
  have o_k0_2 : ∀ x, (over w4 x).cell? ⟨w.heap.size, 2, none⟩ = some (.slice aO nO cO) := over_cell (by assumption)
  have o_k0_3 : ∀ x, (over w4 x).cell? ⟨w.heap.size, 3, none⟩ = some (.int .i64 16777216) := over_cell (by assumption)
  have o_k0_4 : ∀ x, (over w4 x).cell? ⟨w.heap.size, 4, none⟩ = some (.int .i64 ly) := over_cell (by assumption)
  have o_k0_5 : ∀ x, (over w4 x).cell? ⟨w.heap.size, 5, none⟩ = some (.slice aY nY cY) := over_cell (by assumption)
  have o_r_0 : ∀ x, (over w4 x).cell? ⟨w.heap.size + 1, 0, none⟩ = some (.int .i64 0) := over_cell (by assumption)
  have o_r_1 : ∀ x, (over w4 x).cell? ⟨w.heap.size + 1, 1, none⟩ = some (.int .i64 0) := over_cell (by assumption)
  have o_r_2 : ∀ x, (over w4 x).cell? ⟨w.heap.size + 1, 2, none⟩ = some (.int .i64 0) := over_cell (by assumption)
  have o_s_0 : ∀ x, (over w4 x).cell? ⟨w1.heap.size, 0, none⟩ = some (.int .i64 bs) := over_cell (by assumption)
  have o_s_1 : ∀ x, (over w4 x).cell? ⟨w1.heap.size, 1, none⟩ = some (.int .i64 lm) := over_cell (by assumption)
  have o_s_2 : ∀ x, (over w4 x).cell? ⟨w1.heap.size, 2, none⟩ = some (.slice A n cap) := over_cell (by assumption)
  have o_t_0 : ∀ x, (over w4 x).cell? ⟨w3.heap.size, 0, none⟩ = some (.int .i64 kk) := over_cell (by assumption)
  have o_t_1 : ∀ x, (over w4 x).cell? ⟨w3.heap.size, 1, none⟩ = some (.int .i64 cc) := over_cell (by assumption)
  have o_t_2 : ∀ x, (over w4 x).cell? ⟨w3.heap.size, 2, none⟩ = some (.int .i64 ff) := over_cell (by assumption)
  (refine wp_region_over (by kernel_rfl) (by kernel_rfl) ?_); (repeat (go_big_quiet_step ((first | fail)))); (refine wpQuiet_nil ?_)
  intro w5 hb5
  clear o_k0_0 o_k0_1 o_k0_2 o_k0_3 o_k0_4 o_k0_5 o_r_0 o_r_1 o_r_2 o_s_0 o_s_1 o_s_2 o_t_0 o_t_1 o_t_2
  have hB5 : Below w4.heap.size w4 w5 := by (repeat (first | exact Below.refl _ _ | assumption | refine Below.drew ?_ | refine below_drewN ?_ _ | refine balloc ?_ _ | refine Below.setCell ?_ (by first | (simp; done) | (simp; omega) | omega) _ | refine bchain (by assumption) ?_))
  have k0 := bblock hB5 k0
  have r := bblock hB5 r
  have s := bblock hB5 s
  have t := bblock hB5 t
  have hw5 := bchain hB5 hw4
  clear hz_k0 hz_r hz_s hz_t
  have hz_k0 : w.heap.size < w5.heap.size := (Array.getElem?_eq_some_iff.1 k0).1
  have hz_r : w.heap.size + 1 < w5.heap.size := (Array.getElem?_eq_some_iff.1 r).1
  have hz_s : w1.heap.size < w5.heap.size := (Array.getElem?_eq_some_iff.1 s).1
  have hz_t : w3.heap.size < w5.heap.size := (Array.getElem?_eq_some_iff.1 t).1
  clear hB5
  clear k0_0 k0_1 k0_2 k0_3 k0_4 k0_5 r_0 r_1 r_2 r_f s_0 s_1 s_2 t_0 t_1 t_2
  have k0_0 : w5.cell? ⟨w.heap.size, 0, none⟩ = some (.int .i64 0) := by rw [cell_of_block k0]; rfl
  have k0_1 : w5.cell? ⟨w.heap.size, 1, none⟩ = some (.int .i64 lo) := by rw [cell_of_block k0]; rfl
  have k0_2 : w5.cell? ⟨w.heap.size, 2, none⟩ = some (.slice aO nO cO) := by rw [cell_of_block k0]; rfl
  have k0_3 : w5.cell? ⟨w.heap.size, 3, none⟩ = some (.int .i64 16777216) := by rw [cell_of_block k0]; rfl
  have k0_4 : w5.cell? ⟨w.heap.size, 4, none⟩ = some (.int .i64 ly) := by rw [cell_of_block k0]; rfl
  have k0_5 : w5.cell? ⟨w.heap.size, 5, none⟩ = some (.slice aY nY cY) := by rw [cell_of_block k0]; rfl
  have r_0 : w5.cell? ⟨w.heap.size + 1, 0, none⟩ = some (.int .i64 0) := by rw [cell_of_block r]; rfl
  have r_1 : w5.cell? ⟨w.heap.size + 1, 1, none⟩ = some (.int .i64 0) := by rw [cell_of_block r]; rfl
  have r_2 : w5.cell? ⟨w.heap.size + 1, 2, none⟩ = some (.int .i64 0) := by rw [cell_of_block r]; rfl
  have r_f : ∀ i, w5.frozen? ⟨w.heap.size + 1, i, none⟩ = false := frozen_of_block r
  have s_0 : w5.cell? ⟨w1.heap.size, 0, none⟩ = some (.int .i64 bs) := by rw [cell_of_block s]; rfl
  have s_1 : w5.cell? ⟨w1.heap.size, 1, none⟩ = some (.int .i64 lm) := by rw [cell_of_block s]; rfl
  have s_2 : w5.cell? ⟨w1.heap.size, 2, none⟩ = some (.slice A n cap) := by rw [cell_of_block s]; rfl
  have t_0 : w5.cell? ⟨w3.heap.size, 0, none⟩ = some (.int .i64 kk) := by rw [cell_of_block t]; rfl
  have t_1 : w5.cell? ⟨w3.heap.size, 1, none⟩ = some (.int .i64 cc) := by rw [cell_of_block t]; rfl
  have t_2 : w5.cell? ⟨w3.heap.size, 2, none⟩ = some (.int .i64 ff) := by rw [cell_of_block t]; rfl
  go_wp2
  exact bodyPost_ret (v := .tuple #[.agg #[.int .i64 0, .int .i64 0, .int .i64 0], .int .i64 11]) (by simp [results, Try.results31, go_sem, k0_0, k0_1, k0_2, k0_3, k0_4, k0_5, r_0, r_1, r_2, r_f, s_0, s_1, s_2, t_0, t_1, t_2, hz_k0, hz_r, hz_s, hz_t]) rfl ⟨rfl, by (repeat (first | exact Below.refl _ _ | assumption | refine Below.drew ?_ | refine below_drewN ?_ _ | refine balloc ?_ _ | refine Below.setCell ?_ (by first | (simp; done) | (simp; omega) | omega) _ | refine bchain (by assumption) ?_))⟩
set_option maxRecDepth 100000 in
set_option maxHeartbeats 2000000 in
theorem rhdr_C {w : World} {aO : Option Addr} {nO cO : Nat} {aY : Option Addr} {nY cY : Nat} {lo ly : Int} {A : Option Addr} {n cap : Nat} {bs lm : Int} {ws : List Int} {g : Option Nat} {a : Int} (hP : ∀ W, Below w.heap.size w W → Calls Try.prog 65 #[.agg #[.int .i64 0, .int .i64 lo, .slice aO nO cO, .int .i64 16777216, .int .i64 ly, .slice aY nY cY], .int .i64 a] W fun e w' => e = .returned (.agg #[.int .i64 bs, .int .i64 lm, .slice A n cap]) ∧ Below W.heap.size W w') (hs : ∀ W, Below w.heap.size w W → MdAt W (.agg #[.int .i64 bs, .int .i64 lm, .slice A n cap]) bs lm ws g) (hk : SpOk bs lm ws) (hn : ws.length = n) (h : inB bs ws.length a = true) (h2 : inB bs ws.length (a + 1) = true) (hd : decB (ldW bs ws a) = true) (hi : didB (ldW bs ws (a + 1)) = false) :
    Calls Try.prog 31 #[.agg #[.int .i64 0, .int .i64 lo, .slice aO nO cO, .int .i64 16777216, .int .i64 ly, .slice aY nY cY], .int .i64 a] w fun e w' => e = .returned (.tuple #[.agg #[.int .i64 0, .int .i64 0, .int .i64 0], .int .i64 11]) ∧ Below w.heap.size w w' := by
  have b0 := hk.b0
  have b1 := hk.top
  have b2 := hk.lm1
  have hL := fun W (h : Below w.heap.size w W) (c : Int) => rload_any (hs W h) hk hn c
  have hC := fun W (h : Below w.heap.size w W) (c : Int) => rcontains_any (hs W h) hk c
  have a01 := inB_iff.1 h
  rw [hn] at a01
  obtain ⟨a0, a1⟩ := a01
  have e1 : ioE bs ws a = 0 := by unfold ioE; rw [h]; rfl
  have hL1 := fun W h => hL W h a
  rw [e1] at hL1
  have hL2 := fun W h => hL W h (a + 1)
  have hx := ldU hk a
  have hy := ldU hk (a + 1)
  have e2 : ioE bs ws (a + 1) = 0 := by unfold ioE; rw [h2]; rfl
  rw [e2] at hL2
  generalize ldW bs ws a = x at *
  generalize ldW bs ws (a + 1) = y at *
  have hD := fun W => rdecode_yes x hx hd W
  have hI := fun W => rdecodeID_no y hy hi W
  generalize decK x = kk at *
  generalize decC x = cc at *
  generalize decF x = ff at *
  clear h h2 e1 e2 hL hC hx hy hd hi
  rw [hn] at b1
  clear hs hk hn
  have hw0 : Below w.heap.size w w := Below.refl _ _
  go_enter Try.func31, Try.ntmps31
  go_wp2_with fail
  refine (hP _ (by (repeat (first | exact Below.refl _ _ | assumption | refine Below.drew ?_ | refine below_drewN ?_ _ | refine balloc ?_ _ | refine Below.setCell ?_ (by first | (simp; done) | (simp; omega) | omega) _ | refine bchain (by assumption) ?_)))).mono ?_
  rintro e w1 ⟨rfl, hb1⟩
  have hB1 : Below w.heap.size w w1 := by (repeat (first | exact Below.refl _ _ | assumption | refine Below.drew ?_ | refine below_drewN ?_ _ | refine balloc ?_ _ | refine Below.setCell ?_ (by first | (simp; done) | (simp; omega) | omega) _ | refine bchain (by assumption) ?_))
  have k0 : w1.heap[w.heap.size]? = some (.cells #[.int .i64 0, .int .i64 lo, .slice aO nO cO, .int .i64 16777216, .int .i64 ly, .slice aY nY cY] 35 (0, 0)) := bblock hb1 (by repeat (first | exact alloc_at _ (by simp) | refine alloc_lt _ ?_))
  have r : w1.heap[w.heap.size + 1]? = some (.cells #[.int .i64 0, .int .i64 0, .int .i64 0] 23 (0, 0)) := bblock hb1 (by repeat (first | exact alloc_at _ (by simp) | refine alloc_lt _ ?_))
  have hw1 := bchain hB1 hw0
  have hz_k0 : w.heap.size < w1.heap.size := (Array.getElem?_eq_some_iff.1 k0).1
  have hz_r : w.heap.size + 1 < w1.heap.size := (Array.getElem?_eq_some_iff.1 r).1
  clear hB1
  have k0_0 : w1.cell? ⟨w.heap.size, 0, none⟩ = some (.int .i64 0) := by rw [cell_of_block k0]; rfl
  have k0_1 : w1.cell? ⟨w.heap.size, 1, none⟩ = some (.int .i64 lo) := by rw [cell_of_block k0]; rfl
  have k0_2 : w1.cell? ⟨w.heap.size, 2, none⟩ = some (.slice aO nO cO) := by rw [cell_of_block k0]; rfl
  have k0_3 : w1.cell? ⟨w.heap.size, 3, none⟩ = some (.int .i64 16777216) := by rw [cell_of_block k0]; rfl
  have k0_4 : w1.cell? ⟨w.heap.size, 4, none⟩ = some (.int .i64 ly) := by rw [cell_of_block k0]; rfl
  have k0_5 : w1.cell? ⟨w.heap.size, 5, none⟩ = some (.slice aY nY cY) := by rw [cell_of_block k0]; rfl
  have r_0 : w1.cell? ⟨w.heap.size + 1, 0, none⟩ = some (.int .i64 0) := by rw [cell_of_block r]; rfl
  have r_1 : w1.cell? ⟨w.heap.size + 1, 1, none⟩ = some (.int .i64 0) := by rw [cell_of_block r]; rfl
  have r_2 : w1.cell? ⟨w.heap.size + 1, 2, none⟩ = some (.int .i64 0) := by rw [cell_of_block r]; rfl
  have r_f : ∀ i, w1.frozen? ⟨w.heap.size + 1, i, none⟩ = false := frozen_of_block r
  go_wp2_with fail
  refine (hL1 _ (by (repeat (first | exact Below.refl _ _ | assumption | refine Below.drew ?_ | refine below_drewN ?_ _ | refine balloc ?_ _ | refine Below.setCell ?_ (by first | (simp; done) | (simp; omega) | omega) _ | refine bchain (by assumption) ?_)))).mono ?_
  rintro e w2 ⟨rfl, hb2⟩
  have hB2 : Below w1.heap.size w1 w2 := by (repeat (first | exact Below.refl _ _ | assumption | refine Below.drew ?_ | refine below_drewN ?_ _ | refine balloc ?_ _ | refine Below.setCell ?_ (by first | (simp; done) | (simp; omega) | omega) _ | refine bchain (by assumption) ?_))
  have k0 := bblock hB2 k0
  have r := bblock hB2 r
  have s : w2.heap[w1.heap.size]? = some (.cells #[.int .i64 bs, .int .i64 lm, .slice A n cap] 33 (0, 0)) := bblock hb2 (by repeat (first | exact alloc_at _ (by simp) | refine alloc_lt _ ?_))
  have hw2 := bchain hB2 hw1
  clear hz_k0 hz_r
  have hz_k0 : w.heap.size < w2.heap.size := (Array.getElem?_eq_some_iff.1 k0).1
  have hz_r : w.heap.size + 1 < w2.heap.size := (Array.getElem?_eq_some_iff.1 r).1
  have hz_s : w1.heap.size < w2.heap.size := (Array.getElem?_eq_some_iff.1 s).1
  clear hB2
  clear k0_0 k0_1 k0_2 k0_3 k0_4 k0_5 r_0 r_1 r_2 r_f
  have k0_0 : w2.cell? ⟨w.heap.size, 0, none⟩ = some (.int .i64 0) := by rw [cell_of_block k0]; rfl
  have k0_1 : w2.cell? ⟨w.heap.size, 1, none⟩ = some (.int .i64 lo) := by rw [cell_of_block k0]; rfl
  have k0_2 : w2.cell? ⟨w.heap.size, 2, none⟩ = some (.slice aO nO cO) := by rw [cell_of_block k0]; rfl
  have k0_3 : w2.cell? ⟨w.heap.size, 3, none⟩ = some (.int .i64 16777216) := by rw [cell_of_block k0]; rfl
  have k0_4 : w2.cell? ⟨w.heap.size, 4, none⟩ = some (.int .i64 ly) := by rw [cell_of_block k0]; rfl
  have k0_5 : w2.cell? ⟨w.heap.size, 5, none⟩ = some (.slice aY nY cY) := by rw [cell_of_block k0]; rfl
  have r_0 : w2.cell? ⟨w.heap.size + 1, 0, none⟩ = some (.int .i64 0) := by rw [cell_of_block r]; rfl
  have r_1 : w2.cell? ⟨w.heap.size + 1, 1, none⟩ = some (.int .i64 0) := by rw [cell_of_block r]; rfl
  have r_2 : w2.cell? ⟨w.heap.size + 1, 2, none⟩ = some (.int .i64 0) := by rw [cell_of_block r]; rfl
  have r_f : ∀ i, w2.frozen? ⟨w.heap.size + 1, i, none⟩ = false := frozen_of_block r
  have s_0 : w2.cell? ⟨w1.heap.size, 0, none⟩ = some (.int .i64 bs) := by rw [cell_of_block s]; rfl
  have s_1 : w2.cell? ⟨w1.heap.size, 1, none⟩ = some (.int .i64 lm) := by rw [cell_of_block s]; rfl
  have s_2 : w2.cell? ⟨w1.heap.size, 2, none⟩ = some (.slice A n cap) := by rw [cell_of_block s]; rfl
  go_wp2_with fail
  refine (hD _).mono ?_
  rintro e w3 ⟨rfl, hb3⟩
  have hB3 : Below w2.heap.size w2 w3 := by (repeat (first | exact Below.refl _ _ | assumption | refine Below.drew ?_ | refine below_drewN ?_ _ | refine balloc ?_ _ | refine Below.setCell ?_ (by first | (simp; done) | (simp; omega) | omega) _ | refine bchain (by assumption) ?_))
  have k0 := bblock hB3 k0
  have r := bblock hB3 r
  have s := bblock hB3 s
  have hw3 := bchain hB3 hw2
  clear hz_k0 hz_r hz_s
  have hz_k0 : w.heap.size < w3.heap.size := (Array.getElem?_eq_some_iff.1 k0).1
  have hz_r : w.heap.size + 1 < w3.heap.size := (Array.getElem?_eq_some_iff.1 r).1
  have hz_s : w1.heap.size < w3.heap.size := (Array.getElem?_eq_some_iff.1 s).1
  clear hB3
  clear k0_0 k0_1 k0_2 k0_3 k0_4 k0_5 r_0 r_1 r_2 r_f s_0 s_1 s_2
  have k0_0 : w3.cell? ⟨w.heap.size, 0, none⟩ = some (.int .i64 0) := by rw [cell_of_block k0]; rfl
  have k0_1 : w3.cell? ⟨w.heap.size, 1, none⟩ = some (.int .i64 lo) := by rw [cell_of_block k0]; rfl
  have k0_2 : w3.cell? ⟨w.heap.size, 2, none⟩ = some (.slice aO nO cO) := by rw [cell_of_block k0]; rfl
  have k0_3 : w3.cell? ⟨w.heap.size, 3, none⟩ = some (.int .i64 16777216) := by rw [cell_of_block k0]; rfl
  have k0_4 : w3.cell? ⟨w.heap.size, 4, none⟩ = some (.int .i64 ly) := by rw [cell_of_block k0]; rfl
  have k0_5 : w3.cell? ⟨w.heap.size, 5, none⟩ = some (.slice aY nY cY) := by rw [cell_of_block k0]; rfl
  have r_0 : w3.cell? ⟨w.heap.size + 1, 0, none⟩ = some (.int .i64 0) := by rw [cell_of_block r]; rfl
  have r_1 : w3.cell? ⟨w.heap.size + 1, 1, none⟩ = some (.int .i64 0) := by rw [cell_of_block r]; rfl
  have r_2 : w3.cell? ⟨w.heap.size + 1, 2, none⟩ = some (.int .i64 0) := by rw [cell_of_block r]; rfl
  have r_f : ∀ i, w3.frozen? ⟨w.heap.size + 1, i, none⟩ = false := frozen_of_block r
  have s_0 : w3.cell? ⟨w1.heap.size, 0, none⟩ = some (.int .i64 bs) := by rw [cell_of_block s]; rfl
  have s_1 : w3.cell? ⟨w1.heap.size, 1, none⟩ = some (.int .i64 lm) := by rw [cell_of_block s]; rfl
  have s_2 : w3.cell? ⟨w1.heap.size, 2, none⟩ = some (.slice A n cap) := by rw [cell_of_block s]; rfl
  go_wp2_with fail
  refine (hL2 _ (by (repeat (first | exact Below.refl _ _ | assumption | refine Below.drew ?_ | refine below_drewN ?_ _ | refine balloc ?_ _ | refine Below.setCell ?_ (by first | (simp; done) | (simp; omega) | omega) _ | refine bchain (by assumption) ?_)))).mono ?_
  rintro e w4 ⟨rfl, hb4⟩
  have hB4 : Below w3.heap.size w3 w4 := by (repeat (first | exact Below.refl _ _ | assumption | refine Below.drew ?_ | refine below_drewN ?_ _ | refine balloc ?_ _ | refine Below.setCell ?_ (by first | (simp; done) | (simp; omega) | omega) _ | refine bchain (by assumption) ?_))
  have k0 := bblock hB4 k0
  have r := bblock hB4 r
  have s := bblock hB4 s
  have t : w4.heap[w3.heap.size]? = some (.cells #[.int .i64 kk, .int .i64 cc, .int .i64 ff] 23 (0, 0)) := bblock hb4 (by repeat (first | exact alloc_at _ (by simp) | refine alloc_lt _ ?_))
  have hw4 := bchain hB4 hw3
  clear hz_k0 hz_r hz_s
  have hz_k0 : w.heap.size < w4.heap.size := (Array.getElem?_eq_some_iff.1 k0).1
  have hz_r : w.heap.size + 1 < w4.heap.size := (Array.getElem?_eq_some_iff.1 r).1
  have hz_s : w1.heap.size < w4.heap.size := (Array.getElem?_eq_some_iff.1 s).1
  have hz_t : w3.heap.size < w4.heap.size := (Array.getElem?_eq_some_iff.1 t).1
  clear hB4
  clear k0_0 k0_1 k0_2 k0_3 k0_4 k0_5 r_0 r_1 r_2 r_f s_0 s_1 s_2
  have k0_0 : w4.cell? ⟨w.heap.size, 0, none⟩ = some (.int .i64 0) := by rw [cell_of_block k0]; rfl
  have k0_1 : w4.cell? ⟨w.heap.size, 1, none⟩ = some (.int .i64 lo) := by rw [cell_of_block k0]; rfl
  have k0_2 : w4.cell? ⟨w.heap.size, 2, none⟩ = some (.slice aO nO cO) := by rw [cell_of_block k0]; rfl
  have k0_3 : w4.cell? ⟨w.heap.size, 3, none⟩ = some (.int .i64 16777216) := by rw [cell_of_block k0]; rfl
  have k0_4 : w4.cell? ⟨w.heap.size, 4, none⟩ = some (.int .i64 ly) := by rw [cell_of_block k0]; rfl
  have k0_5 : w4.cell? ⟨w.heap.size, 5, none⟩ = some (.slice aY nY cY) := by rw [cell_of_block k0]; rfl
  have r_0 : w4.cell? ⟨w.heap.size + 1, 0, none⟩ = some (.int .i64 0) := by rw [cell_of_block r]; rfl
  have r_1 : w4.cell? ⟨w.heap.size + 1, 1, none⟩ = some (.int .i64 0) := by rw [cell_of_block r]; rfl
  have r_2 : w4.cell? ⟨w.heap.size + 1, 2, none⟩ = some (.int .i64 0) := by rw [cell_of_block r]; rfl
  have r_f : ∀ i, w4.frozen? ⟨w.heap.size + 1, i, none⟩ = false := frozen_of_block r
  have s_0 : w4.cell? ⟨w1.heap.size, 0, none⟩ = some (.int .i64 bs) := by rw [cell_of_block s]; rfl
  have s_1 : w4.cell? ⟨w1.heap.size, 1, none⟩ = some (.int .i64 lm) := by rw [cell_of_block s]; rfl
  have s_2 : w4.cell? ⟨w1.heap.size, 2, none⟩ = some (.slice A n cap) := by rw [cell_of_block s]; rfl
  have t_0 : w4.cell? ⟨w3.heap.size, 0, none⟩ = some (.int .i64 kk) := by rw [cell_of_block t]; rfl
  have t_1 : w4.cell? ⟨w3.heap.size, 1, none⟩ = some (.int .i64 cc) := by rw [cell_of_block t]; rfl
  have t_2 : w4.cell? ⟨w3.heap.size, 2, none⟩ = some (.int .i64 ff) := by rw [cell_of_block t]; rfl
  go_wp2_with fail
  have o_k0_0 : ∀ x, (over w4 x).cell? ⟨w.heap.size, 0, none⟩ = some (.int .i64 0) := over_cell (by assumption)
  have o_k0_1 : ∀ x, (over w4 x).cell? ⟨w.heap.size, 1, none⟩ = some (.int .i64 lo) := over_cell (by assumption)
  have o_k0_2 : ∀ x, (over w4 x).cell? ⟨w.heap.size, 2, none⟩ = some (.slice aO nO cO) := over_cell (by assumption)
  have o_k0_3 : ∀ x, (over w4 x).cell? ⟨w.heap.size, 3, none⟩ = some (.int .i64 16777216) := over_cell (by assumption)
  have o_k0_4 : ∀ x, (over w4 x).cell? ⟨w.heap.size, 4, none⟩ = some (.int .i64 ly) := over_cell (by assumption)
  have o_k0_5 : ∀ x, (over w4 x).cell? ⟨w.heap.size, 5, none⟩ = some (.slice aY nY cY) := over_cell (by assumption)
  have o_r_0 : ∀ x, (over w4 x).cell? ⟨w.heap.size + 1, 0, none⟩ = some (.int .i64 0) := over_cell (by assumption)
  have o_r_1 : ∀ x, (over w4 x).cell? ⟨w.heap.size + 1, 1, none⟩ = some (.int .i64 0) := over_cell (by assumption)
  have o_r_2 : ∀ x, (over w4 x).cell? ⟨w.heap.size + 1, 2, none⟩ = some (.int .i64 0) := over_cell (by assumption)
  have o_s_0 : ∀ x, (over w4 x).cell? ⟨w1.heap.size, 0, none⟩ = some (.int .i64 bs) := over_cell (by assumption)
  have o_s_1 : ∀ x, (over w4 x).cell? ⟨w1.heap.size, 1, none⟩ = some (.int .i64 lm) := over_cell (by assumption)
  have o_s_2 : ∀ x, (over w4 x).cell? ⟨w1.heap.size, 2, none⟩ = some (.slice A n cap) := over_cell (by assumption)
  have o_t_0 : ∀ x, (over w4 x).cell? ⟨w3.heap.size, 0, none⟩ = some (.int .i64 kk) := over_cell (by assumption)
  have o_t_1 : ∀ x, (over w4 x).cell? ⟨w3.heap.size, 1, none⟩ = some (.int .i64 cc) := over_cell (by assumption)
  have o_t_2 : ∀ x, (over w4 x).cell? ⟨w3.heap.size, 2, none⟩ = some (.int .i64 ff) := over_cell (by assumption)
  (refine wp_region_over (by kernel_rfl) (by kernel_rfl) ?_); (repeat (go_big_quiet_step ((first | (go_at_call 67; exact calls_over (hI _)))))); (refine wpQuiet_nil ?_)
  intro w5 hb5
  clear o_k0_0 o_k0_1 o_k0_2 o_k0_3 o_k0_4 o_k0_5 o_r_0 o_r_1 o_r_2 o_s_0 o_s_1 o_s_2 o_t_0 o_t_1 o_t_2
  have hB5 : Below w4.heap.size w4 w5 := by (repeat (first | exact Below.refl _ _ | assumption | refine Below.drew ?_ | refine below_drewN ?_ _ | refine balloc ?_ _ | refine Below.setCell ?_ (by first | (simp; done) | (simp; omega) | omega) _ | refine bchain (by assumption) ?_))
  have k0 := bblock hB5 k0
  have r := bblock hB5 r
  have s := bblock hB5 s
  have t := bblock hB5 t
  have hw5 := bchain hB5 hw4
  clear hz_k0 hz_r hz_s hz_t
  have hz_k0 : w.heap.size < w5.heap.size := (Array.getElem?_eq_some_iff.1 k0).1
  have hz_r : w.heap.size + 1 < w5.heap.size := (Array.getElem?_eq_some_iff.1 r).1
  have hz_s : w1.heap.size < w5.heap.size := (Array.getElem?_eq_some_iff.1 s).1
  have hz_t : w3.heap.size < w5.heap.size := (Array.getElem?_eq_some_iff.1 t).1
  clear hB5
  clear k0_0 k0_1 k0_2 k0_3 k0_4 k0_5 r_0 r_1 r_2 r_f s_0 s_1 s_2 t_0 t_1 t_2
  have k0_0 : w5.cell? ⟨w.heap.size, 0, none⟩ = some (.int .i64 0) := by rw [cell_of_block k0]; rfl
  have k0_1 : w5.cell? ⟨w.heap.size, 1, none⟩ = some (.int .i64 lo) := by rw [cell_of_block k0]; rfl
  have k0_2 : w5.cell? ⟨w.heap.size, 2, none⟩ = some (.slice aO nO cO) := by rw [cell_of_block k0]; rfl
  have k0_3 : w5.cell? ⟨w.heap.size, 3, none⟩ = some (.int .i64 16777216) := by rw [cell_of_block k0]; rfl
  have k0_4 : w5.cell? ⟨w.heap.size, 4, none⟩ = some (.int .i64 ly) := by rw [cell_of_block k0]; rfl
  have k0_5 : w5.cell? ⟨w.heap.size, 5, none⟩ = some (.slice aY nY cY) := by rw [cell_of_block k0]; rfl
  have r_0 : w5.cell? ⟨w.heap.size + 1, 0, none⟩ = some (.int .i64 0) := by rw [cell_of_block r]; rfl
  have r_1 : w5.cell? ⟨w.heap.size + 1, 1, none⟩ = some (.int .i64 0) := by rw [cell_of_block r]; rfl
  have r_2 : w5.cell? ⟨w.heap.size + 1, 2, none⟩ = some (.int .i64 0) := by rw [cell_of_block r]; rfl
  have r_f : ∀ i, w5.frozen? ⟨w.heap.size + 1, i, none⟩ = false := frozen_of_block r
  have s_0 : w5.cell? ⟨w1.heap.size, 0, none⟩ = some (.int .i64 bs) := by rw [cell_of_block s]; rfl
  have s_1 : w5.cell? ⟨w1.heap.size, 1, none⟩ = some (.int .i64 lm) := by rw [cell_of_block s]; rfl
  have s_2 : w5.cell? ⟨w1.heap.size, 2, none⟩ = some (.slice A n cap) := by rw [cell_of_block s]; rfl
  have t_0 : w5.cell? ⟨w3.heap.size, 0, none⟩ = some (.int .i64 kk) := by rw [cell_of_block t]; rfl
  have t_1 : w5.cell? ⟨w3.heap.size, 1, none⟩ = some (.int .i64 cc) := by rw [cell_of_block t]; rfl
  have t_2 : w5.cell? ⟨w3.heap.size, 2, none⟩ = some (.int .i64 ff) := by rw [cell_of_block t]; rfl
  go_wp2
  exact bodyPost_ret (v := .tuple #[.agg #[.int .i64 0, .int .i64 0, .int .i64 0], .int .i64 11]) (by simp [results, Try.results31, go_sem, k0_0, k0_1, k0_2, k0_3, k0_4, k0_5, r_0, r_1, r_2, r_f, s_0, s_1, s_2, t_0, t_1, t_2, hz_k0, hz_r, hz_s, hz_t]) rfl ⟨rfl, by (repeat (first | exact Below.refl _ _ | assumption | refine Below.drew ?_ | refine below_drewN ?_ _ | refine balloc ?_ _ | refine Below.setCell ?_ (by first | (simp; done) | (simp; omega) | omega) _ | refine bchain (by assumption) ?_))⟩
set_option maxRecDepth 100000 in
set_option maxHeartbeats 2000000 in
theorem rhdr_D {w : World} {aO : Option Addr} {nO cO : Nat} {aY : Option Addr} {nY cY : Nat} {lo ly : Int} {A : Option Addr} {n cap : Nat} {bs lm : Int} {ws : List Int} {g : Option Nat} {a : Int} (hP : ∀ W, Below w.heap.size w W → Calls Try.prog 65 #[.agg #[.int .i64 0, .int .i64 lo, .slice aO nO cO, .int .i64 16777216, .int .i64 ly, .slice aY nY cY], .int .i64 a] W fun e w' => e = .returned (.agg #[.int .i64 bs, .int .i64 lm, .slice A n cap]) ∧ Below W.heap.size W w') (hs : ∀ W, Below w.heap.size w W → MdAt W (.agg #[.int .i64 bs, .int .i64 lm, .slice A n cap]) bs lm ws g) (hk : SpOk bs lm ws) (hn : ws.length = n) (h : inB bs ws.length a = true) (h2 : inB bs ws.length (a + 1) = true) (hd : decB (ldW bs ws a) = true) (hi : didB (ldW bs ws (a + 1)) = true) (hc : inB bs ws.length (a + wordsI (decF (ldW bs ws a)) - 1) = false) :
    Calls Try.prog 31 #[.agg #[.int .i64 0, .int .i64 lo, .slice aO nO cO, .int .i64 16777216, .int .i64 ly, .slice aY nY cY], .int .i64 a] w fun e w' => e = .returned (.tuple #[.agg #[.int .i64 0, .int .i64 0, .int .i64 0], .int .i64 11]) ∧ Below w.heap.size w w' := by
  have b0 := hk.b0
  have b1 := hk.top
  have b2 := hk.lm1
  have hL := fun W (h : Below w.heap.size w W) (c : Int) => rload_any (hs W h) hk hn c
  have hC := fun W (h : Below w.heap.size w W) (c : Int) => rcontains_any (hs W h) hk c
  have a01 := inB_iff.1 h
  rw [hn] at a01
  obtain ⟨a0, a1⟩ := a01
  have e1 : ioE bs ws a = 0 := by unfold ioE; rw [h]; rfl
  have hL1 := fun W h => hL W h a
  rw [e1] at hL1
  have hL2 := fun W h => hL W h (a + 1)
  have hx := ldU hk a
  have hy := ldU hk (a + 1)
  have e2 : ioE bs ws (a + 1) = 0 := by unfold ioE; rw [h2]; rfl
  rw [e2] at hL2
  generalize ldW bs ws a = x at *
  generalize ldW bs ws (a + 1) = y at *
  have hD := fun W => rdecode_yes x hx hd W
  have hI := fun W => rdecodeID_yes y hy hi W
  have hW := fun W => rwords_yes (decK x) (decC x) (decF x) (decB_iff.1 hd).1 W
  have hC1 := fun W h => hC W h (a + wordsI (decF x) - 1)
  rw [hc] at hC1
  have d5 := idB_iff.1 (show idB (didM y) (didS y) = true from hi)
  obtain ⟨y0, y1, y2⟩ := wordsI_bd (decB_iff.1 hd).1
  generalize didM y = ym at *
  generalize didS y = ys at *
  generalize decK x = kk at *
  generalize decC x = cc at *
  generalize decF x = ff at *
  generalize wordsI ff = sz at *
  have wr1 : IntKind.i64.wrap (a + sz) = a + sz := IntWalk.i64_in _ (by omega)
  have wr2 : IntKind.i64.wrap (a + sz - 1) = a + sz - 1 := IntWalk.i64_in _ (by omega)
  clear h h2 e1 e2 hL hC hx hy hd hi hc
  rw [hn] at b1
  clear hs hk hn
  have hw0 : Below w.heap.size w w := Below.refl _ _
  go_enter Try.func31, Try.ntmps31
  go_wp2_with fail
  refine (hP _ (by (repeat (first | exact Below.refl _ _ | assumption | refine Below.drew ?_ | refine below_drewN ?_ _ | refine balloc ?_ _ | refine Below.setCell ?_ (by first | (simp; done) | (simp; omega) | omega) _ | refine bchain (by assumption) ?_)))).mono ?_
  rintro e w1 ⟨rfl, hb1⟩
  have hB1 : Below w.heap.size w w1 := by (repeat (first | exact Below.refl _ _ | assumption | refine Below.drew ?_ | refine below_drewN ?_ _ | refine balloc ?_ _ | refine Below.setCell ?_ (by first | (simp; done) | (simp; omega) | omega) _ | refine bchain (by assumption) ?_))
  have k0 : w1.heap[w.heap.size]? = some (.cells #[.int .i64 0, .int .i64 lo, .slice aO nO cO, .int .i64 16777216, .int .i64 ly, .slice aY nY cY] 35 (0, 0)) := bblock hb1 (by repeat (first | exact alloc_at _ (by simp) | refine alloc_lt _ ?_))
  have r : w1.heap[w.heap.size + 1]? = some (.cells #[.int .i64 0, .int .i64 0, .int .i64 0] 23 (0, 0)) := bblock hb1 (by repeat (first | exact alloc_at _ (by simp) | refine alloc_lt _ ?_))
  have hw1 := bchain hB1 hw0
  have hz_k0 : w.heap.size < w1.heap.size := (Array.getElem?_eq_some_iff.1 k0).1
  have hz_r : w.heap.size + 1 < w1.heap.size := (Array.getElem?_eq_some_iff.1 r).1
  clear hB1
  have k0_0 : w1.cell? ⟨w.heap.size, 0, none⟩ = some (.int .i64 0) := by rw [cell_of_block k0]; rfl
  have k0_1 : w1.cell? ⟨w.heap.size, 1, none⟩ = some (.int .i64 lo) := by rw [cell_of_block k0]; rfl
  have k0_2 : w1.cell? ⟨w.heap.size, 2, none⟩ = some (.slice aO nO cO) := by rw [cell_of_block k0]; rfl
  have k0_3 : w1.cell? ⟨w.heap.size, 3, none⟩ = some (.int .i64 16777216) := by rw [cell_of_block k0]; rfl
  have k0_4 : w1.cell? ⟨w.heap.size, 4, none⟩ = some (.int .i64 ly) := by rw [cell_of_block k0]; rfl
  have k0_5 : w1.cell? ⟨w.heap.size, 5, none⟩ = some (.slice aY nY cY) := by rw [cell_of_block k0]; rfl
  have r_0 : w1.cell? ⟨w.heap.size + 1, 0, none⟩ = some (.int .i64 0) := by rw [cell_of_block r]; rfl
  have r_1 : w1.cell? ⟨w.heap.size + 1, 1, none⟩ = some (.int .i64 0) := by rw [cell_of_block r]; rfl
  have r_2 : w1.cell? ⟨w.heap.size + 1, 2, none⟩ = some (.int .i64 0) := by rw [cell_of_block r]; rfl
  have r_f : ∀ i, w1.frozen? ⟨w.heap.size + 1, i, none⟩ = false := frozen_of_block r
  go_wp2_with fail
  refine (hL1 _ (by (repeat (first | exact Below.refl _ _ | assumption | refine Below.drew ?_ | refine below_drewN ?_ _ | refine balloc ?_ _ | refine Below.setCell ?_ (by first | (simp; done) | (simp; omega) | omega) _ | refine bchain (by assumption) ?_)))).mono ?_
  rintro e w2 ⟨rfl, hb2⟩
  have hB2 : Below w1.heap.size w1 w2 := by (repeat (first | exact Below.refl _ _ | assumption | refine Below.drew ?_ | refine below_drewN ?_ _ | refine balloc ?_ _ | refine Below.setCell ?_ (by first | (simp; done) | (simp; omega) | omega) _ | refine bchain (by assumption) ?_))
  have k0 := bblock hB2 k0
  have r := bblock hB2 r
  have s : w2.heap[w1.heap.size]? = some (.cells #[.int .i64 bs, .int .i64 lm, .slice A n cap] 33 (0, 0)) := bblock hb2 (by repeat (first | exact alloc_at _ (by simp) | refine alloc_lt _ ?_))
  have hw2 := bchain hB2 hw1
  clear hz_k0 hz_r
  have hz_k0 : w.heap.size < w2.heap.size := (Array.getElem?_eq_some_iff.1 k0).1
  have hz_r : w.heap.size + 1 < w2.heap.size := (Array.getElem?_eq_some_iff.1 r).1
  have hz_s : w1.heap.size < w2.heap.size := (Array.getElem?_eq_some_iff.1 s).1
  clear hB2
  clear k0_0 k0_1 k0_2 k0_3 k0_4 k0_5 r_0 r_1 r_2 r_f
  have k0_0 : w2.cell? ⟨w.heap.size, 0, none⟩ = some (.int .i64 0) := by rw [cell_of_block k0]; rfl
  have k0_1 : w2.cell? ⟨w.heap.size, 1, none⟩ = some (.int .i64 lo) := by rw [cell_of_block k0]; rfl
  have k0_2 : w2.cell? ⟨w.heap.size, 2, none⟩ = some (.slice aO nO cO) := by rw [cell_of_block k0]; rfl
  have k0_3 : w2.cell? ⟨w.heap.size, 3, none⟩ = some (.int .i64 16777216) := by rw [cell_of_block k0]; rfl
  have k0_4 : w2.cell? ⟨w.heap.size, 4, none⟩ = some (.int .i64 ly) := by rw [cell_of_block k0]; rfl
  have k0_5 : w2.cell? ⟨w.heap.size, 5, none⟩ = some (.slice aY nY cY) := by rw [cell_of_block k0]; rfl
  have r_0 : w2.cell? ⟨w.heap.size + 1, 0, none⟩ = some (.int .i64 0) := by rw [cell_of_block r]; rfl
  have r_1 : w2.cell? ⟨w.heap.size + 1, 1, none⟩ = some (.int .i64 0) := by rw [cell_of_block r]; rfl
  have r_2 : w2.cell? ⟨w.heap.size + 1, 2, none⟩ = some (.int .i64 0) := by rw [cell_of_block r]; rfl
  have r_f : ∀ i, w2.frozen? ⟨w.heap.size + 1, i, none⟩ = false := frozen_of_block r
  have s_0 : w2.cell? ⟨w1.heap.size, 0, none⟩ = some (.int .i64 bs) := by rw [cell_of_block s]; rfl
  have s_1 : w2.cell? ⟨w1.heap.size, 1, none⟩ = some (.int .i64 lm) := by rw [cell_of_block s]; rfl
  have s_2 : w2.cell? ⟨w1.heap.size, 2, none⟩ = some (.slice A n cap) := by rw [cell_of_block s]; rfl
  go_wp2_with fail
  refine (hD _).mono ?_
  rintro e w3 ⟨rfl, hb3⟩
  have hB3 : Below w2.heap.size w2 w3 := by (repeat (first | exact Below.refl _ _ | assumption | refine Below.drew ?_ | refine below_drewN ?_ _ | refine balloc ?_ _ | refine Below.setCell ?_ (by first | (simp; done) | (simp; omega) | omega) _ | refine bchain (by assumption) ?_))
  have k0 := bblock hB3 k0
  have r := bblock hB3 r
  have s := bblock hB3 s
  have hw3 := bchain hB3 hw2
  clear hz_k0 hz_r hz_s
  have hz_k0 : w.heap.size < w3.heap.size := (Array.getElem?_eq_some_iff.1 k0).1
  have hz_r : w.heap.size + 1 < w3.heap.size := (Array.getElem?_eq_some_iff.1 r).1
  have hz_s : w1.heap.size < w3.heap.size := (Array.getElem?_eq_some_iff.1 s).1
  clear hB3
  clear k0_0 k0_1 k0_2 k0_3 k0_4 k0_5 r_0 r_1 r_2 r_f s_0 s_1 s_2
  have k0_0 : w3.cell? ⟨w.heap.size, 0, none⟩ = some (.int .i64 0) := by rw [cell_of_block k0]; rfl
  have k0_1 : w3.cell? ⟨w.heap.size, 1, none⟩ = some (.int .i64 lo) := by rw [cell_of_block k0]; rfl
  have k0_2 : w3.cell? ⟨w.heap.size, 2, none⟩ = some (.slice aO nO cO) := by rw [cell_of_block k0]; rfl
  have k0_3 : w3.cell? ⟨w.heap.size, 3, none⟩ = some (.int .i64 16777216) := by rw [cell_of_block k0]; rfl
  have k0_4 : w3.cell? ⟨w.heap.size, 4, none⟩ = some (.int .i64 ly) := by rw [cell_of_block k0]; rfl
  have k0_5 : w3.cell? ⟨w.heap.size, 5, none⟩ = some (.slice aY nY cY) := by rw [cell_of_block k0]; rfl
  have r_0 : w3.cell? ⟨w.heap.size + 1, 0, none⟩ = some (.int .i64 0) := by rw [cell_of_block r]; rfl
  have r_1 : w3.cell? ⟨w.heap.size + 1, 1, none⟩ = some (.int .i64 0) := by rw [cell_of_block r]; rfl
  have r_2 : w3.cell? ⟨w.heap.size + 1, 2, none⟩ = some (.int .i64 0) := by rw [cell_of_block r]; rfl
  have r_f : ∀ i, w3.frozen? ⟨w.heap.size + 1, i, none⟩ = false := frozen_of_block r
  have s_0 : w3.cell? ⟨w1.heap.size, 0, none⟩ = some (.int .i64 bs) := by rw [cell_of_block s]; rfl
  have s_1 : w3.cell? ⟨w1.heap.size, 1, none⟩ = some (.int .i64 lm) := by rw [cell_of_block s]; rfl
  have s_2 : w3.cell? ⟨w1.heap.size, 2, none⟩ = some (.slice A n cap) := by rw [cell_of_block s]; rfl
  go_wp2_with fail
  refine (hL2 _ (by (repeat (first | exact Below.refl _ _ | assumption | refine Below.drew ?_ | refine below_drewN ?_ _ | refine balloc ?_ _ | refine Below.setCell ?_ (by first | (simp; done) | (simp; omega) | omega) _ | refine bchain (by assumption) ?_)))).mono ?_
  rintro e w4 ⟨rfl, hb4⟩
  have hB4 : Below w3.heap.size w3 w4 := by (repeat (first | exact Below.refl _ _ | assumption | refine Below.drew ?_ | refine below_drewN ?_ _ | refine balloc ?_ _ | refine Below.setCell ?_ (by first | (simp; done) | (simp; omega) | omega) _ | refine bchain (by assumption) ?_))
  have k0 := bblock hB4 k0
  have r := bblock hB4 r
  have s := bblock hB4 s
  have t : w4.heap[w3.heap.size]? = some (.cells #[.int .i64 kk, .int .i64 cc, .int .i64 ff] 23 (0, 0)) := bblock hb4 (by repeat (first | exact alloc_at _ (by simp) | refine alloc_lt _ ?_))
  have hw4 := bchain hB4 hw3
  clear hz_k0 hz_r hz_s
  have hz_k0 : w.heap.size < w4.heap.size := (Array.getElem?_eq_some_iff.1 k0).1
  have hz_r : w.heap.size + 1 < w4.heap.size := (Array.getElem?_eq_some_iff.1 r).1
  have hz_s : w1.heap.size < w4.heap.size := (Array.getElem?_eq_some_iff.1 s).1
  have hz_t : w3.heap.size < w4.heap.size := (Array.getElem?_eq_some_iff.1 t).1
  clear hB4
  clear k0_0 k0_1 k0_2 k0_3 k0_4 k0_5 r_0 r_1 r_2 r_f s_0 s_1 s_2
  have k0_0 : w4.cell? ⟨w.heap.size, 0, none⟩ = some (.int .i64 0) := by rw [cell_of_block k0]; rfl
  have k0_1 : w4.cell? ⟨w.heap.size, 1, none⟩ = some (.int .i64 lo) := by rw [cell_of_block k0]; rfl
  have k0_2 : w4.cell? ⟨w.heap.size, 2, none⟩ = some (.slice aO nO cO) := by rw [cell_of_block k0]; rfl
  have k0_3 : w4.cell? ⟨w.heap.size, 3, none⟩ = some (.int .i64 16777216) := by rw [cell_of_block k0]; rfl
  have k0_4 : w4.cell? ⟨w.heap.size, 4, none⟩ = some (.int .i64 ly) := by rw [cell_of_block k0]; rfl
  have k0_5 : w4.cell? ⟨w.heap.size, 5, none⟩ = some (.slice aY nY cY) := by rw [cell_of_block k0]; rfl
  have r_0 : w4.cell? ⟨w.heap.size + 1, 0, none⟩ = some (.int .i64 0) := by rw [cell_of_block r]; rfl
  have r_1 : w4.cell? ⟨w.heap.size + 1, 1, none⟩ = some (.int .i64 0) := by rw [cell_of_block r]; rfl
  have r_2 : w4.cell? ⟨w.heap.size + 1, 2, none⟩ = some (.int .i64 0) := by rw [cell_of_block r]; rfl
  have r_f : ∀ i, w4.frozen? ⟨w.heap.size + 1, i, none⟩ = false := frozen_of_block r
  have s_0 : w4.cell? ⟨w1.heap.size, 0, none⟩ = some (.int .i64 bs) := by rw [cell_of_block s]; rfl
  have s_1 : w4.cell? ⟨w1.heap.size, 1, none⟩ = some (.int .i64 lm) := by rw [cell_of_block s]; rfl
  have s_2 : w4.cell? ⟨w1.heap.size, 2, none⟩ = some (.slice A n cap) := by rw [cell_of_block s]; rfl
  have t_0 : w4.cell? ⟨w3.heap.size, 0, none⟩ = some (.int .i64 kk) := by rw [cell_of_block t]; rfl
  have t_1 : w4.cell? ⟨w3.heap.size, 1, none⟩ = some (.int .i64 cc) := by rw [cell_of_block t]; rfl
  have t_2 : w4.cell? ⟨w3.heap.size, 2, none⟩ = some (.int .i64 ff) := by rw [cell_of_block t]; rfl
  have hov : ∀ x, Below w.heap.size w (over w4 x) := fun x => bchain (over_below _ x) hw4
  go_wp2_with fail
  have o_k0_0 : ∀ x, (over w4 x).cell? ⟨w.heap.size, 0, none⟩ = some (.int .i64 0) := over_cell (by assumption)
  have o_k0_1 : ∀ x, (over w4 x).cell? ⟨w.heap.size, 1, none⟩ = some (.int .i64 lo) := over_cell (by assumption)
  have o_k0_2 : ∀ x, (over w4 x).cell? ⟨w.heap.size, 2, none⟩ = some (.slice aO nO cO) := over_cell (by assumption)
  have o_k0_3 : ∀ x, (over w4 x).cell? ⟨w.heap.size, 3, none⟩ = some (.int .i64 16777216) := over_cell (by assumption)
  have o_k0_4 : ∀ x, (over w4 x).cell? ⟨w.heap.size, 4, none⟩ = some (.int .i64 ly) := over_cell (by assumption)
  have o_k0_5 : ∀ x, (over w4 x).cell? ⟨w.heap.size, 5, none⟩ = some (.slice aY nY cY) := over_cell (by assumption)
  have o_r_0 : ∀ x, (over w4 x).cell? ⟨w.heap.size + 1, 0, none⟩ = some (.int .i64 0) := over_cell (by assumption)
  have o_r_1 : ∀ x, (over w4 x).cell? ⟨w.heap.size + 1, 1, none⟩ = some (.int .i64 0) := over_cell (by assumption)
  have o_r_2 : ∀ x, (over w4 x).cell? ⟨w.heap.size + 1, 2, none⟩ = some (.int .i64 0) := over_cell (by assumption)
  have o_s_0 : ∀ x, (over w4 x).cell? ⟨w1.heap.size, 0, none⟩ = some (.int .i64 bs) := over_cell (by assumption)
  have o_s_1 : ∀ x, (over w4 x).cell? ⟨w1.heap.size, 1, none⟩ = some (.int .i64 lm) := over_cell (by assumption)
  have o_s_2 : ∀ x, (over w4 x).cell? ⟨w1.heap.size, 2, none⟩ = some (.slice A n cap) := over_cell (by assumption)
  have o_t_0 : ∀ x, (over w4 x).cell? ⟨w3.heap.size, 0, none⟩ = some (.int .i64 kk) := over_cell (by assumption)
  have o_t_1 : ∀ x, (over w4 x).cell? ⟨w3.heap.size, 1, none⟩ = some (.int .i64 cc) := over_cell (by assumption)
  have o_t_2 : ∀ x, (over w4 x).cell? ⟨w3.heap.size, 2, none⟩ = some (.int .i64 ff) := over_cell (by assumption)
  (refine wp_region_over (by kernel_rfl) (by kernel_rfl) ?_); (repeat (go_big_quiet_step ((first | (go_at_call 67; exact calls_over (hI _)) | (go_at_call 69; exact calls_over (hW _)) | (go_at_call 68; exact calls_over (hC1 _ (hov _))))))); (refine wpQuiet_nil ?_)
  intro w5 hb5
  clear o_k0_0 o_k0_1 o_k0_2 o_k0_3 o_k0_4 o_k0_5 o_r_0 o_r_1 o_r_2 o_s_0 o_s_1 o_s_2 o_t_0 o_t_1 o_t_2
  have hB5 : Below w4.heap.size w4 w5 := by (repeat (first | exact Below.refl _ _ | assumption | refine Below.drew ?_ | refine below_drewN ?_ _ | refine balloc ?_ _ | refine Below.setCell ?_ (by first | (simp; done) | (simp; omega) | omega) _ | refine bchain (by assumption) ?_))
  have k0 := bblock hB5 k0
  have r := bblock hB5 r
  have s := bblock hB5 s
  have t := bblock hB5 t
  have hw5 := bchain hB5 hw4
  clear hz_k0 hz_r hz_s hz_t
  have hz_k0 : w.heap.size < w5.heap.size := (Array.getElem?_eq_some_iff.1 k0).1
  have hz_r : w.heap.size + 1 < w5.heap.size := (Array.getElem?_eq_some_iff.1 r).1
  have hz_s : w1.heap.size < w5.heap.size := (Array.getElem?_eq_some_iff.1 s).1
  have hz_t : w3.heap.size < w5.heap.size := (Array.getElem?_eq_some_iff.1 t).1
  clear hB5
  clear k0_0 k0_1 k0_2 k0_3 k0_4 k0_5 r_0 r_1 r_2 r_f s_0 s_1 s_2 t_0 t_1 t_2
  have k0_0 : w5.cell? ⟨w.heap.size, 0, none⟩ = some (.int .i64 0) := by rw [cell_of_block k0]; rfl
  have k0_1 : w5.cell? ⟨w.heap.size, 1, none⟩ = some (.int .i64 lo) := by rw [cell_of_block k0]; rfl
  have k0_2 : w5.cell? ⟨w.heap.size, 2, none⟩ = some (.slice aO nO cO) := by rw [cell_of_block k0]; rfl
  have k0_3 : w5.cell? ⟨w.heap.size, 3, none⟩ = some (.int .i64 16777216) := by rw [cell_of_block k0]; rfl
  have k0_4 : w5.cell? ⟨w.heap.size, 4, none⟩ = some (.int .i64 ly) := by rw [cell_of_block k0]; rfl
  have k0_5 : w5.cell? ⟨w.heap.size, 5, none⟩ = some (.slice aY nY cY) := by rw [cell_of_block k0]; rfl
  have r_0 : w5.cell? ⟨w.heap.size + 1, 0, none⟩ = some (.int .i64 0) := by rw [cell_of_block r]; rfl
  have r_1 : w5.cell? ⟨w.heap.size + 1, 1, none⟩ = some (.int .i64 0) := by rw [cell_of_block r]; rfl
  have r_2 : w5.cell? ⟨w.heap.size + 1, 2, none⟩ = some (.int .i64 0) := by rw [cell_of_block r]; rfl
  have r_f : ∀ i, w5.frozen? ⟨w.heap.size + 1, i, none⟩ = false := frozen_of_block r
  have s_0 : w5.cell? ⟨w1.heap.size, 0, none⟩ = some (.int .i64 bs) := by rw [cell_of_block s]; rfl
  have s_1 : w5.cell? ⟨w1.heap.size, 1, none⟩ = some (.int .i64 lm) := by rw [cell_of_block s]; rfl
  have s_2 : w5.cell? ⟨w1.heap.size, 2, none⟩ = some (.slice A n cap) := by rw [cell_of_block s]; rfl
  have t_0 : w5.cell? ⟨w3.heap.size, 0, none⟩ = some (.int .i64 kk) := by rw [cell_of_block t]; rfl
  have t_1 : w5.cell? ⟨w3.heap.size, 1, none⟩ = some (.int .i64 cc) := by rw [cell_of_block t]; rfl
  have t_2 : w5.cell? ⟨w3.heap.size, 2, none⟩ = some (.int .i64 ff) := by rw [cell_of_block t]; rfl
  go_wp2
  exact bodyPost_ret (v := .tuple #[.agg #[.int .i64 0, .int .i64 0, .int .i64 0], .int .i64 11]) (by simp [results, Try.results31, go_sem, k0_0, k0_1, k0_2, k0_3, k0_4, k0_5, r_0, r_1, r_2, r_f, s_0, s_1, s_2, t_0, t_1, t_2, hz_k0, hz_r, hz_s, hz_t]) rfl ⟨rfl, by (repeat (first | exact Below.refl _ _ | assumption | refine Below.drew ?_ | refine below_drewN ?_ _ | refine balloc ?_ _ | refine Below.setCell ?_ (by first | (simp; done) | (simp; omega) | omega) _ | refine bchain (by assumption) ?_))⟩
set_option maxRecDepth 100000 in
set_option maxHeartbeats 2000000 in
theorem rhdr_E {w : World} {aO : Option Addr} {nO cO : Nat} {aY : Option Addr} {nY cY : Nat} {lo ly : Int} {A : Option Addr} {n cap : Nat} {bs lm : Int} {ws : List Int} {g : Option Nat} {a : Int} (hP : ∀ W, Below w.heap.size w W → Calls Try.prog 65 #[.agg #[.int .i64 0, .int .i64 lo, .slice aO nO cO, .int .i64 16777216, .int .i64 ly, .slice aY nY cY], .int .i64 a] W fun e w' => e = .returned (.agg #[.int .i64 bs, .int .i64 lm, .slice A n cap]) ∧ Below W.heap.size W w') (hs : ∀ W, Below w.heap.size w W → MdAt W (.agg #[.int .i64 bs, .int .i64 lm, .slice A n cap]) bs lm ws g) (hk : SpOk bs lm ws) (hn : ws.length = n) (h : inB bs ws.length a = true) (h2 : inB bs ws.length (a + 1) = true) (hd : decB (ldW bs ws a) = true) (hi : didB (ldW bs ws (a + 1)) = true) (hc : inB bs ws.length (a + wordsI (decF (ldW bs ws a)) - 1) = true) :
    Calls Try.prog 31 #[.agg #[.int .i64 0, .int .i64 lo, .slice aO nO cO, .int .i64 16777216, .int .i64 ly, .slice aY nY cY], .int .i64 a] w fun e w' => e = .returned (.tuple #[.agg #[.int .i64 (decK (ldW bs ws a)), .int .i64 (decC (ldW bs ws a)), .int .i64 (decF (ldW bs ws a))], .int .i64 0]) ∧ Below w.heap.size w w' := by
  have b0 := hk.b0
  have b1 := hk.top
  have b2 := hk.lm1
  have hL := fun W (h : Below w.heap.size w W) (c : Int) => rload_any (hs W h) hk hn c
  have hC := fun W (h : Below w.heap.size w W) (c : Int) => rcontains_any (hs W h) hk c
  have a01 := inB_iff.1 h
  rw [hn] at a01
  obtain ⟨a0, a1⟩ := a01
  have e1 : ioE bs ws a = 0 := by unfold ioE; rw [h]; rfl
  have hL1 := fun W h => hL W h a
  rw [e1] at hL1
  have hL2 := fun W h => hL W h (a + 1)
  have hx := ldU hk a
  have hy := ldU hk (a + 1)
  have e2 : ioE bs ws (a + 1) = 0 := by unfold ioE; rw [h2]; rfl
  rw [e2] at hL2
  generalize ldW bs ws a = x at *
  generalize ldW bs ws (a + 1) = y at *
  have hD := fun W => rdecode_yes x hx hd W
  have hI := fun W => rdecodeID_yes y hy hi W
  have hW := fun W => rwords_yes (decK x) (decC x) (decF x) (decB_iff.1 hd).1 W
  have hC1 := fun W h => hC W h (a + wordsI (decF x) - 1)
  rw [hc] at hC1
  have d5 := idB_iff.1 (show idB (didM y) (didS y) = true from hi)
  obtain ⟨y0, y1, y2⟩ := wordsI_bd (decB_iff.1 hd).1
  generalize didM y = ym at *
  generalize didS y = ys at *
  generalize decK x = kk at *
  generalize decC x = cc at *
  generalize decF x = ff at *
  generalize wordsI ff = sz at *
  have wr1 : IntKind.i64.wrap (a + sz) = a + sz := IntWalk.i64_in _ (by omega)
  have wr2 : IntKind.i64.wrap (a + sz - 1) = a + sz - 1 := IntWalk.i64_in _ (by omega)
  clear h h2 e1 e2 hL hC hx hy hd hi hc
  rw [hn] at b1
  clear hs hk hn
  have hw0 : Below w.heap.size w w := Below.refl _ _
  go_enter Try.func31, Try.ntmps31
  go_wp2_with fail
  refine (hP _ (by (repeat (first | exact Below.refl _ _ | assumption | refine Below.drew ?_ | refine below_drewN ?_ _ | refine balloc ?_ _ | refine Below.setCell ?_ (by first | (simp; done) | (simp; omega) | omega) _ | refine bchain (by assumption) ?_)))).mono ?_
  rintro e w1 ⟨rfl, hb1⟩
  have hB1 : Below w.heap.size w w1 := by (repeat (first | exact Below.refl _ _ | assumption | refine Below.drew ?_ | refine below_drewN ?_ _ | refine balloc ?_ _ | refine Below.setCell ?_ (by first | (simp; done) | (simp; omega) | omega) _ | refine bchain (by assumption) ?_))
  have k0 : w1.heap[w.heap.size]? = some (.cells #[.int .i64 0, .int .i64 lo, .slice aO nO cO, .int .i64 16777216, .int .i64 ly, .slice aY nY cY] 35 (0, 0)) := bblock hb1 (by repeat (first | exact alloc_at _ (by simp) | refine alloc_lt _ ?_))
  have r : w1.heap[w.heap.size + 1]? = some (.cells #[.int .i64 0, .int .i64 0, .int .i64 0] 23 (0, 0)) := bblock hb1 (by repeat (first | exact alloc_at _ (by simp) | refine alloc_lt _ ?_))
  have hw1 := bchain hB1 hw0
  have hz_k0 : w.heap.size < w1.heap.size := (Array.getElem?_eq_some_iff.1 k0).1
  have hz_r : w.heap.size + 1 < w1.heap.size := (Array.getElem?_eq_some_iff.1 r).1
  clear hB1
  have k0_0 : w1.cell? ⟨w.heap.size, 0, none⟩ = some (.int .i64 0) := by rw [cell_of_block k0]; rfl
  have k0_1 : w1.cell? ⟨w.heap.size, 1, none⟩ = some (.int .i64 lo) := by rw [cell_of_block k0]; rfl
  have k0_2 : w1.cell? ⟨w.heap.size, 2, none⟩ = some (.slice aO nO cO) := by rw [cell_of_block k0]; rfl
  have k0_3 : w1.cell? ⟨w.heap.size, 3, none⟩ = some (.int .i64 16777216) := by rw [cell_of_block k0]; rfl
  have k0_4 : w1.cell? ⟨w.heap.size, 4, none⟩ = some (.int .i64 ly) := by rw [cell_of_block k0]; rfl
  have k0_5 : w1.cell? ⟨w.heap.size, 5, none⟩ = some (.slice aY nY cY) := by rw [cell_of_block k0]; rfl
  have r_0 : w1.cell? ⟨w.heap.size + 1, 0, none⟩ = some (.int .i64 0) := by rw [cell_of_block r]; rfl
  have r_1 : w1.cell? ⟨w.heap.size + 1, 1, none⟩ = some (.int .i64 0) := by rw [cell_of_block r]; rfl
  have r_2 : w1.cell? ⟨w.heap.size + 1, 2, none⟩ = some (.int .i64 0) := by rw [cell_of_block r]; rfl
  have r_f : ∀ i, w1.frozen? ⟨w.heap.size + 1, i, none⟩ = false := frozen_of_block r
  go_wp2_with fail
  refine (hL1 _ (by (repeat (first | exact Below.refl _ _ | assumption | refine Below.drew ?_ | refine below_drewN ?_ _ | refine balloc ?_ _ | refine Below.setCell ?_ (by first | (simp; done) | (simp; omega) | omega) _ | refine bchain (by assumption) ?_)))).mono ?_
  rintro e w2 ⟨rfl, hb2⟩
  have hB2 : Below w1.heap.size w1 w2 := by (repeat (first | exact Below.refl _ _ | assumption | refine Below.drew ?_ | refine below_drewN ?_ _ | refine balloc ?_ _ | refine Below.setCell ?_ (by first | (simp; done) | (simp; omega) | omega) _ | refine bchain (by assumption) ?_))
  have k0 := bblock hB2 k0
  have r := bblock hB2 r
  have s : w2.heap[w1.heap.size]? = some (.cells #[.int .i64 bs, .int .i64 lm, .slice A n cap] 33 (0, 0)) := bblock hb2 (by repeat (first | exact alloc_at _ (by simp) | refine alloc_lt _ ?_))
  have hw2 := bchain hB2 hw1
  clear hz_k0 hz_r
  have hz_k0 : w.heap.size < w2.heap.size := (Array.getElem?_eq_some_iff.1 k0).1
  have hz_r : w.heap.size + 1 < w2.heap.size := (Array.getElem?_eq_some_iff.1 r).1
  have hz_s : w1.heap.size < w2.heap.size := (Array.getElem?_eq_some_iff.1 s).1
  clear hB2
  clear k0_0 k0_1 k0_2 k0_3 k0_4 k0_5 r_0 r_1 r_2 r_f
  have k0_0 : w2.cell? ⟨w.heap.size, 0, none⟩ = some (.int .i64 0) := by rw [cell_of_block k0]; rfl
  have k0_1 : w2.cell? ⟨w.heap.size, 1, none⟩ = some (.int .i64 lo) := by rw [cell_of_block k0]; rfl
  have k0_2 : w2.cell? ⟨w.heap.size, 2, none⟩ = some (.slice aO nO cO) := by rw [cell_of_block k0]; rfl
  have k0_3 : w2.cell? ⟨w.heap.size, 3, none⟩ = some (.int .i64 16777216) := by rw [cell_of_block k0]; rfl
  have k0_4 : w2.cell? ⟨w.heap.size, 4, none⟩ = some (.int .i64 ly) := by rw [cell_of_block k0]; rfl
  have k0_5 : w2.cell? ⟨w.heap.size, 5, none⟩ = some (.slice aY nY cY) := by rw [cell_of_block k0]; rfl
  have r_0 : w2.cell? ⟨w.heap.size + 1, 0, none⟩ = some (.int .i64 0) := by rw [cell_of_block r]; rfl
  have r_1 : w2.cell? ⟨w.heap.size + 1, 1, none⟩ = some (.int .i64 0) := by rw [cell_of_block r]; rfl
  have r_2 : w2.cell? ⟨w.heap.size + 1, 2, none⟩ = some (.int .i64 0) := by rw [cell_of_block r]; rfl
  have r_f : ∀ i, w2.frozen? ⟨w.heap.size + 1, i, none⟩ = false := frozen_of_block r
  have s_0 : w2.cell? ⟨w1.heap.size, 0, none⟩ = some (.int .i64 bs) := by rw [cell_of_block s]; rfl
  have s_1 : w2.cell? ⟨w1.heap.size, 1, none⟩ = some (.int .i64 lm) := by rw [cell_of_block s]; rfl
  have s_2 : w2.cell? ⟨w1.heap.size, 2, none⟩ = some (.slice A n cap) := by rw [cell_of_block s]; rfl
  go_wp2_with fail
  refine (hD _).mono ?_
  rintro e w3 ⟨rfl, hb3⟩
  have hB3 : Below w2.heap.size w2 w3 := by (repeat (first | exact Below.refl _ _ | assumption | refine Below.drew ?_ | refine below_drewN ?_ _ | refine balloc ?_ _ | refine Below.setCell ?_ (by first | (simp; done) | (simp; omega) | omega) _ | refine bchain (by assumption) ?_))
  have k0 := bblock hB3 k0
  have r := bblock hB3 r
  have s := bblock hB3 s
  have hw3 := bchain hB3 hw2
  clear hz_k0 hz_r hz_s
  have hz_k0 : w.heap.size < w3.heap.size := (Array.getElem?_eq_some_iff.1 k0).1
  have hz_r : w.heap.size + 1 < w3.heap.size := (Array.getElem?_eq_some_iff.1 r).1
  have hz_s : w1.heap.size < w3.heap.size := (Array.getElem?_eq_some_iff.1 s).1
  clear hB3
  clear k0_0 k0_1 k0_2 k0_3 k0_4 k0_5 r_0 r_1 r_2 r_f s_0 s_1 s_2
  have k0_0 : w3.cell? ⟨w.heap.size, 0, none⟩ = some (.int .i64 0) := by rw [cell_of_block k0]; rfl
  have k0_1 : w3.cell? ⟨w.heap.size, 1, none⟩ = some (.int .i64 lo) := by rw [cell_of_block k0]; rfl
  have k0_2 : w3.cell? ⟨w.heap.size, 2, none⟩ = some (.slice aO nO cO) := by rw [cell_of_block k0]; rfl
  have k0_3 : w3.cell? ⟨w.heap.size, 3, none⟩ = some (.int .i64 16777216) := by rw [cell_of_block k0]; rfl
  have k0_4 : w3.cell? ⟨w.heap.size, 4, none⟩ = some (.int .i64 ly) := by rw [cell_of_block k0]; rfl
  have k0_5 : w3.cell? ⟨w.heap.size, 5, none⟩ = some (.slice aY nY cY) := by rw [cell_of_block k0]; rfl
  have r_0 : w3.cell? ⟨w.heap.size + 1, 0, none⟩ = some (.int .i64 0) := by rw [cell_of_block r]; rfl
  have r_1 : w3.cell? ⟨w.heap.size + 1, 1, none⟩ = some (.int .i64 0) := by rw [cell_of_block r]; rfl
  have r_2 : w3.cell? ⟨w.heap.size + 1, 2, none⟩ = some (.int .i64 0) := by rw [cell_of_block r]; rfl
  have r_f : ∀ i, w3.frozen? ⟨w.heap.size + 1, i, none⟩ = false := frozen_of_block r
  have s_0 : w3.cell? ⟨w1.heap.size, 0, none⟩ = some (.int .i64 bs) := by rw [cell_of_block s]; rfl
  have s_1 : w3.cell? ⟨w1.heap.size, 1, none⟩ = some (.int .i64 lm) := by rw [cell_of_block s]; rfl
  have s_2 : w3.cell? ⟨w1.heap.size, 2, none⟩ = some (.slice A n cap) := by rw [cell_of_block s]; rfl
  go_wp2_with fail
  refine (hL2 _ (by (repeat (first | exact Below.refl _ _ | assumption | refine Below.drew ?_ | refine below_drewN ?_ _ | refine balloc ?_ _ | refine Below.setCell ?_ (by first | (simp; done) | (simp; omega) | omega) _ | refine bchain (by assumption) ?_)))).mono ?_
  rintro e w4 ⟨rfl, hb4⟩
  have hB4 : Below w3.heap.size w3 w4 := by (repeat (first | exact Below.refl _ _ | assumption | refine Below.drew ?_ | refine below_drewN ?_ _ | refine balloc ?_ _ | refine Below.setCell ?_ (by first | (simp; done) | (simp; omega) | omega) _ | refine bchain (by assumption) ?_))
  have k0 := bblock hB4 k0
  have r := bblock hB4 r
  have s := bblock hB4 s
  have t : w4.heap[w3.heap.size]? = some (.cells #[.int .i64 kk, .int .i64 cc, .int .i64 ff] 23 (0, 0)) := bblock hb4 (by repeat (first | exact alloc_at _ (by simp) | refine alloc_lt _ ?_))
  have hw4 := bchain hB4 hw3
  clear hz_k0 hz_r hz_s
  have hz_k0 : w.heap.size < w4.heap.size := (Array.getElem?_eq_some_iff.1 k0).1
  have hz_r : w.heap.size + 1 < w4.heap.size := (Array.getElem?_eq_some_iff.1 r).1
  have hz_s : w1.heap.size < w4.heap.size := (Array.getElem?_eq_some_iff.1 s).1
  have hz_t : w3.heap.size < w4.heap.size := (Array.getElem?_eq_some_iff.1 t).1
  clear hB4
  clear k0_0 k0_1 k0_2 k0_3 k0_4 k0_5 r_0 r_1 r_2 r_f s_0 s_1 s_2
  have k0_0 : w4.cell? ⟨w.heap.size, 0, none⟩ = some (.int .i64 0) := by rw [cell_of_block k0]; rfl
  have k0_1 : w4.cell? ⟨w.heap.size, 1, none⟩ = some (.int .i64 lo) := by rw [cell_of_block k0]; rfl
  have k0_2 : w4.cell? ⟨w.heap.size, 2, none⟩ = some (.slice aO nO cO) := by rw [cell_of_block k0]; rfl
  have k0_3 : w4.cell? ⟨w.heap.size, 3, none⟩ = some (.int .i64 16777216) := by rw [cell_of_block k0]; rfl
  have k0_4 : w4.cell? ⟨w.heap.size, 4, none⟩ = some (.int .i64 ly) := by rw [cell_of_block k0]; rfl
  have k0_5 : w4.cell? ⟨w.heap.size, 5, none⟩ = some (.slice aY nY cY) := by rw [cell_of_block k0]; rfl
  have r_0 : w4.cell? ⟨w.heap.size + 1, 0, none⟩ = some (.int .i64 0) := by rw [cell_of_block r]; rfl
  have r_1 : w4.cell? ⟨w.heap.size + 1, 1, none⟩ = some (.int .i64 0) := by rw [cell_of_block r]; rfl
  have r_2 : w4.cell? ⟨w.heap.size + 1, 2, none⟩ = some (.int .i64 0) := by rw [cell_of_block r]; rfl
  have r_f : ∀ i, w4.frozen? ⟨w.heap.size + 1, i, none⟩ = false := frozen_of_block r
  have s_0 : w4.cell? ⟨w1.heap.size, 0, none⟩ = some (.int .i64 bs) := by rw [cell_of_block s]; rfl
  have s_1 : w4.cell? ⟨w1.heap.size, 1, none⟩ = some (.int .i64 lm) := by rw [cell_of_block s]; rfl
  have s_2 : w4.cell? ⟨w1.heap.size, 2, none⟩ = some (.slice A n cap) := by rw [cell_of_block s]; rfl
  have t_0 : w4.cell? ⟨w3.heap.size, 0, none⟩ = some (.int .i64 kk) := by rw [cell_of_block t]; rfl
  have t_1 : w4.cell? ⟨w3.heap.size, 1, none⟩ = some (.int .i64 cc) := by rw [cell_of_block t]; rfl
  have t_2 : w4.cell? ⟨w3.heap.size, 2, none⟩ = some (.int .i64 ff) := by rw [cell_of_block t]; rfl
  have hov : ∀ x, Below w.heap.size w (over w4 x) := fun x => bchain (over_below _ x) hw4
  go_wp2_with fail
  have o_k0_0 : ∀ x, (over w4 x).cell? ⟨w.heap.size, 0, none⟩ = some (.int .i64 0) := over_cell (by assumption)
  have o_k0_1 : ∀ x, (over w4 x).cell? ⟨w.heap.size, 1, none⟩ = some (.int .i64 lo) := over_cell (by assumption)
  have o_k0_2 : ∀ x, (over w4 x).cell? ⟨w.heap.size, 2, none⟩ = some (.slice aO nO cO) := over_cell (by assumption)
  have o_k0_3 : ∀ x, (over w4 x).cell? ⟨w.heap.size, 3, none⟩ = some (.int .i64 16777216) := over_cell (by assumption)
  have o_k0_4 : ∀ x, (over w4 x).cell? ⟨w.heap.size, 4, none⟩ = some (.int .i64 ly) := over_cell (by assumption)
  have o_k0_5 : ∀ x, (over w4 x).cell? ⟨w.heap.size, 5, none⟩ = some (.slice aY nY cY) := over_cell (by assumption)
  have o_r_0 : ∀ x, (over w4 x).cell? ⟨w.heap.size + 1, 0, none⟩ = some (.int .i64 0) := over_cell (by assumption)
  have o_r_1 : ∀ x, (over w4 x).cell? ⟨w.heap.size + 1, 1, none⟩ = some (.int .i64 0) := over_cell (by assumption)
  have o_r_2 : ∀ x, (over w4 x).cell? ⟨w.heap.size + 1, 2, none⟩ = some (.int .i64 0) := over_cell (by assumption)
  have o_s_0 : ∀ x, (over w4 x).cell? ⟨w1.heap.size, 0, none⟩ = some (.int .i64 bs) := over_cell (by assumption)
  have o_s_1 : ∀ x, (over w4 x).cell? ⟨w1.heap.size, 1, none⟩ = some (.int .i64 lm) := over_cell (by assumption)
  have o_s_2 : ∀ x, (over w4 x).cell? ⟨w1.heap.size, 2, none⟩ = some (.slice A n cap) := over_cell (by assumption)
  have o_t_0 : ∀ x, (over w4 x).cell? ⟨w3.heap.size, 0, none⟩ = some (.int .i64 kk) := over_cell (by assumption)
  have o_t_1 : ∀ x, (over w4 x).cell? ⟨w3.heap.size, 1, none⟩ = some (.int .i64 cc) := over_cell (by assumption)
  have o_t_2 : ∀ x, (over w4 x).cell? ⟨w3.heap.size, 2, none⟩ = some (.int .i64 ff) := over_cell (by assumption)
  (refine wp_region_over (by kernel_rfl) (by kernel_rfl) ?_); (repeat (go_big_quiet_step ((first | (go_at_call 67; exact calls_over (hI _)) | (go_at_call 69; exact calls_over (hW _)) | (go_at_call 68; exact calls_over (hC1 _ (hov _))))))); (refine wpQuiet_nil ?_)
  intro w5 hb5
  clear o_k0_0 o_k0_1 o_k0_2 o_k0_3 o_k0_4 o_k0_5 o_r_0 o_r_1 o_r_2 o_s_0 o_s_1 o_s_2 o_t_0 o_t_1 o_t_2
  have hB5 : Below w4.heap.size w4 w5 := by (repeat (first | exact Below.refl _ _ | assumption | refine Below.drew ?_ | refine below_drewN ?_ _ | refine balloc ?_ _ | refine Below.setCell ?_ (by first | (simp; done) | (simp; omega) | omega) _ | refine bchain (by assumption) ?_))
  have k0 := bblock hB5 k0
  have r := bblock hB5 r
  have s := bblock hB5 s
  have t := bblock hB5 t
  have hw5 := bchain hB5 hw4
  clear hz_k0 hz_r hz_s hz_t
  have hz_k0 : w.heap.size < w5.heap.size := (Array.getElem?_eq_some_iff.1 k0).1
  have hz_r : w.heap.size + 1 < w5.heap.size := (Array.getElem?_eq_some_iff.1 r).1
  have hz_s : w1.heap.size < w5.heap.size := (Array.getElem?_eq_some_iff.1 s).1
  have hz_t : w3.heap.size < w5.heap.size := (Array.getElem?_eq_some_iff.1 t).1
  clear hB5
  clear k0_0 k0_1 k0_2 k0_3 k0_4 k0_5 r_0 r_1 r_2 r_f s_0 s_1 s_2 t_0 t_1 t_2
  have k0_0 : w5.cell? ⟨w.heap.size, 0, none⟩ = some (.int .i64 0) := by rw [cell_of_block k0]; rfl
  have k0_1 : w5.cell? ⟨w.heap.size, 1, none⟩ = some (.int .i64 lo) := by rw [cell_of_block k0]; rfl
  have k0_2 : w5.cell? ⟨w.heap.size, 2, none⟩ = some (.slice aO nO cO) := by rw [cell_of_block k0]; rfl
  have k0_3 : w5.cell? ⟨w.heap.size, 3, none⟩ = some (.int .i64 16777216) := by rw [cell_of_block k0]; rfl
  have k0_4 : w5.cell? ⟨w.heap.size, 4, none⟩ = some (.int .i64 ly) := by rw [cell_of_block k0]; rfl
  have k0_5 : w5.cell? ⟨w.heap.size, 5, none⟩ = some (.slice aY nY cY) := by rw [cell_of_block k0]; rfl
  have r_0 : w5.cell? ⟨w.heap.size + 1, 0, none⟩ = some (.int .i64 0) := by rw [cell_of_block r]; rfl
  have r_1 : w5.cell? ⟨w.heap.size + 1, 1, none⟩ = some (.int .i64 0) := by rw [cell_of_block r]; rfl
  have r_2 : w5.cell? ⟨w.heap.size + 1, 2, none⟩ = some (.int .i64 0) := by rw [cell_of_block r]; rfl
  have r_f : ∀ i, w5.frozen? ⟨w.heap.size + 1, i, none⟩ = false := frozen_of_block r
  have s_0 : w5.cell? ⟨w1.heap.size, 0, none⟩ = some (.int .i64 bs) := by rw [cell_of_block s]; rfl
  have s_1 : w5.cell? ⟨w1.heap.size, 1, none⟩ = some (.int .i64 lm) := by rw [cell_of_block s]; rfl
  have s_2 : w5.cell? ⟨w1.heap.size, 2, none⟩ = some (.slice A n cap) := by rw [cell_of_block s]; rfl
  have t_0 : w5.cell? ⟨w3.heap.size, 0, none⟩ = some (.int .i64 kk) := by rw [cell_of_block t]; rfl
  have t_1 : w5.cell? ⟨w3.heap.size, 1, none⟩ = some (.int .i64 cc) := by rw [cell_of_block t]; rfl
  have t_2 : w5.cell? ⟨w3.heap.size, 2, none⟩ = some (.int .i64 ff) := by rw [cell_of_block t]; rfl
  go_wp2
  exact bodyPost_ret (v := .tuple #[.agg #[.int .i64 kk, .int .i64 cc, .int .i64 ff], .int .i64 0]) (by simp [results, Try.results31, go_sem, k0_0, k0_1, k0_2, k0_3, k0_4, k0_5, r_0, r_1, r_2, r_f, s_0, s_1, s_2, t_0, t_1, t_2, hz_k0, hz_r, hz_s, hz_t]) rfl ⟨rfl, by (repeat (first | exact Below.refl _ _ | assumption | refine Below.drew ?_ | refine below_drewN ?_ _ | refine balloc ?_ _ | refine Below.setCell ?_ (by first | (simp; done) | (simp; omega) | omega) _ | refine bchain (by assumption) ?_))⟩
end Go.Proofs.Ytcmhgjkijegpnaa
namespace Go.Proofs.Ytcmhgjkijegpnaa
open Go.RowKit
set_option linter.unusedSimpArgs false
set_option linter.unusedVariables false

theorem rhdr_of {w : World} {aO : Option Addr} {nO cO : Nat} {aY : Option Addr} {nY cY : Nat} {lo ly : Int} {A : Option Addr} {n cap : Nat} {bs lm : Int} {ws : List Int} {g : Option Nat} {a : Int} (hP : ∀ W, Below w.heap.size w W → Calls Try.prog 65 #[.agg #[.int .i64 0, .int .i64 lo, .slice aO nO cO, .int .i64 16777216, .int .i64 ly, .slice aY nY cY], .int .i64 a] W fun e w' => e = .returned (.agg #[.int .i64 bs, .int .i64 lm, .slice A n cap]) ∧ Below W.heap.size W w') (hs : ∀ W, Below w.heap.size w W → MdAt W (.agg #[.int .i64 bs, .int .i64 lm, .slice A n cap]) bs lm ws g) (hk : SpOk bs lm ws) (hn : ws.length = n) : Calls Try.prog 31 #[.agg #[.int .i64 0, .int .i64 lo, .slice aO nO cO, .int .i64 16777216, .int .i64 ly, .slice aY nY cY], .int .i64 a] w fun e w' => e = .returned (.tuple #[.agg #[.int .i64 (hdK bs ws a), .int .i64 (hdC bs ws a), .int .i64 (hdF bs ws a)], .int .i64 (hdE bs ws a)]) ∧ Below w.heap.size w w' := by
  cases h : inB bs ws.length a
  · obtain ⟨e1, e2, e3, e4⟩ := hd_out h
    rw [e1, e2, e3, e4]
    exact rhdr_out hP hs hk hn h
  · have hob := obB_of h
    cases hd : decB (ldW bs ws a)
    · rw [hd] at hob
      obtain ⟨e1, e2, e3, e4⟩ := hd_bad h (by rw [hob]; simp)
      rw [e1, e2, e3, e4]
      exact rhdr_B hP hs hk hn h hd
    · cases h2 : inB bs ws.length (a + 1)
      · rw [h2] at hob
        obtain ⟨e1, e2, e3, e4⟩ := hd_bad h (by rw [hob]; rfl)
        rw [e1, e2, e3, e4]
        exact rhdr_A hP hs hk hn h hd h2
      · cases hi : didB (ldW bs ws (a + 1))
        · rw [h2, hd, hi] at hob
          obtain ⟨e1, e2, e3, e4⟩ := hd_bad h (by rw [hob]; rfl)
          rw [e1, e2, e3, e4]
          exact rhdr_C hP hs hk hn h h2 hd hi
        · cases hc : inB bs ws.length (a + wordsI (decF (ldW bs ws a)) - 1)
          · rw [h2, hd, hi, hc] at hob
            obtain ⟨e1, e2, e3, e4⟩ := hd_bad h (by rw [hob]; rfl)
            rw [e1, e2, e3, e4]
            exact rhdr_D hP hs hk hn h h2 hd hi hc
          · rw [h2, hd, hi, hc] at hob
            obtain ⟨e1, e2, e3, e4⟩ := hd_ok h (by rw [hob]; rfl)
            rw [e1, e2, e3, e4, ← ld_in h]
            exact rhdr_E hP hs hk hn h h2 hd hi hc
theorem rmhdr_any {w : World} {aO : Option Addr} {nO cO : Nat} {aY : Option Addr} {nY cY : Nat} {lo ly : Int} {wo wy : List Int} {gO gY : Option Nat} (hm : RMem w aO nO cO aY nY cY lo ly wo wy gO gY) (a : Int) : Calls Try.prog 31 #[.agg #[.int .i64 0, .int .i64 lo, .slice aO nO cO, .int .i64 16777216, .int .i64 ly, .slice aY nY cY], .int .i64 a] w fun e w' => e = .returned (.tuple #[.agg #[.int .i64 (HK wo wy a), .int .i64 (HC wo wy a), .int .i64 (HF wo wy a)], .int .i64 (HE wo wy a)]) ∧ Below w.heap.size w w' := by
  unfold HE HK HC HF
  rcases prt_same hm a with ⟨h1, h2, h3⟩ | ⟨h1, h2, h3⟩ | ⟨h1, h2, h3, h4⟩
  · rw [h2, h3]
    exact rhdr_of (fun W H => rpart_O (hm.below H) a h1) (fun W H => (hm.below H).mdO) hm.okO hm.lO
  · rw [h2, h3]
    exact rhdr_of (fun W H => rpart_Y (hm.below H) a h1) (fun W H => (hm.below H).mdY) hm.okY hm.lY
  · rw [h2, h3]
    obtain ⟨e1, e2, e3, e4⟩ := hd_out h1
    rw [e1, e2, e3, e4]
    exact rhdr_out (fun W H => rpart_Y (hm.below H) a h1) (fun W H => (hm.below H).mdY) hm.okY hm.lY h4
set_option maxRecDepth 100000 in
set_option maxHeartbeats 1000000 in
theorem rmload_of {w : World} {aO : Option Addr} {nO cO : Nat} {aY : Option Addr} {nY cY : Nat} {lo ly : Int} {A : Option Addr} {n cap : Nat} {bs lm : Int} {a : Int} (hP : ∀ W, Below w.heap.size w W → Calls Try.prog 65 #[.agg #[.int .i64 0, .int .i64 lo, .slice aO nO cO, .int .i64 16777216, .int .i64 ly, .slice aY nY cY], .int .i64 a] W fun e w' => e = .returned (.agg #[.int .i64 bs, .int .i64 lm, .slice A n cap]) ∧ Below W.heap.size W w') (x y : Int) (hL : ∀ W, Below w.heap.size w W → Calls Try.prog 64 #[.agg #[.int .i64 bs, .int .i64 lm, .slice A n cap], .int .i64 a] W fun e w' => e = .returned (.tuple #[.int .u64 x, .int .i64 y]) ∧ Below W.heap.size W w') :
    Calls Try.prog 30 #[.agg #[.int .i64 0, .int .i64 lo, .slice aO nO cO, .int .i64 16777216, .int .i64 ly, .slice aY nY cY], .int .i64 a] w fun e w' => e = .returned (.tuple #[.int .u64 x, .int .i64 y]) ∧ Below w.heap.size w w' := by
  have hw0 : Below w.heap.size w w := Below.refl _ _
  go_enter Try.func30, Try.ntmps30
  go_wp2_with fail
  refine (hP _ (by (repeat (first | exact Below.refl _ _ | assumption | refine Below.drew ?_ | refine below_drewN ?_ _ | refine balloc ?_ _ | refine Below.setCell ?_ (by first | (simp; done) | (simp; omega) | omega) _ | refine bchain (by assumption) ?_)))).mono ?_
  rintro e w1 ⟨rfl, hb1⟩
  have hB1 : Below w.heap.size w w1 := by (repeat (first | exact Below.refl _ _ | assumption | refine Below.drew ?_ | refine below_drewN ?_ _ | refine balloc ?_ _ | refine Below.setCell ?_ (by first | (simp; done) | (simp; omega) | omega) _ | refine bchain (by assumption) ?_))
  have k0 : w1.heap[w.heap.size]? = some (.cells #[.int .i64 0, .int .i64 lo, .slice aO nO cO, .int .i64 16777216, .int .i64 ly, .slice aY nY cY] 35 (0, 0)) := bblock hb1 (by repeat (first | exact alloc_at _ (by simp) | refine alloc_lt _ ?_))
  have hw1 := bchain hB1 hw0
  have hz_k0 : w.heap.size < w1.heap.size := (Array.getElem?_eq_some_iff.1 k0).1
  clear hB1
  have k0_0 : w1.cell? ⟨w.heap.size, 0, none⟩ = some (.int .i64 0) := by rw [cell_of_block k0]; rfl
  have k0_1 : w1.cell? ⟨w.heap.size, 1, none⟩ = some (.int .i64 lo) := by rw [cell_of_block k0]; rfl
  have k0_2 : w1.cell? ⟨w.heap.size, 2, none⟩ = some (.slice aO nO cO) := by rw [cell_of_block k0]; rfl
  have k0_3 : w1.cell? ⟨w.heap.size, 3, none⟩ = some (.int .i64 16777216) := by rw [cell_of_block k0]; rfl
  have k0_4 : w1.cell? ⟨w.heap.size, 4, none⟩ = some (.int .i64 ly) := by rw [cell_of_block k0]; rfl
  have k0_5 : w1.cell? ⟨w.heap.size, 5, none⟩ = some (.slice aY nY cY) := by rw [cell_of_block k0]; rfl
  go_wp2_with fail
  refine (hL _ (by (repeat (first | exact Below.refl _ _ | assumption | refine Below.drew ?_ | refine below_drewN ?_ _ | refine balloc ?_ _ | refine Below.setCell ?_ (by first | (simp; done) | (simp; omega) | omega) _ | refine bchain (by assumption) ?_)))).mono ?_
  rintro e w2 ⟨rfl, hb2⟩
  have hB2 : Below w1.heap.size w1 w2 := by (repeat (first | exact Below.refl _ _ | assumption | refine Below.drew ?_ | refine below_drewN ?_ _ | refine balloc ?_ _ | refine Below.setCell ?_ (by first | (simp; done) | (simp; omega) | omega) _ | refine bchain (by assumption) ?_))
  have k0 := bblock hB2 k0
  have hw2 := bchain hB2 hw1
  clear hz_k0
  have hz_k0 : w.heap.size < w2.heap.size := (Array.getElem?_eq_some_iff.1 k0).1
  clear hB2
  clear k0_0 k0_1 k0_2 k0_3 k0_4 k0_5
  have k0_0 : w2.cell? ⟨w.heap.size, 0, none⟩ = some (.int .i64 0) := by rw [cell_of_block k0]; rfl
  have k0_1 : w2.cell? ⟨w.heap.size, 1, none⟩ = some (.int .i64 lo) := by rw [cell_of_block k0]; rfl
  have k0_2 : w2.cell? ⟨w.heap.size, 2, none⟩ = some (.slice aO nO cO) := by rw [cell_of_block k0]; rfl
  have k0_3 : w2.cell? ⟨w.heap.size, 3, none⟩ = some (.int .i64 16777216) := by rw [cell_of_block k0]; rfl
  have k0_4 : w2.cell? ⟨w.heap.size, 4, none⟩ = some (.int .i64 ly) := by rw [cell_of_block k0]; rfl
  have k0_5 : w2.cell? ⟨w.heap.size, 5, none⟩ = some (.slice aY nY cY) := by rw [cell_of_block k0]; rfl
  go_wp2
  go_ret2
  exact ⟨rfl, by (repeat (first | exact Below.refl _ _ | assumption | refine Below.drew ?_ | refine below_drewN ?_ _ | refine balloc ?_ _ | refine Below.setCell ?_ (by first | (simp; done) | (simp; omega) | omega) _ | refine bchain (by assumption) ?_))⟩
theorem rmload_any {w : World} {aO : Option Addr} {nO cO : Nat} {aY : Option Addr} {nY cY : Nat} {lo ly : Int} {wo wy : List Int} {gO gY : Option Nat} (hm : RMem w aO nO cO aY nY cY lo ly wo wy gO gY) (a : Int) : Calls Try.prog 30 #[.agg #[.int .i64 0, .int .i64 lo, .slice aO nO cO, .int .i64 16777216, .int .i64 ly, .slice aY nY cY], .int .i64 a] w fun e w' => e = .returned (.tuple #[.int .u64 (LD wo wy a), .int .i64 (LE wo wy a)]) ∧ Below w.heap.size w w' := by
  unfold LD LE
  rcases prt_same hm a with ⟨h1, h2, h3⟩ | ⟨h1, h2, h3⟩ | ⟨h1, h2, h3, h4⟩
  · rw [h2, h3]
    exact rmload_of (lm := lo) (A := aO) (n := nO) (cap := cO) (bs := 0) (fun W H => rpart_O (hm.below H) a h1) _ _ (fun W H => rload_any (hm.below H).mdO hm.okO hm.lO a)
  · rw [h2, h3]
    exact rmload_of (lm := ly) (A := aY) (n := nY) (cap := cY) (bs := 16777216) (fun W H => rpart_Y (hm.below H) a h1) _ _ (fun W H => rload_any (hm.below H).mdY hm.okY hm.lY a)
  · rw [h2, h3]
    have e1 : ldW 0 wo a = ldW 16777216 wy a := by unfold ldW; rw [h1, h4]; rfl
    have e2 : ioE 0 wo a = ioE 16777216 wy a := by unfold ioE; rw [h1, h4]
    rw [e1, e2]
    exact rmload_of (lm := ly) (A := aY) (n := nY) (cap := cY) (bs := 16777216) (fun W H => rpart_Y (hm.below H) a h1) _ _ (fun W H => rload_any (hm.below H).mdY hm.okY hm.lY a)
theorem RMem.partOk {w : World} {aO : Option Addr} {nO cO : Nat} {aY : Option Addr} {nY cY : Nat} {lo ly : Int} {wo wy : List Int} {gO gY : Option Nat} (h : RMem w aO nO cO aY nY cY lo ly wo wy gO gY) (a : Int) : SpOk (bsA a) (lmA lo ly a) (wsA wo wy a) := by
  unfold bsA lmA wsA
  split
  · exact h.okY
  · exact h.okO
theorem RMem.ldU {w : World} {aO : Option Addr} {nO cO : Nat} {aY : Option Addr} {nY cY : Nat} {lo ly : Int} {wo wy : List Int} {gO gY : Option Nat} (h : RMem w aO nO cO aY nY cY lo ly wo wy gO gY) (a : Int) : U64 (LD wo wy a) := Proofs.Ytcmhgjkijegpnaa.ldU (h.partOk a) a
set_option maxRecDepth 100000 in
set_option maxHeartbeats 1000000 in
theorem rmid_no {w : World} {aO : Option Addr} {nO cO : Nat} {aY : Option Addr} {nY cY : Nat} {lo ly : Int} {wo wy : List Int} {gO gY : Option Nat} (hm : RMem w aO nO cO aY nY cY lo ly wo wy gO gY) (a : Int) (he : HE wo wy a ≠ 0) :
    Calls Try.prog 32 #[.agg #[.int .i64 0, .int .i64 lo, .slice aO nO cO, .int .i64 16777216, .int .i64 ly, .slice aY nY cY], .int .i64 a] w fun e w' => e = .returned (.tuple #[.agg #[.int .i64 0, .int .i64 0], .int .i64 (HE wo wy a)]) ∧ Below w.heap.size w w' := by
  have hH := fun W (h : Below w.heap.size w W) => rmhdr_any (hm.below h) a
  generalize HK wo wy a = hk at *
  generalize HC wo wy a = hc at *
  generalize HF wo wy a = hf at *
  generalize HE wo wy a = er at *
  have hb1 : (er != 0) = true := by simpa using he
  clear hm he
  have hw0 : Below w.heap.size w w := Below.refl _ _
  go_enter Try.func32, Try.ntmps32
  go_wp2_with fail
  refine (hH _ (by (repeat (first | exact Below.refl _ _ | assumption | refine Below.drew ?_ | refine below_drewN ?_ _ | refine balloc ?_ _ | refine Below.setCell ?_ (by first | (simp; done) | (simp; omega) | omega) _ | refine bchain (by assumption) ?_)))).mono ?_
  rintro e w1 ⟨rfl, hb1⟩
  have hB1 : Below w.heap.size w w1 := by (repeat (first | exact Below.refl _ _ | assumption | refine Below.drew ?_ | refine below_drewN ?_ _ | refine balloc ?_ _ | refine Below.setCell ?_ (by first | (simp; done) | (simp; omega) | omega) _ | refine bchain (by assumption) ?_))
  have k0 : w1.heap[w.heap.size]? = some (.cells #[.int .i64 0, .int .i64 lo, .slice aO nO cO, .int .i64 16777216, .int .i64 ly, .slice aY nY cY] 35 (0, 0)) := bblock hb1 (by repeat (first | exact alloc_at _ (by simp) | refine alloc_lt _ ?_))
  have r : w1.heap[w.heap.size + 1]? = some (.cells #[.int .i64 0, .int .i64 0] 25 (0, 0)) := bblock hb1 (by repeat (first | exact alloc_at _ (by simp) | refine alloc_lt _ ?_))
  have hw1 := bchain hB1 hw0
  have hz_k0 : w.heap.size < w1.heap.size := (Array.getElem?_eq_some_iff.1 k0).1
  have hz_r : w.heap.size + 1 < w1.heap.size := (Array.getElem?_eq_some_iff.1 r).1
  clear hB1
  have k0_0 : w1.cell? ⟨w.heap.size, 0, none⟩ = some (.int .i64 0) := by rw [cell_of_block k0]; rfl
  have k0_1 : w1.cell? ⟨w.heap.size, 1, none⟩ = some (.int .i64 lo) := by rw [cell_of_block k0]; rfl
  have k0_2 : w1.cell? ⟨w.heap.size, 2, none⟩ = some (.slice aO nO cO) := by rw [cell_of_block k0]; rfl
  have k0_3 : w1.cell? ⟨w.heap.size, 3, none⟩ = some (.int .i64 16777216) := by rw [cell_of_block k0]; rfl
  have k0_4 : w1.cell? ⟨w.heap.size, 4, none⟩ = some (.int .i64 ly) := by rw [cell_of_block k0]; rfl
  have k0_5 : w1.cell? ⟨w.heap.size, 5, none⟩ = some (.slice aY nY cY) := by rw [cell_of_block k0]; rfl
  have r_0 : w1.cell? ⟨w.heap.size + 1, 0, none⟩ = some (.int .i64 0) := by rw [cell_of_block r]; rfl
  have r_1 : w1.cell? ⟨w.heap.size + 1, 1, none⟩ = some (.int .i64 0) := by rw [cell_of_block r]; rfl
  have r_f : ∀ i, w1.frozen? ⟨w.heap.size + 1, i, none⟩ = false := frozen_of_block r
  go_wp2
  exact bodyPost_ret (v := .tuple #[.agg #[.int .i64 0, .int .i64 0], .int .i64 er]) (by simp [results, Try.results32, go_sem, k0_0, k0_1, k0_2, k0_3, k0_4, k0_5, r_0, r_1, r_f, hz_k0, hz_r]) rfl ⟨rfl, by (repeat (first | exact Below.refl _ _ | assumption | refine Below.drew ?_ | refine below_drewN ?_ _ | refine balloc ?_ _ | refine Below.setCell ?_ (by first | (simp; done) | (simp; omega) | omega) _ | refine bchain (by assumption) ?_))⟩
set_option maxRecDepth 100000 in
set_option maxHeartbeats 1000000 in
theorem rmid_yes {w : World} {aO : Option Addr} {nO cO : Nat} {aY : Option Addr} {nY cY : Nat} {lo ly : Int} {wo wy : List Int} {gO gY : Option Nat} (hm : RMem w aO nO cO aY nY cY lo ly wo wy gO gY) (a : Int) (he : HE wo wy a = 0) :
    Calls Try.prog 32 #[.agg #[.int .i64 0, .int .i64 lo, .slice aO nO cO, .int .i64 16777216, .int .i64 ly, .slice aY nY cY], .int .i64 a] w fun e w' => e = .returned (.tuple #[.agg #[.int .i64 (iM (LD wo wy (a + 1))), .int .i64 (iS (LD wo wy (a + 1)))], .int .i64 0]) ∧ Below w.heap.size w w' := by
  have hH := fun W (h : Below w.heap.size w W) => rmhdr_any (hm.below h) a
  have hL := fun W (h : Below w.heap.size w W) => rmload_any (hm.below h) (a + 1)
  have hx := hm.ldU (a + 1)
  have hbd := HE_bd he
  have hk1 := (hm.partOk a).b0
  have hk2 := (hm.partOk a).top
  have hk3 := (hm.partOk a).lm1
  have hx0 : 0 ≤ wordsI (HF wo wy a) := by unfold wordsI; split <;> omega
  have ha : 0 ≤ a ∧ a ≤ 1099511627776 := by omega
  rw [he] at hH
  generalize HK wo wy a = hk at *
  generalize HC wo wy a = hc at *
  generalize HF wo wy a = hf at *
  generalize LD wo wy (a + 1) = x at *
  generalize LE wo wy (a + 1) = y at *
  have hI := fun W => rdecodeID_any x hx W
  generalize iM x = im at *
  generalize iS x = is at *
  clear hm he hx hbd hk1 hk2 hk3 hx0
  have hw0 : Below w.heap.size w w := Below.refl _ _
  go_enter Try.func32, Try.ntmps32
  go_wp2_with fail
  refine (hH _ (by (repeat (first | exact Below.refl _ _ | assumption | refine Below.drew ?_ | refine below_drewN ?_ _ | refine balloc ?_ _ | refine Below.setCell ?_ (by first | (simp; done) | (simp; omega) | omega) _ | refine bchain (by assumption) ?_)))).mono ?_
  rintro e w1 ⟨rfl, hb1⟩
  have hB1 : Below w.heap.size w w1 := by (repeat (first | exact Below.refl _ _ | assumption | refine Below.drew ?_ | refine below_drewN ?_ _ | refine balloc ?_ _ | refine Below.setCell ?_ (by first | (simp; done) | (simp; omega) | omega) _ | refine bchain (by assumption) ?_))
  have k0 : w1.heap[w.heap.size]? = some (.cells #[.int .i64 0, .int .i64 lo, .slice aO nO cO, .int .i64 16777216, .int .i64 ly, .slice aY nY cY] 35 (0, 0)) := bblock hb1 (by repeat (first | exact alloc_at _ (by simp) | refine alloc_lt _ ?_))
  have r : w1.heap[w.heap.size + 1]? = some (.cells #[.int .i64 0, .int .i64 0] 25 (0, 0)) := bblock hb1 (by repeat (first | exact alloc_at _ (by simp) | refine alloc_lt _ ?_))
  have hw1 := bchain hB1 hw0
  have hz_k0 : w.heap.size < w1.heap.size := (Array.getElem?_eq_some_iff.1 k0).1
  have hz_r : w.heap.size + 1 < w1.heap.size := (Array.getElem?_eq_some_iff.1 r).1
  clear hB1
  have k0_0 : w1.cell? ⟨w.heap.size, 0, none⟩ = some (.int .i64 0) := by rw [cell_of_block k0]; rfl
  have k0_1 : w1.cell? ⟨w.heap.size, 1, none⟩ = some (.int .i64 lo) := by rw [cell_of_block k0]; rfl
  have k0_2 : w1.cell? ⟨w.heap.size, 2, none⟩ = some (.slice aO nO cO) := by rw [cell_of_block k0]; rfl
  have k0_3 : w1.cell? ⟨w.heap.size, 3, none⟩ = some (.int .i64 16777216) := by rw [cell_of_block k0]; rfl
  have k0_4 : w1.cell? ⟨w.heap.size, 4, none⟩ = some (.int .i64 ly) := by rw [cell_of_block k0]; rfl
  have k0_5 : w1.cell? ⟨w.heap.size, 5, none⟩ = some (.slice aY nY cY) := by rw [cell_of_block k0]; rfl
  have r_0 : w1.cell? ⟨w.heap.size + 1, 0, none⟩ = some (.int .i64 0) := by rw [cell_of_block r]; rfl
  have r_1 : w1.cell? ⟨w.heap.size + 1, 1, none⟩ = some (.int .i64 0) := by rw [cell_of_block r]; rfl
  have r_f : ∀ i, w1.frozen? ⟨w.heap.size + 1, i, none⟩ = false := frozen_of_block r
  go_wp2_with fail
  refine (hL _ (by (repeat (first | exact Below.refl _ _ | assumption | refine Below.drew ?_ | refine below_drewN ?_ _ | refine balloc ?_ _ | refine Below.setCell ?_ (by first | (simp; done) | (simp; omega) | omega) _ | refine bchain (by assumption) ?_)))).mono ?_
  rintro e w2 ⟨rfl, hb2⟩
  have hB2 : Below w1.heap.size w1 w2 := by (repeat (first | exact Below.refl _ _ | assumption | refine Below.drew ?_ | refine below_drewN ?_ _ | refine balloc ?_ _ | refine Below.setCell ?_ (by first | (simp; done) | (simp; omega) | omega) _ | refine bchain (by assumption) ?_))
  have k0 := bblock hB2 k0
  have r := bblock hB2 r
  have t : w2.heap[w1.heap.size]? = some (.cells #[.int .i64 hk, .int .i64 hc, .int .i64 hf] 23 (0, 0)) := bblock hb2 (by repeat (first | exact alloc_at _ (by simp) | refine alloc_lt _ ?_))
  have hw2 := bchain hB2 hw1
  clear hz_k0 hz_r
  have hz_k0 : w.heap.size < w2.heap.size := (Array.getElem?_eq_some_iff.1 k0).1
  have hz_r : w.heap.size + 1 < w2.heap.size := (Array.getElem?_eq_some_iff.1 r).1
  have hz_t : w1.heap.size < w2.heap.size := (Array.getElem?_eq_some_iff.1 t).1
  clear hB2
  clear k0_0 k0_1 k0_2 k0_3 k0_4 k0_5 r_0 r_1 r_f
  have k0_0 : w2.cell? ⟨w.heap.size, 0, none⟩ = some (.int .i64 0) := by rw [cell_of_block k0]; rfl
  have k0_1 : w2.cell? ⟨w.heap.size, 1, none⟩ = some (.int .i64 lo) := by rw [cell_of_block k0]; rfl
  have k0_2 : w2.cell? ⟨w.heap.size, 2, none⟩ = some (.slice aO nO cO) := by rw [cell_of_block k0]; rfl
  have k0_3 : w2.cell? ⟨w.heap.size, 3, none⟩ = some (.int .i64 16777216) := by rw [cell_of_block k0]; rfl
  have k0_4 : w2.cell? ⟨w.heap.size, 4, none⟩ = some (.int .i64 ly) := by rw [cell_of_block k0]; rfl
  have k0_5 : w2.cell? ⟨w.heap.size, 5, none⟩ = some (.slice aY nY cY) := by rw [cell_of_block k0]; rfl
  have r_0 : w2.cell? ⟨w.heap.size + 1, 0, none⟩ = some (.int .i64 0) := by rw [cell_of_block r]; rfl
  have r_1 : w2.cell? ⟨w.heap.size + 1, 1, none⟩ = some (.int .i64 0) := by rw [cell_of_block r]; rfl
  have r_f : ∀ i, w2.frozen? ⟨w.heap.size + 1, i, none⟩ = false := frozen_of_block r
  have t_0 : w2.cell? ⟨w1.heap.size, 0, none⟩ = some (.int .i64 hk) := by rw [cell_of_block t]; rfl
  have t_1 : w2.cell? ⟨w1.heap.size, 1, none⟩ = some (.int .i64 hc) := by rw [cell_of_block t]; rfl
  have t_2 : w2.cell? ⟨w1.heap.size, 2, none⟩ = some (.int .i64 hf) := by rw [cell_of_block t]; rfl
  go_wp2_with fail
  refine (hI _).mono ?_
  rintro e w3 ⟨rfl, hb3⟩
  have hB3 : Below w2.heap.size w2 w3 := by (repeat (first | exact Below.refl _ _ | assumption | refine Below.drew ?_ | refine below_drewN ?_ _ | refine balloc ?_ _ | refine Below.setCell ?_ (by first | (simp; done) | (simp; omega) | omega) _ | refine bchain (by assumption) ?_))
  have k0 := bblock hB3 k0
  have r := bblock hB3 r
  have t := bblock hB3 t
  have hw3 := bchain hB3 hw2
  clear hz_k0 hz_r hz_t
  have hz_k0 : w.heap.size < w3.heap.size := (Array.getElem?_eq_some_iff.1 k0).1
  have hz_r : w.heap.size + 1 < w3.heap.size := (Array.getElem?_eq_some_iff.1 r).1
  have hz_t : w1.heap.size < w3.heap.size := (Array.getElem?_eq_some_iff.1 t).1
  clear hB3
  clear k0_0 k0_1 k0_2 k0_3 k0_4 k0_5 r_0 r_1 r_f t_0 t_1 t_2
  have k0_0 : w3.cell? ⟨w.heap.size, 0, none⟩ = some (.int .i64 0) := by rw [cell_of_block k0]; rfl
  have k0_1 : w3.cell? ⟨w.heap.size, 1, none⟩ = some (.int .i64 lo) := by rw [cell_of_block k0]; rfl
  have k0_2 : w3.cell? ⟨w.heap.size, 2, none⟩ = some (.slice aO nO cO) := by rw [cell_of_block k0]; rfl
  have k0_3 : w3.cell? ⟨w.heap.size, 3, none⟩ = some (.int .i64 16777216) := by rw [cell_of_block k0]; rfl
  have k0_4 : w3.cell? ⟨w.heap.size, 4, none⟩ = some (.int .i64 ly) := by rw [cell_of_block k0]; rfl
  have k0_5 : w3.cell? ⟨w.heap.size, 5, none⟩ = some (.slice aY nY cY) := by rw [cell_of_block k0]; rfl
  have r_0 : w3.cell? ⟨w.heap.size + 1, 0, none⟩ = some (.int .i64 0) := by rw [cell_of_block r]; rfl
  have r_1 : w3.cell? ⟨w.heap.size + 1, 1, none⟩ = some (.int .i64 0) := by rw [cell_of_block r]; rfl
  have r_f : ∀ i, w3.frozen? ⟨w.heap.size + 1, i, none⟩ = false := frozen_of_block r
  have t_0 : w3.cell? ⟨w1.heap.size, 0, none⟩ = some (.int .i64 hk) := by rw [cell_of_block t]; rfl
  have t_1 : w3.cell? ⟨w1.heap.size, 1, none⟩ = some (.int .i64 hc) := by rw [cell_of_block t]; rfl
  have t_2 : w3.cell? ⟨w1.heap.size, 2, none⟩ = some (.int .i64 hf) := by rw [cell_of_block t]; rfl
  go_wp2
  exact bodyPost_ret (v := .tuple #[.agg #[.int .i64 im, .int .i64 is], .int .i64 0]) (by simp [results, Try.results32, go_sem, k0_0, k0_1, k0_2, k0_3, k0_4, k0_5, r_0, r_1, r_f, t_0, t_1, t_2, hz_k0, hz_r, hz_t]) rfl ⟨rfl, by (repeat (first | exact Below.refl _ _ | assumption | refine Below.drew ?_ | refine below_drewN ?_ _ | refine balloc ?_ _ | refine Below.setCell ?_ (by first | (simp; done) | (simp; omega) | omega) _ | refine bchain (by assumption) ?_))⟩
theorem rmid_any {w : World} {aO : Option Addr} {nO cO : Nat} {aY : Option Addr} {nY cY : Nat} {lo ly : Int} {wo wy : List Int} {gO gY : Option Nat} (hm : RMem w aO nO cO aY nY cY lo ly wo wy gO gY) (a : Int) : Calls Try.prog 32 #[.agg #[.int .i64 0, .int .i64 lo, .slice aO nO cO, .int .i64 16777216, .int .i64 ly, .slice aY nY cY], .int .i64 a] w fun e w' => e = .returned (.tuple #[.agg #[.int .i64 (OM wo wy a), .int .i64 (OS wo wy a)], .int .i64 (HE wo wy a)]) ∧ Below w.heap.size w w' := by
  unfold OM OS
  by_cases he : HE wo wy a = 0
  · rw [he]
    exact rmid_yes hm a he
  · rw [if_neg he, if_neg he]
    exact rmid_no hm a he
set_option maxRecDepth 100000 in
set_option maxHeartbeats 1000000 in
theorem rfield_e {w : World} {aO : Option Addr} {nO cO : Nat} {aY : Option Addr} {nY cY : Nat} {lo ly : Int} {wo wy : List Int} {gO gY : Option Nat} (hm : RMem w aO nO cO aY nY cY lo ly wo wy gO gY) (a i : Int) (he : HE wo wy a ≠ 0) :
    Calls Try.prog 70 #[.agg #[.int .i64 0, .int .i64 lo, .slice aO nO cO, .int .i64 16777216, .int .i64 ly, .slice aY nY cY], .int .i64 a, .int .i64 i] w fun e w' => e = .returned (.int .i64 (HE wo wy a)) ∧ Below w.heap.size w w' := by
  have hH := fun W (h : Below w.heap.size w W) => rmhdr_any (hm.below h) a
  generalize HK wo wy a = hk at *
  generalize HC wo wy a = hc at *
  generalize HF wo wy a = hf at *
  generalize HE wo wy a = er at *
  have hb1 : (er != 0) = true := by simpa using he
  clear hm he
  have hw0 : Below w.heap.size w w := Below.refl _ _
  go_enter Try.func70, Try.ntmps70
  go_wp2_with fail
  refine (hH _ (by (repeat (first | exact Below.refl _ _ | assumption | refine Below.drew ?_ | refine below_drewN ?_ _ | refine balloc ?_ _ | refine Below.setCell ?_ (by first | (simp; done) | (simp; omega) | omega) _ | refine bchain (by assumption) ?_)))).mono ?_
  rintro e w1 ⟨rfl, hb1⟩
  have hB1 : Below w.heap.size w w1 := by (repeat (first | exact Below.refl _ _ | assumption | refine Below.drew ?_ | refine below_drewN ?_ _ | refine balloc ?_ _ | refine Below.setCell ?_ (by first | (simp; done) | (simp; omega) | omega) _ | refine bchain (by assumption) ?_))
  have k0 : w1.heap[w.heap.size]? = some (.cells #[.int .i64 0, .int .i64 lo, .slice aO nO cO, .int .i64 16777216, .int .i64 ly, .slice aY nY cY] 35 (0, 0)) := bblock hb1 (by repeat (first | exact alloc_at _ (by simp) | refine alloc_lt _ ?_))
  have hw1 := bchain hB1 hw0
  have hz_k0 : w.heap.size < w1.heap.size := (Array.getElem?_eq_some_iff.1 k0).1
  clear hB1
  have k0_0 : w1.cell? ⟨w.heap.size, 0, none⟩ = some (.int .i64 0) := by rw [cell_of_block k0]; rfl
  have k0_1 : w1.cell? ⟨w.heap.size, 1, none⟩ = some (.int .i64 lo) := by rw [cell_of_block k0]; rfl
  have k0_2 : w1.cell? ⟨w.heap.size, 2, none⟩ = some (.slice aO nO cO) := by rw [cell_of_block k0]; rfl
  have k0_3 : w1.cell? ⟨w.heap.size, 3, none⟩ = some (.int .i64 16777216) := by rw [cell_of_block k0]; rfl
  have k0_4 : w1.cell? ⟨w.heap.size, 4, none⟩ = some (.int .i64 ly) := by rw [cell_of_block k0]; rfl
  have k0_5 : w1.cell? ⟨w.heap.size, 5, none⟩ = some (.slice aY nY cY) := by rw [cell_of_block k0]; rfl
  go_wp2
  go_ret
  exact ⟨rfl, by (repeat (first | exact Below.refl _ _ | assumption | refine Below.drew ?_ | refine below_drewN ?_ _ | refine balloc ?_ _ | refine Below.setCell ?_ (by first | (simp; done) | (simp; omega) | omega) _ | refine bchain (by assumption) ?_))⟩
set_option maxRecDepth 100000 in
set_option maxHeartbeats 1000000 in
theorem rfield_3 {w : World} {aO : Option Addr} {nO cO : Nat} {aY : Option Addr} {nY cY : Nat} {lo ly : Int} {wo wy : List Int} {gO gY : Option Nat} (hm : RMem w aO nO cO aY nY cY lo ly wo wy gO gY) (a i : Int) (he : HE wo wy a = 0) (hs : HK wo wy a = 3) :
    Calls Try.prog 70 #[.agg #[.int .i64 0, .int .i64 lo, .slice aO nO cO, .int .i64 16777216, .int .i64 ly, .slice aY nY cY], .int .i64 a, .int .i64 i] w fun e w' => e = .returned (.int .i64 7) ∧ Below w.heap.size w w' := by
  have hH := fun W (h : Below w.heap.size w W) => rmhdr_any (hm.below h) a
  rw [he, hs] at hH
  generalize HC wo wy a = hc at *
  generalize HF wo wy a = hf at *
  clear hm he hs
  have hw0 : Below w.heap.size w w := Below.refl _ _
  go_enter Try.func70, Try.ntmps70
  go_wp2_with fail
  refine (hH _ (by (repeat (first | exact Below.refl _ _ | assumption | refine Below.drew ?_ | refine below_drewN ?_ _ | refine balloc ?_ _ | refine Below.setCell ?_ (by first | (simp; done) | (simp; omega) | omega) _ | refine bchain (by assumption) ?_)))).mono ?_
  rintro e w1 ⟨rfl, hb1⟩
  have hB1 : Below w.heap.size w w1 := by (repeat (first | exact Below.refl _ _ | assumption | refine Below.drew ?_ | refine below_drewN ?_ _ | refine balloc ?_ _ | refine Below.setCell ?_ (by first | (simp; done) | (simp; omega) | omega) _ | refine bchain (by assumption) ?_))
  have k0 : w1.heap[w.heap.size]? = some (.cells #[.int .i64 0, .int .i64 lo, .slice aO nO cO, .int .i64 16777216, .int .i64 ly, .slice aY nY cY] 35 (0, 0)) := bblock hb1 (by repeat (first | exact alloc_at _ (by simp) | refine alloc_lt _ ?_))
  have hw1 := bchain hB1 hw0
  have hz_k0 : w.heap.size < w1.heap.size := (Array.getElem?_eq_some_iff.1 k0).1
  clear hB1
  have k0_0 : w1.cell? ⟨w.heap.size, 0, none⟩ = some (.int .i64 0) := by rw [cell_of_block k0]; rfl
  have k0_1 : w1.cell? ⟨w.heap.size, 1, none⟩ = some (.int .i64 lo) := by rw [cell_of_block k0]; rfl
  have k0_2 : w1.cell? ⟨w.heap.size, 2, none⟩ = some (.slice aO nO cO) := by rw [cell_of_block k0]; rfl
  have k0_3 : w1.cell? ⟨w.heap.size, 3, none⟩ = some (.int .i64 16777216) := by rw [cell_of_block k0]; rfl
  have k0_4 : w1.cell? ⟨w.heap.size, 4, none⟩ = some (.int .i64 ly) := by rw [cell_of_block k0]; rfl
  have k0_5 : w1.cell? ⟨w.heap.size, 5, none⟩ = some (.slice aY nY cY) := by rw [cell_of_block k0]; rfl
  go_wp2
  go_ret
  exact ⟨rfl, by (repeat (first | exact Below.refl _ _ | assumption | refine Below.drew ?_ | refine below_drewN ?_ _ | refine balloc ?_ _ | refine Below.setCell ?_ (by first | (simp; done) | (simp; omega) | omega) _ | refine bchain (by assumption) ?_))⟩
set_option maxRecDepth 100000 in
set_option maxHeartbeats 1000000 in
theorem rfield_4 {w : World} {aO : Option Addr} {nO cO : Nat} {aY : Option Addr} {nY cY : Nat} {lo ly : Int} {wo wy : List Int} {gO gY : Option Nat} (hm : RMem w aO nO cO aY nY cY lo ly wo wy gO gY) (a i : Int) (he : HE wo wy a = 0) (hs : HK wo wy a = 4) :
    Calls Try.prog 70 #[.agg #[.int .i64 0, .int .i64 lo, .slice aO nO cO, .int .i64 16777216, .int .i64 ly, .slice aY nY cY], .int .i64 a, .int .i64 i] w fun e w' => e = .returned (.int .i64 7) ∧ Below w.heap.size w w' := by
  have hH := fun W (h : Below w.heap.size w W) => rmhdr_any (hm.below h) a
  rw [he, hs] at hH
  generalize HC wo wy a = hc at *
  generalize HF wo wy a = hf at *
  clear hm he hs
  have hw0 : Below w.heap.size w w := Below.refl _ _
  go_enter Try.func70, Try.ntmps70
  go_wp2_with fail
  refine (hH _ (by (repeat (first | exact Below.refl _ _ | assumption | refine Below.drew ?_ | refine below_drewN ?_ _ | refine balloc ?_ _ | refine Below.setCell ?_ (by first | (simp; done) | (simp; omega) | omega) _ | refine bchain (by assumption) ?_)))).mono ?_
  rintro e w1 ⟨rfl, hb1⟩
  have hB1 : Below w.heap.size w w1 := by (repeat (first | exact Below.refl _ _ | assumption | refine Below.drew ?_ | refine below_drewN ?_ _ | refine balloc ?_ _ | refine Below.setCell ?_ (by first | (simp; done) | (simp; omega) | omega) _ | refine bchain (by assumption) ?_))
  have k0 : w1.heap[w.heap.size]? = some (.cells #[.int .i64 0, .int .i64 lo, .slice aO nO cO, .int .i64 16777216, .int .i64 ly, .slice aY nY cY] 35 (0, 0)) := bblock hb1 (by repeat (first | exact alloc_at _ (by simp) | refine alloc_lt _ ?_))
  have hw1 := bchain hB1 hw0
  have hz_k0 : w.heap.size < w1.heap.size := (Array.getElem?_eq_some_iff.1 k0).1
  clear hB1
  have k0_0 : w1.cell? ⟨w.heap.size, 0, none⟩ = some (.int .i64 0) := by rw [cell_of_block k0]; rfl
  have k0_1 : w1.cell? ⟨w.heap.size, 1, none⟩ = some (.int .i64 lo) := by rw [cell_of_block k0]; rfl
  have k0_2 : w1.cell? ⟨w.heap.size, 2, none⟩ = some (.slice aO nO cO) := by rw [cell_of_block k0]; rfl
  have k0_3 : w1.cell? ⟨w.heap.size, 3, none⟩ = some (.int .i64 16777216) := by rw [cell_of_block k0]; rfl
  have k0_4 : w1.cell? ⟨w.heap.size, 4, none⟩ = some (.int .i64 ly) := by rw [cell_of_block k0]; rfl
  have k0_5 : w1.cell? ⟨w.heap.size, 5, none⟩ = some (.slice aY nY cY) := by rw [cell_of_block k0]; rfl
  go_wp2
  go_ret
  exact ⟨rfl, by (repeat (first | exact Below.refl _ _ | assumption | refine Below.drew ?_ | refine below_drewN ?_ _ | refine balloc ?_ _ | refine Below.setCell ?_ (by first | (simp; done) | (simp; omega) | omega) _ | refine bchain (by assumption) ?_))⟩
set_option maxRecDepth 100000 in
set_option maxHeartbeats 1000000 in
theorem rfield_lo {w : World} {aO : Option Addr} {nO cO : Nat} {aY : Option Addr} {nY cY : Nat} {lo ly : Int} {wo wy : List Int} {gO gY : Option Nat} (hm : RMem w aO nO cO aY nY cY lo ly wo wy gO gY) (a i : Int) (he : HE wo wy a = 0) (h3 : HK wo wy a ≠ 3) (h4 : HK wo wy a ≠ 4) (hr : i < 0) :
    Calls Try.prog 70 #[.agg #[.int .i64 0, .int .i64 lo, .slice aO nO cO, .int .i64 16777216, .int .i64 ly, .slice aY nY cY], .int .i64 a, .int .i64 i] w fun e w' => e = .returned (.int .i64 2) ∧ Below w.heap.size w w' := by
  have hH := fun W (h : Below w.heap.size w W) => rmhdr_any (hm.below h) a
  have n3 : (HK wo wy a == 3) = false := by simpa using h3
  have n4 : (HK wo wy a == 4) = false := by simpa using h4
  rw [he] at hH
  generalize HK wo wy a = hk at *
  generalize HC wo wy a = hc at *
  generalize HF wo wy a = hf at *
  clear hm he h3 h4
  have hw0 : Below w.heap.size w w := Below.refl _ _
  go_enter Try.func70, Try.ntmps70
  go_wp2_with fail
  refine (hH _ (by (repeat (first | exact Below.refl _ _ | assumption | refine Below.drew ?_ | refine below_drewN ?_ _ | refine balloc ?_ _ | refine Below.setCell ?_ (by first | (simp; done) | (simp; omega) | omega) _ | refine bchain (by assumption) ?_)))).mono ?_
  rintro e w1 ⟨rfl, hb1⟩
  have hB1 : Below w.heap.size w w1 := by (repeat (first | exact Below.refl _ _ | assumption | refine Below.drew ?_ | refine below_drewN ?_ _ | refine balloc ?_ _ | refine Below.setCell ?_ (by first | (simp; done) | (simp; omega) | omega) _ | refine bchain (by assumption) ?_))
  have k0 : w1.heap[w.heap.size]? = some (.cells #[.int .i64 0, .int .i64 lo, .slice aO nO cO, .int .i64 16777216, .int .i64 ly, .slice aY nY cY] 35 (0, 0)) := bblock hb1 (by repeat (first | exact alloc_at _ (by simp) | refine alloc_lt _ ?_))
  have hw1 := bchain hB1 hw0
  have hz_k0 : w.heap.size < w1.heap.size := (Array.getElem?_eq_some_iff.1 k0).1
  clear hB1
  have k0_0 : w1.cell? ⟨w.heap.size, 0, none⟩ = some (.int .i64 0) := by rw [cell_of_block k0]; rfl
  have k0_1 : w1.cell? ⟨w.heap.size, 1, none⟩ = some (.int .i64 lo) := by rw [cell_of_block k0]; rfl
  have k0_2 : w1.cell? ⟨w.heap.size, 2, none⟩ = some (.slice aO nO cO) := by rw [cell_of_block k0]; rfl
  have k0_3 : w1.cell? ⟨w.heap.size, 3, none⟩ = some (.int .i64 16777216) := by rw [cell_of_block k0]; rfl
  have k0_4 : w1.cell? ⟨w.heap.size, 4, none⟩ = some (.int .i64 ly) := by rw [cell_of_block k0]; rfl
  have k0_5 : w1.cell? ⟨w.heap.size, 5, none⟩ = some (.slice aY nY cY) := by rw [cell_of_block k0]; rfl
  go_wp2
  go_ret
  exact ⟨rfl, by (repeat (first | exact Below.refl _ _ | assumption | refine Below.drew ?_ | refine below_drewN ?_ _ | refine balloc ?_ _ | refine Below.setCell ?_ (by first | (simp; done) | (simp; omega) | omega) _ | refine bchain (by assumption) ?_))⟩
set_option maxRecDepth 100000 in
set_option maxHeartbeats 1000000 in
theorem rfield_hi {w : World} {aO : Option Addr} {nO cO : Nat} {aY : Option Addr} {nY cY : Nat} {lo ly : Int} {wo wy : List Int} {gO gY : Option Nat} (hm : RMem w aO nO cO aY nY cY lo ly wo wy gO gY) (a i : Int) (he : HE wo wy a = 0) (h3 : HK wo wy a ≠ 3) (h4 : HK wo wy a ≠ 4) (hr0 : 0 ≤ i) (hr : HF wo wy a ≤ i) :
    Calls Try.prog 70 #[.agg #[.int .i64 0, .int .i64 lo, .slice aO nO cO, .int .i64 16777216, .int .i64 ly, .slice aY nY cY], .int .i64 a, .int .i64 i] w fun e w' => e = .returned (.int .i64 2) ∧ Below w.heap.size w w' := by
  have hH := fun W (h : Below w.heap.size w W) => rmhdr_any (hm.below h) a
  have n3 : (HK wo wy a == 3) = false := by simpa using h3
  have n4 : (HK wo wy a == 4) = false := by simpa using h4
  rw [he] at hH
  generalize HK wo wy a = hk at *
  generalize HC wo wy a = hc at *
  generalize HF wo wy a = hf at *
  clear hm he h3 h4
  have hw0 : Below w.heap.size w w := Below.refl _ _
  go_enter Try.func70, Try.ntmps70
  go_wp2_with fail
  refine (hH _ (by (repeat (first | exact Below.refl _ _ | assumption | refine Below.drew ?_ | refine below_drewN ?_ _ | refine balloc ?_ _ | refine Below.setCell ?_ (by first | (simp; done) | (simp; omega) | omega) _ | refine bchain (by assumption) ?_)))).mono ?_
  rintro e w1 ⟨rfl, hb1⟩
  have hB1 : Below w.heap.size w w1 := by (repeat (first | exact Below.refl _ _ | assumption | refine Below.drew ?_ | refine below_drewN ?_ _ | refine balloc ?_ _ | refine Below.setCell ?_ (by first | (simp; done) | (simp; omega) | omega) _ | refine bchain (by assumption) ?_))
  have k0 : w1.heap[w.heap.size]? = some (.cells #[.int .i64 0, .int .i64 lo, .slice aO nO cO, .int .i64 16777216, .int .i64 ly, .slice aY nY cY] 35 (0, 0)) := bblock hb1 (by repeat (first | exact alloc_at _ (by simp) | refine alloc_lt _ ?_))
  have hw1 := bchain hB1 hw0
  have hz_k0 : w.heap.size < w1.heap.size := (Array.getElem?_eq_some_iff.1 k0).1
  clear hB1
  have k0_0 : w1.cell? ⟨w.heap.size, 0, none⟩ = some (.int .i64 0) := by rw [cell_of_block k0]; rfl
  have k0_1 : w1.cell? ⟨w.heap.size, 1, none⟩ = some (.int .i64 lo) := by rw [cell_of_block k0]; rfl
  have k0_2 : w1.cell? ⟨w.heap.size, 2, none⟩ = some (.slice aO nO cO) := by rw [cell_of_block k0]; rfl
  have k0_3 : w1.cell? ⟨w.heap.size, 3, none⟩ = some (.int .i64 16777216) := by rw [cell_of_block k0]; rfl
  have k0_4 : w1.cell? ⟨w.heap.size, 4, none⟩ = some (.int .i64 ly) := by rw [cell_of_block k0]; rfl
  have k0_5 : w1.cell? ⟨w.heap.size, 5, none⟩ = some (.slice aY nY cY) := by rw [cell_of_block k0]; rfl
  go_wp2
  go_ret
  exact ⟨rfl, by (repeat (first | exact Below.refl _ _ | assumption | refine Below.drew ?_ | refine below_drewN ?_ _ | refine balloc ?_ _ | refine Below.setCell ?_ (by first | (simp; done) | (simp; omega) | omega) _ | refine bchain (by assumption) ?_))⟩
set_option maxRecDepth 100000 in
set_option maxHeartbeats 1000000 in
theorem rfield_ok {w : World} {aO : Option Addr} {nO cO : Nat} {aY : Option Addr} {nY cY : Nat} {lo ly : Int} {wo wy : List Int} {gO gY : Option Nat} (hm : RMem w aO nO cO aY nY cY lo ly wo wy gO gY) (a i : Int) (he : HE wo wy a = 0) (h3 : HK wo wy a ≠ 3) (h4 : HK wo wy a ≠ 4) (hr0 : 0 ≤ i) (hr : i < HF wo wy a) :
    Calls Try.prog 70 #[.agg #[.int .i64 0, .int .i64 lo, .slice aO nO cO, .int .i64 16777216, .int .i64 ly, .slice aY nY cY], .int .i64 a, .int .i64 i] w fun e w' => e = .returned (.int .i64 0) ∧ Below w.heap.size w w' := by
  have hH := fun W (h : Below w.heap.size w W) => rmhdr_any (hm.below h) a
  have n3 : (HK wo wy a == 3) = false := by simpa using h3
  have n4 : (HK wo wy a == 4) = false := by simpa using h4
  rw [he] at hH
  generalize HK wo wy a = hk at *
  generalize HC wo wy a = hc at *
  generalize HF wo wy a = hf at *
  clear hm he h3 h4
  have hw0 : Below w.heap.size w w := Below.refl _ _
  go_enter Try.func70, Try.ntmps70
  go_wp2_with fail
  refine (hH _ (by (repeat (first | exact Below.refl _ _ | assumption | refine Below.drew ?_ | refine below_drewN ?_ _ | refine balloc ?_ _ | refine Below.setCell ?_ (by first | (simp; done) | (simp; omega) | omega) _ | refine bchain (by assumption) ?_)))).mono ?_
  rintro e w1 ⟨rfl, hb1⟩
  have hB1 : Below w.heap.size w w1 := by (repeat (first | exact Below.refl _ _ | assumption | refine Below.drew ?_ | refine below_drewN ?_ _ | refine balloc ?_ _ | refine Below.setCell ?_ (by first | (simp; done) | (simp; omega) | omega) _ | refine bchain (by assumption) ?_))
  have k0 : w1.heap[w.heap.size]? = some (.cells #[.int .i64 0, .int .i64 lo, .slice aO nO cO, .int .i64 16777216, .int .i64 ly, .slice aY nY cY] 35 (0, 0)) := bblock hb1 (by repeat (first | exact alloc_at _ (by simp) | refine alloc_lt _ ?_))
  have hw1 := bchain hB1 hw0
  have hz_k0 : w.heap.size < w1.heap.size := (Array.getElem?_eq_some_iff.1 k0).1
  clear hB1
  have k0_0 : w1.cell? ⟨w.heap.size, 0, none⟩ = some (.int .i64 0) := by rw [cell_of_block k0]; rfl
  have k0_1 : w1.cell? ⟨w.heap.size, 1, none⟩ = some (.int .i64 lo) := by rw [cell_of_block k0]; rfl
  have k0_2 : w1.cell? ⟨w.heap.size, 2, none⟩ = some (.slice aO nO cO) := by rw [cell_of_block k0]; rfl
  have k0_3 : w1.cell? ⟨w.heap.size, 3, none⟩ = some (.int .i64 16777216) := by rw [cell_of_block k0]; rfl
  have k0_4 : w1.cell? ⟨w.heap.size, 4, none⟩ = some (.int .i64 ly) := by rw [cell_of_block k0]; rfl
  have k0_5 : w1.cell? ⟨w.heap.size, 5, none⟩ = some (.slice aY nY cY) := by rw [cell_of_block k0]; rfl
  go_wp2
  go_ret
  exact ⟨rfl, by (repeat (first | exact Below.refl _ _ | assumption | refine Below.drew ?_ | refine below_drewN ?_ _ | refine balloc ?_ _ | refine Below.setCell ?_ (by first | (simp; done) | (simp; omega) | omega) _ | refine bchain (by assumption) ?_))⟩
theorem rfield_any {w : World} {aO : Option Addr} {nO cO : Nat} {aY : Option Addr} {nY cY : Nat} {lo ly : Int} {wo wy : List Int} {gO gY : Option Nat} (hm : RMem w aO nO cO aY nY cY lo ly wo wy gO gY) (a i : Int) : Calls Try.prog 70 #[.agg #[.int .i64 0, .int .i64 lo, .slice aO nO cO, .int .i64 16777216, .int .i64 ly, .slice aY nY cY], .int .i64 a, .int .i64 i] w fun e w' => e = .returned (.int .i64 (fdE wo wy a i)) ∧ Below w.heap.size w w' := by
  unfold fdE
  by_cases he : HE wo wy a = 0
  · rw [if_neg (by simpa using he)]
    by_cases h3 : HK wo wy a = 3
    · rw [if_pos (stB_iff.2 (.inl h3))]
      exact rfield_3 hm a i he h3
    · by_cases h4 : HK wo wy a = 4
      · rw [if_pos (stB_iff.2 (.inr h4))]
        exact rfield_4 hm a i he h4
      · have hs : ¬ stB (HK wo wy a) = true := fun h => (stB_iff.1 h).elim h3 h4
        rw [if_neg hs]
        by_cases hr : i < 0 ∨ HF wo wy a ≤ i
        · rw [if_pos hr]
          by_cases h0 : i < 0
          · exact rfield_lo hm a i he h3 h4 h0
          · exact rfield_hi hm a i he h3 h4 (by omega) (by omega)
        · rw [if_neg hr]
          exact rfield_ok hm a i he h3 h4 (by omega) (by omega)
  · rw [if_pos he]
    exact rfield_e hm a i he
theorem fd_zero {wo wy : List Int} {a i : Int} (h : fdE wo wy a i = 0) : HE wo wy a = 0 ∧ stB (HK wo wy a) = false ∧ 0 ≤ i ∧ i < HF wo wy a ∧ fdA wo wy a i = a + 2 + i := by
  have hA : fdA wo wy a i = a + 2 + i := by unfold fdA; rw [if_pos h]
  unfold fdE at h
  by_cases he : HE wo wy a = 0
  · rw [if_neg (by simpa using he)] at h
    cases hs : stB (HK wo wy a)
    · rw [hs] at h
      by_cases hr : i < 0 ∨ HF wo wy a ≤ i
      · simp [hr] at h
      · exact ⟨he, rfl, by omega, by omega, hA⟩
    · rw [hs] at h; cases h
  · rw [if_pos he] at h; exact absurd h he
set_option maxRecDepth 100000 in
set_option maxHeartbeats 1000000 in
theorem rmfield_no {w : World} {aO : Option Addr} {nO cO : Nat} {aY : Option Addr} {nY cY : Nat} {lo ly : Int} {wo wy : List Int} {gO gY : Option Nat} (hm : RMem w aO nO cO aY nY cY lo ly wo wy gO gY) (a i : Int) (he : fdE wo wy a i ≠ 0) :
    Calls Try.prog 33 #[.agg #[.int .i64 0, .int .i64 lo, .slice aO nO cO, .int .i64 16777216, .int .i64 ly, .slice aY nY cY], .int .i64 a, .int .i64 i] w fun e w' => e = .returned (.tuple #[.int .u64 0, .int .i64 (fdE wo wy a i)]) ∧ Below w.heap.size w w' := by
  have hH := fun W (h : Below w.heap.size w W) => rfield_any (hm.below h) a i
  generalize fdE wo wy a i = er at *
  have hb1 : (er != 0) = true := by simpa using he
  clear hm he
  have hw0 : Below w.heap.size w w := Below.refl _ _
  go_enter Try.func33, Try.ntmps33
  go_wp2_with fail
  refine (hH _ (by (repeat (first | exact Below.refl _ _ | assumption | refine Below.drew ?_ | refine below_drewN ?_ _ | refine balloc ?_ _ | refine Below.setCell ?_ (by first | (simp; done) | (simp; omega) | omega) _ | refine bchain (by assumption) ?_)))).mono ?_
  rintro e w1 ⟨rfl, hb1⟩
  have hB1 : Below w.heap.size w w1 := by (repeat (first | exact Below.refl _ _ | assumption | refine Below.drew ?_ | refine below_drewN ?_ _ | refine balloc ?_ _ | refine Below.setCell ?_ (by first | (simp; done) | (simp; omega) | omega) _ | refine bchain (by assumption) ?_))
  have k0 : w1.heap[w.heap.size]? = some (.cells #[.int .i64 0, .int .i64 lo, .slice aO nO cO, .int .i64 16777216, .int .i64 ly, .slice aY nY cY] 35 (0, 0)) := bblock hb1 (by repeat (first | exact alloc_at _ (by simp) | refine alloc_lt _ ?_))
  have hw1 := bchain hB1 hw0
  have hz_k0 : w.heap.size < w1.heap.size := (Array.getElem?_eq_some_iff.1 k0).1
  clear hB1
  have k0_0 : w1.cell? ⟨w.heap.size, 0, none⟩ = some (.int .i64 0) := by rw [cell_of_block k0]; rfl
  have k0_1 : w1.cell? ⟨w.heap.size, 1, none⟩ = some (.int .i64 lo) := by rw [cell_of_block k0]; rfl
  have k0_2 : w1.cell? ⟨w.heap.size, 2, none⟩ = some (.slice aO nO cO) := by rw [cell_of_block k0]; rfl
  have k0_3 : w1.cell? ⟨w.heap.size, 3, none⟩ = some (.int .i64 16777216) := by rw [cell_of_block k0]; rfl
  have k0_4 : w1.cell? ⟨w.heap.size, 4, none⟩ = some (.int .i64 ly) := by rw [cell_of_block k0]; rfl
  have k0_5 : w1.cell? ⟨w.heap.size, 5, none⟩ = some (.slice aY nY cY) := by rw [cell_of_block k0]; rfl
  go_wp2
  go_ret2
  exact ⟨rfl, by (repeat (first | exact Below.refl _ _ | assumption | refine Below.drew ?_ | refine below_drewN ?_ _ | refine balloc ?_ _ | refine Below.setCell ?_ (by first | (simp; done) | (simp; omega) | omega) _ | refine bchain (by assumption) ?_))⟩
set_option maxRecDepth 100000 in
set_option maxHeartbeats 1000000 in
theorem rmfield_yes {w : World} {aO : Option Addr} {nO cO : Nat} {aY : Option Addr} {nY cY : Nat} {lo ly : Int} {wo wy : List Int} {gO gY : Option Nat} (hm : RMem w aO nO cO aY nY cY lo ly wo wy gO gY) (a i : Int) (he : fdE wo wy a i = 0) :
    Calls Try.prog 33 #[.agg #[.int .i64 0, .int .i64 lo, .slice aO nO cO, .int .i64 16777216, .int .i64 ly, .slice aY nY cY], .int .i64 a, .int .i64 i] w fun e w' => e = .returned (.tuple #[.int .u64 (LD wo wy (a + 2 + i)), .int .i64 (LE wo wy (a + 2 + i))]) ∧ Below w.heap.size w w' := by
  have hH := fun W (h : Below w.heap.size w W) => rfield_any (hm.below h) a i
  have hL := fun W (h : Below w.heap.size w W) => rmload_any (hm.below h) (a + 2 + i)
  rw [he] at hH
  obtain ⟨he0, _, hi0, hi1, _⟩ := fd_zero he
  have hbd := HE_bd he0
  have hk1 := (hm.partOk a).b0
  have hk2 := (hm.partOk a).top
  have hk3 := (hm.partOk a).lm1
  have hx0 : 0 ≤ wordsI (HF wo wy a) := by unfold wordsI; split <;> omega
  have ha : 0 ≤ a ∧ a ≤ 1099511627776 := by omega
  have hi2 : i ≤ 30 := by omega
  generalize LD wo wy (a + 2 + i) = v at *
  generalize LE wo wy (a + 2 + i) = er at *
  clear hm he he0 hbd hk1 hk2 hk3 hx0
  have hw0 : Below w.heap.size w w := Below.refl _ _
  go_enter Try.func33, Try.ntmps33
  go_wp2_with fail
  refine (hH _ (by (repeat (first | exact Below.refl _ _ | assumption | refine Below.drew ?_ | refine below_drewN ?_ _ | refine balloc ?_ _ | refine Below.setCell ?_ (by first | (simp; done) | (simp; omega) | omega) _ | refine bchain (by assumption) ?_)))).mono ?_
  rintro e w1 ⟨rfl, hb1⟩
  have hB1 : Below w.heap.size w w1 := by (repeat (first | exact Below.refl _ _ | assumption | refine Below.drew ?_ | refine below_drewN ?_ _ | refine balloc ?_ _ | refine Below.setCell ?_ (by first | (simp; done) | (simp; omega) | omega) _ | refine bchain (by assumption) ?_))
  have k0 : w1.heap[w.heap.size]? = some (.cells #[.int .i64 0, .int .i64 lo, .slice aO nO cO, .int .i64 16777216, .int .i64 ly, .slice aY nY cY] 35 (0, 0)) := bblock hb1 (by repeat (first | exact alloc_at _ (by simp) | refine alloc_lt _ ?_))
  have hw1 := bchain hB1 hw0
  have hz_k0 : w.heap.size < w1.heap.size := (Array.getElem?_eq_some_iff.1 k0).1
  clear hB1
  have k0_0 : w1.cell? ⟨w.heap.size, 0, none⟩ = some (.int .i64 0) := by rw [cell_of_block k0]; rfl
  have k0_1 : w1.cell? ⟨w.heap.size, 1, none⟩ = some (.int .i64 lo) := by rw [cell_of_block k0]; rfl
  have k0_2 : w1.cell? ⟨w.heap.size, 2, none⟩ = some (.slice aO nO cO) := by rw [cell_of_block k0]; rfl
  have k0_3 : w1.cell? ⟨w.heap.size, 3, none⟩ = some (.int .i64 16777216) := by rw [cell_of_block k0]; rfl
  have k0_4 : w1.cell? ⟨w.heap.size, 4, none⟩ = some (.int .i64 ly) := by rw [cell_of_block k0]; rfl
  have k0_5 : w1.cell? ⟨w.heap.size, 5, none⟩ = some (.slice aY nY cY) := by rw [cell_of_block k0]; rfl
  go_wp2_with fail
  refine (hL _ (by (repeat (first | exact Below.refl _ _ | assumption | refine Below.drew ?_ | refine below_drewN ?_ _ | refine balloc ?_ _ | refine Below.setCell ?_ (by first | (simp; done) | (simp; omega) | omega) _ | refine bchain (by assumption) ?_)))).mono ?_
  rintro e w2 ⟨rfl, hb2⟩
  have hB2 : Below w1.heap.size w1 w2 := by (repeat (first | exact Below.refl _ _ | assumption | refine Below.drew ?_ | refine below_drewN ?_ _ | refine balloc ?_ _ | refine Below.setCell ?_ (by first | (simp; done) | (simp; omega) | omega) _ | refine bchain (by assumption) ?_))
  have k0 := bblock hB2 k0
  have hw2 := bchain hB2 hw1
  clear hz_k0
  have hz_k0 : w.heap.size < w2.heap.size := (Array.getElem?_eq_some_iff.1 k0).1
  clear hB2
  clear k0_0 k0_1 k0_2 k0_3 k0_4 k0_5
  have k0_0 : w2.cell? ⟨w.heap.size, 0, none⟩ = some (.int .i64 0) := by rw [cell_of_block k0]; rfl
  have k0_1 : w2.cell? ⟨w.heap.size, 1, none⟩ = some (.int .i64 lo) := by rw [cell_of_block k0]; rfl
  have k0_2 : w2.cell? ⟨w.heap.size, 2, none⟩ = some (.slice aO nO cO) := by rw [cell_of_block k0]; rfl
  have k0_3 : w2.cell? ⟨w.heap.size, 3, none⟩ = some (.int .i64 16777216) := by rw [cell_of_block k0]; rfl
  have k0_4 : w2.cell? ⟨w.heap.size, 4, none⟩ = some (.int .i64 ly) := by rw [cell_of_block k0]; rfl
  have k0_5 : w2.cell? ⟨w.heap.size, 5, none⟩ = some (.slice aY nY cY) := by rw [cell_of_block k0]; rfl
  go_wp2
  go_ret2
  exact ⟨rfl, by (repeat (first | exact Below.refl _ _ | assumption | refine Below.drew ?_ | refine below_drewN ?_ _ | refine balloc ?_ _ | refine Below.setCell ?_ (by first | (simp; done) | (simp; omega) | omega) _ | refine bchain (by assumption) ?_))⟩
theorem rmfield_any {w : World} {aO : Option Addr} {nO cO : Nat} {aY : Option Addr} {nY cY : Nat} {lo ly : Int} {wo wy : List Int} {gO gY : Option Nat} (hm : RMem w aO nO cO aY nY cY lo ly wo wy gO gY) (a i : Int) : Calls Try.prog 33 #[.agg #[.int .i64 0, .int .i64 lo, .slice aO nO cO, .int .i64 16777216, .int .i64 ly, .slice aY nY cY], .int .i64 a, .int .i64 i] w fun e w' => e = .returned (.tuple #[.int .u64 (FV wo wy a i), .int .i64 (FE wo wy a i)]) ∧ Below w.heap.size w w' := by
  unfold FV FE
  by_cases he : fdE wo wy a i = 0
  · rw [if_pos he, if_pos he, (fd_zero he).2.2.2.2]
    exact rmfield_yes hm a i he
  · rw [if_neg he, if_neg he]
    exact rmfield_no hm a i he
end Go.Proofs.Ytcmhgjkijegpnaa
namespace Go.Proofs.Ytcmhgjkijegpnaa
open Go.RowKit
set_option linter.unusedSimpArgs false
set_option linter.unusedVariables false

/-- A memory that is handed back: its rows are the old ones, or new. -/
def RNext (w : World) (mk : Value → Value) (lo ly : Int) (wo wy : List Int) (gO gY : Option Nat) (e : Ending) (w' : World) : Prop :=
  ∃ (aO : Option Addr) (nO cO : Nat) (aY : Option Addr) (nY cY : Nat) (gO' gY' : Option Nat), e = .returned (mk (.agg #[.int .i64 0, .int .i64 lo, .slice aO nO cO, .int .i64 16777216, .int .i64 ly, .slice aY nY cY])) ∧ RMem w' aO nO cO aY nY cY lo ly wo wy gO' gY' ∧ (∀ G, gO' = some G → gO = some G ∨ w.heap.size ≤ G) ∧ (∀ G, gY' = some G → gY = some G ∨ w.heap.size ≤ G) ∧ Below w.heap.size w w'
theorem RowAt.lt' {w : World} {a : Option Addr} {cap : Nat} {ws : List Int} {g : Option Nat} (h : RowAt w a cap ws g) : ∀ G, g = some G → G < w.heap.size := by
  rintro G rfl
  obtain ⟨_, _, h2⟩ := h
  rcases h2 with ⟨h, _⟩ | ⟨G', cur, e, _, hh, _⟩
  · cases h
  · cases e
    exact (Array.getElem?_eq_some_iff.1 hh).1
theorem RowAt.mods {S : Nat → Prop} {w w' : World} {a : Option Addr} {cap : Nat} {ws : List Int} {g : Option Nat} (h : RowAt w a cap ws g) (hM : Mods S w w') (hS : ∀ G, g = some G → ¬ S G) : RowAt w' a cap ws g :=
  h.keep (fun G o e ho => mblock hM ho (hS G e))
/-- Two blocks behind the old heap: the result's, and the variable's. -/
def Two (w : World) : Nat → Prop := fun k => k = w.heap.size ∨ k = w.heap.size + 1
theorem two_set {w wk W : World} (h : Mods (Two w) wk W) (b off : Nat) (u : Value) (hb : b = w.heap.size ∨ b = w.heap.size + 1) : Mods (Two w) wk (W.setCell ⟨b, off, none⟩ u) := h.setCell (p := ⟨b, off, none⟩) (.inl hb) u
theorem below_set {w W : World} (h : Below w.heap.size w W) (b off : Nat) (u : Value) (hb : w.heap.size ≤ b) : Below w.heap.size w (W.setCell ⟨b, off, none⟩ u) := h.setCell (p := ⟨b, off, none⟩) hb u
theorem rnext_fin {w wk W : World} {mk : Value → Value} {lo ly : Int} {wo wy wo' wy' : List Int} {gO gY gO' gY' : Option Nat} {aO : Option Addr} {nO cO : Nat} {aY : Option Addr} {nY cY : Nat} {aO' : Option Addr} {nO' cO' : Nat} {aY' : Option Addr} {nY' cY' : Nat}
    (hm : RMem w aO nO cO aY nY cY lo ly wo wy gO gY) (hk : RMem wk aO' nO' cO' aY' nY' cY' lo ly wo' wy' gO' gY') (hF : Mods (Two w) wk W) (hgO : ∀ G, gO' = some G → gO = some G ∨ w.heap.size + 2 ≤ G) (hgY : ∀ G, gY' = some G → gY = some G ∨ w.heap.size + 2 ≤ G) (hB : Below w.heap.size w W) :
    RNext w mk lo ly wo' wy' gO gY (.returned (mk (.agg #[.int .i64 0, .int .i64 lo, .slice aO' nO' cO', .int .i64 16777216, .int .i64 ly, .slice aY' nY' cY']))) W := by
  have l1 := hm.old.lt'
  have l2 := hm.yng.lt'
  refine ⟨aO', nO', cO', aY', nY', cY', gO', gY', rfl, ⟨hk.lO, hk.lY, hk.old.mods hF (fun G e => ?_), hk.yng.mods hF (fun G e => ?_), hk.okO, hk.okY, hk.lim⟩, fun G e => (hgO G e).imp id (fun h => by omega), fun G e => (hgY G e).imp id (fun h => by omega), hB⟩
  · rintro (h | h) <;> rcases hgO G e with h' | h' <;> first | omega | (have := l1 G h'; omega)
  · rintro (h | h) <;> rcases hgY G e with h' | h' <;> first | omega | (have := l2 G h'; omega)
set_option maxRecDepth 100000 in
set_option maxHeartbeats 400000 in
theorem rmstore_O {w : World} {aO : Option Addr} {nO cO : Nat} {aY : Option Addr} {nY cY : Nat} {lo ly : Int} {wo wy : List Int} {gO gY : Option Nat} (hm : RMem w aO nO cO aY nY cY lo ly wo wy gO gY) (a u : Int) (hu : U64 u) (hi : inB 0 wo.length a = true) :
    Calls Try.prog 61 #[.agg #[.int .i64 0, .int .i64 lo, .slice aO nO cO, .int .i64 16777216, .int .i64 ly, .slice aY nY cY], .int .i64 a, .int .u64 u] w (RNext w (fun v => .tuple #[v, .int .i64 (ioE 0 wo a)]) lo ly (stW 0 wo a u) (wy) gO gY) := by
  have hC := fun W (H : Below w.heap.size w W) => rcontains_any (hm.below H).mdO hm.okO a
  have hS := fun W (H : Below w.heap.size w W) => rstore_any (hm.below H).mdO hm.okO a u
  have hk2 := stOk hm.okO a hu
  have hmB := fun W (H : Below w.heap.size w W) => hm.below H
  rw [hi] at hC
  generalize ioE 0 wo a = er at *
  generalize hw2 : stW 0 wo a u = ws2 at *
  clear hi hw2 hu
  have hw0 : Below w.heap.size w w := Below.refl _ _
  go_enter Try.func61, Try.ntmps61
  go_wp2_with fail
  refine (hC _ (by (repeat (first | exact Below.refl _ _ | assumption | refine Below.drew ?_ | refine below_drewN ?_ _ | refine balloc ?_ _ | refine Below.setCell ?_ (by first | (simp; done) | (simp; omega) | omega) _ | refine bchain (by assumption) ?_)))).mono ?_
  rintro e w1 ⟨rfl, hb1⟩
  have hB1 : Below w.heap.size w w1 := by (repeat (first | exact Below.refl _ _ | assumption | refine Below.drew ?_ | refine below_drewN ?_ _ | refine balloc ?_ _ | refine Below.setCell ?_ (by first | (simp; done) | (simp; omega) | omega) _ | refine bchain (by assumption) ?_))
  have k0 : w1.heap[w.heap.size]? = some (.cells #[.int .i64 0, .int .i64 lo, .slice aO nO cO, .int .i64 16777216, .int .i64 ly, .slice aY nY cY] 35 (0, 0)) := bblock hb1 (by repeat (first | exact alloc_at _ (by simp) | refine alloc_lt _ ?_))
  have r : w1.heap[w.heap.size + 1]? = some (.cells #[.int .i64 0, .int .i64 0, .slice none 0 0, .int .i64 0, .int .i64 0, .slice none 0 0] 35 (0, 0)) := bblock hb1 (by repeat (first | exact alloc_at _ (by simp) | refine alloc_lt _ ?_))
  have hw1 := bchain hB1 hw0
  have hp1 : w.heap.size + 2 ≤ w1.heap.size := by have := (Array.getElem?_eq_some_iff.1 r).1; omega
  have hz_k0 : w.heap.size < w1.heap.size := (Array.getElem?_eq_some_iff.1 k0).1
  have hz_r : w.heap.size + 1 < w1.heap.size := (Array.getElem?_eq_some_iff.1 r).1
  clear hB1
  have k0_0 : w1.cell? ⟨w.heap.size, 0, none⟩ = some (.int .i64 0) := by rw [cell_of_block k0]; rfl
  have k0_1 : w1.cell? ⟨w.heap.size, 1, none⟩ = some (.int .i64 lo) := by rw [cell_of_block k0]; rfl
  have k0_2 : w1.cell? ⟨w.heap.size, 2, none⟩ = some (.slice aO nO cO) := by rw [cell_of_block k0]; rfl
  have k0_3 : w1.cell? ⟨w.heap.size, 3, none⟩ = some (.int .i64 16777216) := by rw [cell_of_block k0]; rfl
  have k0_4 : w1.cell? ⟨w.heap.size, 4, none⟩ = some (.int .i64 ly) := by rw [cell_of_block k0]; rfl
  have k0_5 : w1.cell? ⟨w.heap.size, 5, none⟩ = some (.slice aY nY cY) := by rw [cell_of_block k0]; rfl
  have k0_f : ∀ i, w1.frozen? ⟨w.heap.size, i, none⟩ = false := frozen_of_block k0
  have r_0 : w1.cell? ⟨w.heap.size + 1, 0, none⟩ = some (.int .i64 0) := by rw [cell_of_block r]; rfl
  have r_1 : w1.cell? ⟨w.heap.size + 1, 1, none⟩ = some (.int .i64 0) := by rw [cell_of_block r]; rfl
  have r_2 : w1.cell? ⟨w.heap.size + 1, 2, none⟩ = some (.slice none 0 0) := by rw [cell_of_block r]; rfl
  have r_3 : w1.cell? ⟨w.heap.size + 1, 3, none⟩ = some (.int .i64 0) := by rw [cell_of_block r]; rfl
  have r_4 : w1.cell? ⟨w.heap.size + 1, 4, none⟩ = some (.int .i64 0) := by rw [cell_of_block r]; rfl
  have r_5 : w1.cell? ⟨w.heap.size + 1, 5, none⟩ = some (.slice none 0 0) := by rw [cell_of_block r]; rfl
  have r_f : ∀ i, w1.frozen? ⟨w.heap.size + 1, i, none⟩ = false := frozen_of_block r
  go_wp2_with fail
  refine (hS _ (by (repeat (first | exact Below.refl _ _ | assumption | refine Below.drew ?_ | refine below_drewN ?_ _ | refine balloc ?_ _ | refine Below.setCell ?_ (by first | (simp; done) | (simp; omega) | omega) _ | refine bchain (by assumption) ?_)))).mono ?_
  rintro e w2 ⟨v2, rfl, g2, hmd2, hg2, hb2⟩
  have hB2 : Below w1.heap.size w1 w2 := by (repeat (first | exact Below.refl _ _ | assumption | refine Below.drew ?_ | refine below_drewN ?_ _ | refine balloc ?_ _ | refine Below.setCell ?_ (by first | (simp; done) | (simp; omega) | omega) _ | refine bchain (by assumption) ?_))
  have k0 := bblock hB2 k0
  have r := bblock hB2 r
  have hw2 := bchain hB2 hw1
  have hp2 : w.heap.size + 2 ≤ w2.heap.size := by have := (Array.getElem?_eq_some_iff.1 r).1; omega
  clear hz_k0 hz_r
  have hz_k0 : w.heap.size < w2.heap.size := (Array.getElem?_eq_some_iff.1 k0).1
  have hz_r : w.heap.size + 1 < w2.heap.size := (Array.getElem?_eq_some_iff.1 r).1
  clear hB2
  have hmd3 := hmd2
  obtain ⟨A2, c2, rfl, hr2⟩ := hmd2
  have hgl : ∀ G, g2 = some G → gO = some G ∨ w.heap.size + 2 ≤ G := fun G e => (hg2 G e).imp id (fun h => by omega)
  have hmk := hmB _ hw2
  generalize hL : ws2.length = N2 at *
  have HL := Lib.hid hL
  clear k0_0 k0_1 k0_2 k0_3 k0_4 k0_5 k0_f r_0 r_1 r_2 r_3 r_4 r_5 r_f
  have k0_0 : w2.cell? ⟨w.heap.size, 0, none⟩ = some (.int .i64 0) := by rw [cell_of_block k0]; rfl
  have k0_1 : w2.cell? ⟨w.heap.size, 1, none⟩ = some (.int .i64 lo) := by rw [cell_of_block k0]; rfl
  have k0_2 : w2.cell? ⟨w.heap.size, 2, none⟩ = some (.slice aO nO cO) := by rw [cell_of_block k0]; rfl
  have k0_3 : w2.cell? ⟨w.heap.size, 3, none⟩ = some (.int .i64 16777216) := by rw [cell_of_block k0]; rfl
  have k0_4 : w2.cell? ⟨w.heap.size, 4, none⟩ = some (.int .i64 ly) := by rw [cell_of_block k0]; rfl
  have k0_5 : w2.cell? ⟨w.heap.size, 5, none⟩ = some (.slice aY nY cY) := by rw [cell_of_block k0]; rfl
  have k0_f : ∀ i, w2.frozen? ⟨w.heap.size, i, none⟩ = false := frozen_of_block k0
  have r_0 : w2.cell? ⟨w.heap.size + 1, 0, none⟩ = some (.int .i64 0) := by rw [cell_of_block r]; rfl
  have r_1 : w2.cell? ⟨w.heap.size + 1, 1, none⟩ = some (.int .i64 0) := by rw [cell_of_block r]; rfl
  have r_2 : w2.cell? ⟨w.heap.size + 1, 2, none⟩ = some (.slice none 0 0) := by rw [cell_of_block r]; rfl
  have r_3 : w2.cell? ⟨w.heap.size + 1, 3, none⟩ = some (.int .i64 0) := by rw [cell_of_block r]; rfl
  have r_4 : w2.cell? ⟨w.heap.size + 1, 4, none⟩ = some (.int .i64 0) := by rw [cell_of_block r]; rfl
  have r_5 : w2.cell? ⟨w.heap.size + 1, 5, none⟩ = some (.slice none 0 0) := by rw [cell_of_block r]; rfl
  have r_f : ∀ i, w2.frozen? ⟨w.heap.size + 1, i, none⟩ = false := frozen_of_block r
  have hRM : RMem w2 A2 N2 c2 aY nY cY lo ly ws2 wy g2 gY := ⟨hL, hmk.lY, hr2, hmk.yng, hk2, hmk.okY, hmk.lim⟩
  clear hL hr2 hmd3 hmk hS hC hmB hg2
  go_wp2
  refine bodyPost_ret (v := .tuple #[.agg #[.int .i64 0, .int .i64 lo, .slice A2 N2 c2, .int .i64 16777216, .int .i64 ly, .slice aY nY cY], .int .i64 er]) (by simp [results, Try.results61, go_sem, k0_0, k0_1, k0_2, k0_3, k0_4, k0_5, k0_f, r_0, r_1, r_2, r_3, r_4, r_5, r_f, hz_k0, hz_r]) rfl ?_
  refine rnext_fin (w := w) (wk := w2) (mk := fun v => .tuple #[v, .int .i64 er]) hm hRM ?_ hgl (fun G e => .inl e) ?_
  · (repeat (first | (with_reducible refine Mods.alloc ?_ _) | (with_reducible refine two_set ?_ _ _ _ (.inl rfl)) | (with_reducible refine two_set ?_ _ _ _ (.inr rfl)) | (with_reducible exact Mods.refl _ _)))
  · (repeat (first | (with_reducible refine balloc ?_ _) | (with_reducible refine below_set ?_ _ _ _ (Nat.le_refl _)) | (with_reducible refine below_set ?_ _ _ _ (Nat.le_add_right _ _)) | (with_reducible assumption)))
set_option maxRecDepth 100000 in
set_option maxHeartbeats 400000 in
theorem rmstore_Y {w : World} {aO : Option Addr} {nO cO : Nat} {aY : Option Addr} {nY cY : Nat} {lo ly : Int} {wo wy : List Int} {gO gY : Option Nat} (hm : RMem w aO nO cO aY nY cY lo ly wo wy gO gY) (a u : Int) (hu : U64 u) (hi : inB 0 wo.length a = false) :
    Calls Try.prog 61 #[.agg #[.int .i64 0, .int .i64 lo, .slice aO nO cO, .int .i64 16777216, .int .i64 ly, .slice aY nY cY], .int .i64 a, .int .u64 u] w (RNext w (fun v => .tuple #[v, .int .i64 (ioE 16777216 wy a)]) lo ly (wo) (stW 16777216 wy a u) gO gY) := by
  have hC := fun W (H : Below w.heap.size w W) => rcontains_any (hm.below H).mdO hm.okO a
  have hS := fun W (H : Below w.heap.size w W) => rstore_any (hm.below H).mdY hm.okY a u
  have hk2 := stOk hm.okY a hu
  have hmB := fun W (H : Below w.heap.size w W) => hm.below H
  rw [hi] at hC
  generalize ioE 16777216 wy a = er at *
  generalize hw2 : stW 16777216 wy a u = ws2 at *
  clear hi hw2 hu
  have hw0 : Below w.heap.size w w := Below.refl _ _
  go_enter Try.func61, Try.ntmps61
  go_wp2_with fail
  refine (hC _ (by (repeat (first | exact Below.refl _ _ | assumption | refine Below.drew ?_ | refine below_drewN ?_ _ | refine balloc ?_ _ | refine Below.setCell ?_ (by first | (simp; done) | (simp; omega) | omega) _ | refine bchain (by assumption) ?_)))).mono ?_
  rintro e w1 ⟨rfl, hb1⟩
  have hB1 : Below w.heap.size w w1 := by (repeat (first | exact Below.refl _ _ | assumption | refine Below.drew ?_ | refine below_drewN ?_ _ | refine balloc ?_ _ | refine Below.setCell ?_ (by first | (simp; done) | (simp; omega) | omega) _ | refine bchain (by assumption) ?_))
  have k0 : w1.heap[w.heap.size]? = some (.cells #[.int .i64 0, .int .i64 lo, .slice aO nO cO, .int .i64 16777216, .int .i64 ly, .slice aY nY cY] 35 (0, 0)) := bblock hb1 (by repeat (first | exact alloc_at _ (by simp) | refine alloc_lt _ ?_))
  have r : w1.heap[w.heap.size + 1]? = some (.cells #[.int .i64 0, .int .i64 0, .slice none 0 0, .int .i64 0, .int .i64 0, .slice none 0 0] 35 (0, 0)) := bblock hb1 (by repeat (first | exact alloc_at _ (by simp) | refine alloc_lt _ ?_))
  have hw1 := bchain hB1 hw0
  have hp1 : w.heap.size + 2 ≤ w1.heap.size := by have := (Array.getElem?_eq_some_iff.1 r).1; omega
  have hz_k0 : w.heap.size < w1.heap.size := (Array.getElem?_eq_some_iff.1 k0).1
  have hz_r : w.heap.size + 1 < w1.heap.size := (Array.getElem?_eq_some_iff.1 r).1
  clear hB1
  have k0_0 : w1.cell? ⟨w.heap.size, 0, none⟩ = some (.int .i64 0) := by rw [cell_of_block k0]; rfl
  have k0_1 : w1.cell? ⟨w.heap.size, 1, none⟩ = some (.int .i64 lo) := by rw [cell_of_block k0]; rfl
  have k0_2 : w1.cell? ⟨w.heap.size, 2, none⟩ = some (.slice aO nO cO) := by rw [cell_of_block k0]; rfl
  have k0_3 : w1.cell? ⟨w.heap.size, 3, none⟩ = some (.int .i64 16777216) := by rw [cell_of_block k0]; rfl
  have k0_4 : w1.cell? ⟨w.heap.size, 4, none⟩ = some (.int .i64 ly) := by rw [cell_of_block k0]; rfl
  have k0_5 : w1.cell? ⟨w.heap.size, 5, none⟩ = some (.slice aY nY cY) := by rw [cell_of_block k0]; rfl
  have k0_f : ∀ i, w1.frozen? ⟨w.heap.size, i, none⟩ = false := frozen_of_block k0
  have r_0 : w1.cell? ⟨w.heap.size + 1, 0, none⟩ = some (.int .i64 0) := by rw [cell_of_block r]; rfl
  have r_1 : w1.cell? ⟨w.heap.size + 1, 1, none⟩ = some (.int .i64 0) := by rw [cell_of_block r]; rfl
  have r_2 : w1.cell? ⟨w.heap.size + 1, 2, none⟩ = some (.slice none 0 0) := by rw [cell_of_block r]; rfl
  have r_3 : w1.cell? ⟨w.heap.size + 1, 3, none⟩ = some (.int .i64 0) := by rw [cell_of_block r]; rfl
  have r_4 : w1.cell? ⟨w.heap.size + 1, 4, none⟩ = some (.int .i64 0) := by rw [cell_of_block r]; rfl
  have r_5 : w1.cell? ⟨w.heap.size + 1, 5, none⟩ = some (.slice none 0 0) := by rw [cell_of_block r]; rfl
  have r_f : ∀ i, w1.frozen? ⟨w.heap.size + 1, i, none⟩ = false := frozen_of_block r
  go_wp2_with fail
  refine (hS _ (by (repeat (first | exact Below.refl _ _ | assumption | refine Below.drew ?_ | refine below_drewN ?_ _ | refine balloc ?_ _ | refine Below.setCell ?_ (by first | (simp; done) | (simp; omega) | omega) _ | refine bchain (by assumption) ?_)))).mono ?_
  rintro e w2 ⟨v2, rfl, g2, hmd2, hg2, hb2⟩
  have hB2 : Below w1.heap.size w1 w2 := by (repeat (first | exact Below.refl _ _ | assumption | refine Below.drew ?_ | refine below_drewN ?_ _ | refine balloc ?_ _ | refine Below.setCell ?_ (by first | (simp; done) | (simp; omega) | omega) _ | refine bchain (by assumption) ?_))
  have k0 := bblock hB2 k0
  have r := bblock hB2 r
  have hw2 := bchain hB2 hw1
  have hp2 : w.heap.size + 2 ≤ w2.heap.size := by have := (Array.getElem?_eq_some_iff.1 r).1; omega
  clear hz_k0 hz_r
  have hz_k0 : w.heap.size < w2.heap.size := (Array.getElem?_eq_some_iff.1 k0).1
  have hz_r : w.heap.size + 1 < w2.heap.size := (Array.getElem?_eq_some_iff.1 r).1
  clear hB2
  have hmd3 := hmd2
  obtain ⟨A2, c2, rfl, hr2⟩ := hmd2
  have hgl : ∀ G, g2 = some G → gY = some G ∨ w.heap.size + 2 ≤ G := fun G e => (hg2 G e).imp id (fun h => by omega)
  have hmk := hmB _ hw2
  generalize hL : ws2.length = N2 at *
  have HL := Lib.hid hL
  clear k0_0 k0_1 k0_2 k0_3 k0_4 k0_5 k0_f r_0 r_1 r_2 r_3 r_4 r_5 r_f
  have k0_0 : w2.cell? ⟨w.heap.size, 0, none⟩ = some (.int .i64 0) := by rw [cell_of_block k0]; rfl
  have k0_1 : w2.cell? ⟨w.heap.size, 1, none⟩ = some (.int .i64 lo) := by rw [cell_of_block k0]; rfl
  have k0_2 : w2.cell? ⟨w.heap.size, 2, none⟩ = some (.slice aO nO cO) := by rw [cell_of_block k0]; rfl
  have k0_3 : w2.cell? ⟨w.heap.size, 3, none⟩ = some (.int .i64 16777216) := by rw [cell_of_block k0]; rfl
  have k0_4 : w2.cell? ⟨w.heap.size, 4, none⟩ = some (.int .i64 ly) := by rw [cell_of_block k0]; rfl
  have k0_5 : w2.cell? ⟨w.heap.size, 5, none⟩ = some (.slice aY nY cY) := by rw [cell_of_block k0]; rfl
  have k0_f : ∀ i, w2.frozen? ⟨w.heap.size, i, none⟩ = false := frozen_of_block k0
  have r_0 : w2.cell? ⟨w.heap.size + 1, 0, none⟩ = some (.int .i64 0) := by rw [cell_of_block r]; rfl
  have r_1 : w2.cell? ⟨w.heap.size + 1, 1, none⟩ = some (.int .i64 0) := by rw [cell_of_block r]; rfl
  have r_2 : w2.cell? ⟨w.heap.size + 1, 2, none⟩ = some (.slice none 0 0) := by rw [cell_of_block r]; rfl
  have r_3 : w2.cell? ⟨w.heap.size + 1, 3, none⟩ = some (.int .i64 0) := by rw [cell_of_block r]; rfl
  have r_4 : w2.cell? ⟨w.heap.size + 1, 4, none⟩ = some (.int .i64 0) := by rw [cell_of_block r]; rfl
  have r_5 : w2.cell? ⟨w.heap.size + 1, 5, none⟩ = some (.slice none 0 0) := by rw [cell_of_block r]; rfl
  have r_f : ∀ i, w2.frozen? ⟨w.heap.size + 1, i, none⟩ = false := frozen_of_block r
  have hRM : RMem w2 aO nO cO A2 N2 c2 lo ly wo ws2 gO g2 := ⟨hmk.lO, hL, hmk.old, hr2, hmk.okO, hk2, hmk.lim⟩
  clear hL hr2 hmd3 hmk hS hC hmB hg2
  go_wp2
  refine bodyPost_ret (v := .tuple #[.agg #[.int .i64 0, .int .i64 lo, .slice aO nO cO, .int .i64 16777216, .int .i64 ly, .slice A2 N2 c2], .int .i64 er]) (by simp [results, Try.results61, go_sem, k0_0, k0_1, k0_2, k0_3, k0_4, k0_5, k0_f, r_0, r_1, r_2, r_3, r_4, r_5, r_f, hz_k0, hz_r]) rfl ?_
  refine rnext_fin (w := w) (wk := w2) (mk := fun v => .tuple #[v, .int .i64 er]) hm hRM ?_ (fun G e => .inl e) hgl ?_
  · (repeat (first | (with_reducible refine Mods.alloc ?_ _) | (with_reducible refine two_set ?_ _ _ _ (.inl rfl)) | (with_reducible refine two_set ?_ _ _ _ (.inr rfl)) | (with_reducible exact Mods.refl _ _)))
  · (repeat (first | (with_reducible refine balloc ?_ _) | (with_reducible refine below_set ?_ _ _ _ (Nat.le_refl _)) | (with_reducible refine below_set ?_ _ _ _ (Nat.le_add_right _ _)) | (with_reducible assumption)))
theorem rmstore_any {w : World} {aO : Option Addr} {nO cO : Nat} {aY : Option Addr} {nY cY : Nat} {lo ly : Int} {wo wy : List Int} {gO gY : Option Nat} (hm : RMem w aO nO cO aY nY cY lo ly wo wy gO gY) (a u : Int) (hu : U64 u) : Calls Try.prog 61 #[.agg #[.int .i64 0, .int .i64 lo, .slice aO nO cO, .int .i64 16777216, .int .i64 ly, .slice aY nY cY], .int .i64 a, .int .u64 u] w (RNext w (fun v => .tuple #[v, .int .i64 (LE wo wy a)]) lo ly (stO wo a u) (stY wy a u) gO gY) := by
  unfold LE stO stY
  rcases prt_same hm a with ⟨h1, h2, h3⟩ | ⟨h1, h2, h3⟩ | ⟨h1, h2, h3, h4⟩
  · have hn : ¬ 16777216 ≤ a := by
      obtain ⟨_, h5⟩ := inB_iff.1 h1
      have := hm.okO.top
      have := hm.lim
      omega
    rw [if_neg hn, if_neg hn, h2, h3]
    exact rmstore_O hm a u hu h1
  · have hn : 16777216 ≤ a := by
      unfold bsA at h2
      by_cases h : 16777216 ≤ a
      · exact h
      · rw [if_neg h] at h2; cases h2
    rw [if_pos hn, if_pos hn, h2, h3]
    exact rmstore_Y hm a u hu h1
  · have hn : ¬ 16777216 ≤ a := by
      unfold bsA at h2
      intro h
      rw [if_pos h] at h2; cases h2
    rw [if_neg hn, if_neg hn, h2, h3]
    have e1 : stW 0 wo a u = wo := by unfold stW; rw [h1]; rfl
    have e2 : ioE 0 wo a = ioE 16777216 wy a := by unfold ioE; rw [h1, h4]
    have e3 : stW 16777216 wy a u = wy := by unfold stW; rw [h4]; rfl
    have := rmstore_Y hm a u hu h1
    rw [e3] at this
    rw [e1, e2]
    exact this
end Go.Proofs.Ytcmhgjkijegpnaa
