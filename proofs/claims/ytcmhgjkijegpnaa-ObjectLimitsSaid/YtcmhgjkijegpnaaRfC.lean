/-
  refmeshref07.Header at every address, Load, ID, field, Field.
-/
import Derived.Test.YtcmhgjkijegpnaaRfB
namespace Go.Proofs.Ytcmhgjkijegpnaa
open Go.RowKit
set_option linter.unusedSimpArgs false
set_option linter.unusedVariables false

theorem rhdr_of {w : World} {aO : Option Addr} {nO cO : Nat} {aY : Option Addr} {nY cY : Nat} {lo ly : Int} {A : Option Addr} {n cap : Nat} {bs lm : Int} {ws : List Int} {g : Option Nat} {a : Int} (hP : ∀ W, Below w.heap.size w W → Calls Try.prog 65 #[.agg #[.int .i64 0, .int .i64 lo, .slice aO nO cO, .int .i64 16777216, .int .i64 ly, .slice aY nY cY], .int .i64 a] W fun e w' => e = .returned (.agg #[.int .i64 bs, .int .i64 lm, .slice A n cap]) ∧ Below W.heap.size W w') (hs : ∀ W, Below w.heap.size w W → MdAt W (.agg #[.int .i64 bs, .int .i64 lm, .slice A n cap]) bs lm ws g) (hk : SpOk bs lm ws) (hn : ws.length = n) : Calls Try.prog 31 #[.agg #[.int .i64 0, .int .i64 lo, .slice aO nO cO, .int .i64 16777216, .int .i64 ly, .slice aY nY cY], .int .i64 a] w fun e w' => e = .returned (.tuple #[.agg #[.int .i64 (hdK bs ws a), .int .i64 (hdC bs ws a), .int .i64 (hdF bs ws a)], .int .i64 (hdE bs ws a)]) ∧ Below w.heap.size w w' := by
  cases h : inB bs ws.length a
  · obtain ⟨e1, e2, e3, e4⟩ := hd_out h
    rw [e1, e2, e3, e4]
    exact rhdr_out hP hs hk hn h
  · have hob := obB_of h
    cases hd : decB (ldW bs ws a)
    · rw [hd] at hob
      obtain ⟨e1, e2, e3, e4⟩ := hd_bad h (by rw [hob]; simp)
      rw [e1, e2, e3, e4]
      exact rhdr_B hP hs hk hn h hd
    · cases h2 : inB bs ws.length (a + 1)
      · rw [h2] at hob
        obtain ⟨e1, e2, e3, e4⟩ := hd_bad h (by rw [hob]; rfl)
        rw [e1, e2, e3, e4]
        exact rhdr_A hP hs hk hn h hd h2
      · cases hi : didB (ldW bs ws (a + 1))
        · rw [h2, hd, hi] at hob
          obtain ⟨e1, e2, e3, e4⟩ := hd_bad h (by rw [hob]; rfl)
          rw [e1, e2, e3, e4]
          exact rhdr_C hP hs hk hn h h2 hd hi
        · cases hc : inB bs ws.length (a + wordsI (decF (ldW bs ws a)) - 1)
          · rw [h2, hd, hi, hc] at hob
            obtain ⟨e1, e2, e3, e4⟩ := hd_bad h (by rw [hob]; rfl)
            rw [e1, e2, e3, e4]
            exact rhdr_D hP hs hk hn h h2 hd hi hc
          · rw [h2, hd, hi, hc] at hob
            obtain ⟨e1, e2, e3, e4⟩ := hd_ok h (by rw [hob]; rfl)
            rw [e1, e2, e3, e4, ← ld_in h]
            exact rhdr_E hP hs hk hn h h2 hd hi hc
theorem rmhdr_any {w : World} {aO : Option Addr} {nO cO : Nat} {aY : Option Addr} {nY cY : Nat} {lo ly : Int} {wo wy : List Int} {gO gY : Option Nat} (hm : RMem w aO nO cO aY nY cY lo ly wo wy gO gY) (a : Int) : Calls Try.prog 31 #[.agg #[.int .i64 0, .int .i64 lo, .slice aO nO cO, .int .i64 16777216, .int .i64 ly, .slice aY nY cY], .int .i64 a] w fun e w' => e = .returned (.tuple #[.agg #[.int .i64 (HK wo wy a), .int .i64 (HC wo wy a), .int .i64 (HF wo wy a)], .int .i64 (HE wo wy a)]) ∧ Below w.heap.size w w' := by
  unfold HE HK HC HF
  rcases prt_same hm a with ⟨h1, h2, h3⟩ | ⟨h1, h2, h3⟩ | ⟨h1, h2, h3, h4⟩
  · rw [h2, h3]
    exact rhdr_of (fun W H => rpart_O (hm.below H) a h1) (fun W H => (hm.below H).mdO) hm.okO hm.lO
  · rw [h2, h3]
    exact rhdr_of (fun W H => rpart_Y (hm.below H) a h1) (fun W H => (hm.below H).mdY) hm.okY hm.lY
  · rw [h2, h3]
    obtain ⟨e1, e2, e3, e4⟩ := hd_out h1
    rw [e1, e2, e3, e4]
    exact rhdr_out (fun W H => rpart_Y (hm.below H) a h1) (fun W H => (hm.below H).mdY) hm.okY hm.lY h4
set_option maxRecDepth 100000 in
set_option maxHeartbeats 1000000 in
theorem rmload_of {w : World} {aO : Option Addr} {nO cO : Nat} {aY : Option Addr} {nY cY : Nat} {lo ly : Int} {A : Option Addr} {n cap : Nat} {bs lm : Int} {a : Int} (hP : ∀ W, Below w.heap.size w W → Calls Try.prog 65 #[.agg #[.int .i64 0, .int .i64 lo, .slice aO nO cO, .int .i64 16777216, .int .i64 ly, .slice aY nY cY], .int .i64 a] W fun e w' => e = .returned (.agg #[.int .i64 bs, .int .i64 lm, .slice A n cap]) ∧ Below W.heap.size W w') (x y : Int) (hL : ∀ W, Below w.heap.size w W → Calls Try.prog 64 #[.agg #[.int .i64 bs, .int .i64 lm, .slice A n cap], .int .i64 a] W fun e w' => e = .returned (.tuple #[.int .u64 x, .int .i64 y]) ∧ Below W.heap.size W w') :
    Calls Try.prog 30 #[.agg #[.int .i64 0, .int .i64 lo, .slice aO nO cO, .int .i64 16777216, .int .i64 ly, .slice aY nY cY], .int .i64 a] w fun e w' => e = .returned (.tuple #[.int .u64 x, .int .i64 y]) ∧ Below w.heap.size w w' := by
  have hw0 : Below w.heap.size w w := Below.refl _ _
  go_enter Try.func30, Try.ntmps30
  go_wp2_with fail
  refine (hP _ (by (repeat (first | exact Below.refl _ _ | assumption | refine Below.drew ?_ | refine below_drewN ?_ _ | refine balloc ?_ _ | refine Below.setCell ?_ (by first | (simp; done) | (simp; omega) | omega) _ | refine bchain (by assumption) ?_)))).mono ?_
  rintro e w1 ⟨rfl, hb1⟩
  have hB1 : Below w.heap.size w w1 := by (repeat (first | exact Below.refl _ _ | assumption | refine Below.drew ?_ | refine below_drewN ?_ _ | refine balloc ?_ _ | refine Below.setCell ?_ (by first | (simp; done) | (simp; omega) | omega) _ | refine bchain (by assumption) ?_))
  have k0 : w1.heap[w.heap.size]? = some (.cells #[.int .i64 0, .int .i64 lo, .slice aO nO cO, .int .i64 16777216, .int .i64 ly, .slice aY nY cY] 35 (0, 0)) := bblock hb1 (by repeat (first | exact alloc_at _ (by simp) | refine alloc_lt _ ?_))
  have hw1 := bchain hB1 hw0
  have hz_k0 : w.heap.size < w1.heap.size := (Array.getElem?_eq_some_iff.1 k0).1
  clear hB1
  have k0_0 : w1.cell? ⟨w.heap.size, 0, none⟩ = some (.int .i64 0) := by rw [cell_of_block k0]; rfl
  have k0_1 : w1.cell? ⟨w.heap.size, 1, none⟩ = some (.int .i64 lo) := by rw [cell_of_block k0]; rfl
  have k0_2 : w1.cell? ⟨w.heap.size, 2, none⟩ = some (.slice aO nO cO) := by rw [cell_of_block k0]; rfl
  have k0_3 : w1.cell? ⟨w.heap.size, 3, none⟩ = some (.int .i64 16777216) := by rw [cell_of_block k0]; rfl
  have k0_4 : w1.cell? ⟨w.heap.size, 4, none⟩ = some (.int .i64 ly) := by rw [cell_of_block k0]; rfl
  have k0_5 : w1.cell? ⟨w.heap.size, 5, none⟩ = some (.slice aY nY cY) := by rw [cell_of_block k0]; rfl
  go_wp2_with fail
  refine (hL _ (by (repeat (first | exact Below.refl _ _ | assumption | refine Below.drew ?_ | refine below_drewN ?_ _ | refine balloc ?_ _ | refine Below.setCell ?_ (by first | (simp; done) | (simp; omega) | omega) _ | refine bchain (by assumption) ?_)))).mono ?_
  rintro e w2 ⟨rfl, hb2⟩
  have hB2 : Below w1.heap.size w1 w2 := by (repeat (first | exact Below.refl _ _ | assumption | refine Below.drew ?_ | refine below_drewN ?_ _ | refine balloc ?_ _ | refine Below.setCell ?_ (by first | (simp; done) | (simp; omega) | omega) _ | refine bchain (by assumption) ?_))
  have k0 := bblock hB2 k0
  have hw2 := bchain hB2 hw1
  clear hz_k0
  have hz_k0 : w.heap.size < w2.heap.size := (Array.getElem?_eq_some_iff.1 k0).1
  clear hB2
  clear k0_0 k0_1 k0_2 k0_3 k0_4 k0_5
  have k0_0 : w2.cell? ⟨w.heap.size, 0, none⟩ = some (.int .i64 0) := by rw [cell_of_block k0]; rfl
  have k0_1 : w2.cell? ⟨w.heap.size, 1, none⟩ = some (.int .i64 lo) := by rw [cell_of_block k0]; rfl
  have k0_2 : w2.cell? ⟨w.heap.size, 2, none⟩ = some (.slice aO nO cO) := by rw [cell_of_block k0]; rfl
  have k0_3 : w2.cell? ⟨w.heap.size, 3, none⟩ = some (.int .i64 16777216) := by rw [cell_of_block k0]; rfl
  have k0_4 : w2.cell? ⟨w.heap.size, 4, none⟩ = some (.int .i64 ly) := by rw [cell_of_block k0]; rfl
  have k0_5 : w2.cell? ⟨w.heap.size, 5, none⟩ = some (.slice aY nY cY) := by rw [cell_of_block k0]; rfl
  go_wp2
  go_ret2
  exact ⟨rfl, by (repeat (first | exact Below.refl _ _ | assumption | refine Below.drew ?_ | refine below_drewN ?_ _ | refine balloc ?_ _ | refine Below.setCell ?_ (by first | (simp; done) | (simp; omega) | omega) _ | refine bchain (by assumption) ?_))⟩
theorem rmload_any {w : World} {aO : Option Addr} {nO cO : Nat} {aY : Option Addr} {nY cY : Nat} {lo ly : Int} {wo wy : List Int} {gO gY : Option Nat} (hm : RMem w aO nO cO aY nY cY lo ly wo wy gO gY) (a : Int) : Calls Try.prog 30 #[.agg #[.int .i64 0, .int .i64 lo, .slice aO nO cO, .int .i64 16777216, .int .i64 ly, .slice aY nY cY], .int .i64 a] w fun e w' => e = .returned (.tuple #[.int .u64 (LD wo wy a), .int .i64 (LE wo wy a)]) ∧ Below w.heap.size w w' := by
  unfold LD LE
  rcases prt_same hm a with ⟨h1, h2, h3⟩ | ⟨h1, h2, h3⟩ | ⟨h1, h2, h3, h4⟩
  · rw [h2, h3]
    exact rmload_of (lm := lo) (A := aO) (n := nO) (cap := cO) (bs := 0) (fun W H => rpart_O (hm.below H) a h1) _ _ (fun W H => rload_any (hm.below H).mdO hm.okO hm.lO a)
  · rw [h2, h3]
    exact rmload_of (lm := ly) (A := aY) (n := nY) (cap := cY) (bs := 16777216) (fun W H => rpart_Y (hm.below H) a h1) _ _ (fun W H => rload_any (hm.below H).mdY hm.okY hm.lY a)
  · rw [h2, h3]
    have e1 : ldW 0 wo a = ldW 16777216 wy a := by unfold ldW; rw [h1, h4]; rfl
    have e2 : ioE 0 wo a = ioE 16777216 wy a := by unfold ioE; rw [h1, h4]
    rw [e1, e2]
    exact rmload_of (lm := ly) (A := aY) (n := nY) (cap := cY) (bs := 16777216) (fun W H => rpart_Y (hm.below H) a h1) _ _ (fun W H => rload_any (hm.below H).mdY hm.okY hm.lY a)
theorem RMem.partOk {w : World} {aO : Option Addr} {nO cO : Nat} {aY : Option Addr} {nY cY : Nat} {lo ly : Int} {wo wy : List Int} {gO gY : Option Nat} (h : RMem w aO nO cO aY nY cY lo ly wo wy gO gY) (a : Int) : SpOk (bsA a) (lmA lo ly a) (wsA wo wy a) := by
  unfold bsA lmA wsA
  split
  · exact h.okY
  · exact h.okO
theorem RMem.ldU {w : World} {aO : Option Addr} {nO cO : Nat} {aY : Option Addr} {nY cY : Nat} {lo ly : Int} {wo wy : List Int} {gO gY : Option Nat} (h : RMem w aO nO cO aY nY cY lo ly wo wy gO gY) (a : Int) : U64 (LD wo wy a) := Proofs.Ytcmhgjkijegpnaa.ldU (h.partOk a) a
set_option maxRecDepth 100000 in
set_option maxHeartbeats 1000000 in
theorem rmid_no {w : World} {aO : Option Addr} {nO cO : Nat} {aY : Option Addr} {nY cY : Nat} {lo ly : Int} {wo wy : List Int} {gO gY : Option Nat} (hm : RMem w aO nO cO aY nY cY lo ly wo wy gO gY) (a : Int) (he : HE wo wy a ≠ 0) :
    Calls Try.prog 32 #[.agg #[.int .i64 0, .int .i64 lo, .slice aO nO cO, .int .i64 16777216, .int .i64 ly, .slice aY nY cY], .int .i64 a] w fun e w' => e = .returned (.tuple #[.agg #[.int .i64 0, .int .i64 0], .int .i64 (HE wo wy a)]) ∧ Below w.heap.size w w' := by
  have hH := fun W (h : Below w.heap.size w W) => rmhdr_any (hm.below h) a
  generalize HK wo wy a = hk at *
  generalize HC wo wy a = hc at *
  generalize HF wo wy a = hf at *
  generalize HE wo wy a = er at *
  have hb1 : (er != 0) = true := by simpa using he
  clear hm he
  have hw0 : Below w.heap.size w w := Below.refl _ _
  go_enter Try.func32, Try.ntmps32
  go_wp2_with fail
  refine (hH _ (by (repeat (first | exact Below.refl _ _ | assumption | refine Below.drew ?_ | refine below_drewN ?_ _ | refine balloc ?_ _ | refine Below.setCell ?_ (by first | (simp; done) | (simp; omega) | omega) _ | refine bchain (by assumption) ?_)))).mono ?_
  rintro e w1 ⟨rfl, hb1⟩
  have hB1 : Below w.heap.size w w1 := by (repeat (first | exact Below.refl _ _ | assumption | refine Below.drew ?_ | refine below_drewN ?_ _ | refine balloc ?_ _ | refine Below.setCell ?_ (by first | (simp; done) | (simp; omega) | omega) _ | refine bchain (by assumption) ?_))
  have k0 : w1.heap[w.heap.size]? = some (.cells #[.int .i64 0, .int .i64 lo, .slice aO nO cO, .int .i64 16777216, .int .i64 ly, .slice aY nY cY] 35 (0, 0)) := bblock hb1 (by repeat (first | exact alloc_at _ (by simp) | refine alloc_lt _ ?_))
  have r : w1.heap[w.heap.size + 1]? = some (.cells #[.int .i64 0, .int .i64 0] 25 (0, 0)) := bblock hb1 (by repeat (first | exact alloc_at _ (by simp) | refine alloc_lt _ ?_))
  have hw1 := bchain hB1 hw0
  have hz_k0 : w.heap.size < w1.heap.size := (Array.getElem?_eq_some_iff.1 k0).1
  have hz_r : w.heap.size + 1 < w1.heap.size := (Array.getElem?_eq_some_iff.1 r).1
  clear hB1
  have k0_0 : w1.cell? ⟨w.heap.size, 0, none⟩ = some (.int .i64 0) := by rw [cell_of_block k0]; rfl
  have k0_1 : w1.cell? ⟨w.heap.size, 1, none⟩ = some (.int .i64 lo) := by rw [cell_of_block k0]; rfl
  have k0_2 : w1.cell? ⟨w.heap.size, 2, none⟩ = some (.slice aO nO cO) := by rw [cell_of_block k0]; rfl
  have k0_3 : w1.cell? ⟨w.heap.size, 3, none⟩ = some (.int .i64 16777216) := by rw [cell_of_block k0]; rfl
  have k0_4 : w1.cell? ⟨w.heap.size, 4, none⟩ = some (.int .i64 ly) := by rw [cell_of_block k0]; rfl
  have k0_5 : w1.cell? ⟨w.heap.size, 5, none⟩ = some (.slice aY nY cY) := by rw [cell_of_block k0]; rfl
  have r_0 : w1.cell? ⟨w.heap.size + 1, 0, none⟩ = some (.int .i64 0) := by rw [cell_of_block r]; rfl
  have r_1 : w1.cell? ⟨w.heap.size + 1, 1, none⟩ = some (.int .i64 0) := by rw [cell_of_block r]; rfl
  have r_f : ∀ i, w1.frozen? ⟨w.heap.size + 1, i, none⟩ = false := frozen_of_block r
  go_wp2
  exact bodyPost_ret (v := .tuple #[.agg #[.int .i64 0, .int .i64 0], .int .i64 er]) (by simp [results, Try.results32, go_sem, k0_0, k0_1, k0_2, k0_3, k0_4, k0_5, r_0, r_1, r_f, hz_k0, hz_r]) rfl ⟨rfl, by (repeat (first | exact Below.refl _ _ | assumption | refine Below.drew ?_ | refine below_drewN ?_ _ | refine balloc ?_ _ | refine Below.setCell ?_ (by first | (simp; done) | (simp; omega) | omega) _ | refine bchain (by assumption) ?_))⟩
set_option maxRecDepth 100000 in
set_option maxHeartbeats 1000000 in
theorem rmid_yes {w : World} {aO : Option Addr} {nO cO : Nat} {aY : Option Addr} {nY cY : Nat} {lo ly : Int} {wo wy : List Int} {gO gY : Option Nat} (hm : RMem w aO nO cO aY nY cY lo ly wo wy gO gY) (a : Int) (he : HE wo wy a = 0) :
    Calls Try.prog 32 #[.agg #[.int .i64 0, .int .i64 lo, .slice aO nO cO, .int .i64 16777216, .int .i64 ly, .slice aY nY cY], .int .i64 a] w fun e w' => e = .returned (.tuple #[.agg #[.int .i64 (iM (LD wo wy (a + 1))), .int .i64 (iS (LD wo wy (a + 1)))], .int .i64 0]) ∧ Below w.heap.size w w' := by
  have hH := fun W (h : Below w.heap.size w W) => rmhdr_any (hm.below h) a
  have hL := fun W (h : Below w.heap.size w W) => rmload_any (hm.below h) (a + 1)
  have hx := hm.ldU (a + 1)
  have hbd := HE_bd he
  have hk1 := (hm.partOk a).b0
  have hk2 := (hm.partOk a).top
  have hk3 := (hm.partOk a).lm1
  have hx0 : 0 ≤ wordsI (HF wo wy a) := by unfold wordsI; split <;> omega
  have ha : 0 ≤ a ∧ a ≤ 1099511627776 := by omega
  rw [he] at hH
  generalize HK wo wy a = hk at *
  generalize HC wo wy a = hc at *
  generalize HF wo wy a = hf at *
  generalize LD wo wy (a + 1) = x at *
  generalize LE wo wy (a + 1) = y at *
  have hI := fun W => rdecodeID_any x hx W
  generalize iM x = im at *
  generalize iS x = is at *
  clear hm he hx hbd hk1 hk2 hk3 hx0
  have hw0 : Below w.heap.size w w := Below.refl _ _
  go_enter Try.func32, Try.ntmps32
  go_wp2_with fail
  refine (hH _ (by (repeat (first | exact Below.refl _ _ | assumption | refine Below.drew ?_ | refine below_drewN ?_ _ | refine balloc ?_ _ | refine Below.setCell ?_ (by first | (simp; done) | (simp; omega) | omega) _ | refine bchain (by assumption) ?_)))).mono ?_
  rintro e w1 ⟨rfl, hb1⟩
  have hB1 : Below w.heap.size w w1 := by (repeat (first | exact Below.refl _ _ | assumption | refine Below.drew ?_ | refine below_drewN ?_ _ | refine balloc ?_ _ | refine Below.setCell ?_ (by first | (simp; done) | (simp; omega) | omega) _ | refine bchain (by assumption) ?_))
  have k0 : w1.heap[w.heap.size]? = some (.cells #[.int .i64 0, .int .i64 lo, .slice aO nO cO, .int .i64 16777216, .int .i64 ly, .slice aY nY cY] 35 (0, 0)) := bblock hb1 (by repeat (first | exact alloc_at _ (by simp) | refine alloc_lt _ ?_))
  have r : w1.heap[w.heap.size + 1]? = some (.cells #[.int .i64 0, .int .i64 0] 25 (0, 0)) := bblock hb1 (by repeat (first | exact alloc_at _ (by simp) | refine alloc_lt _ ?_))
  have hw1 := bchain hB1 hw0
  have hz_k0 : w.heap.size < w1.heap.size := (Array.getElem?_eq_some_iff.1 k0).1
  have hz_r : w.heap.size + 1 < w1.heap.size := (Array.getElem?_eq_some_iff.1 r).1
  clear hB1
  have k0_0 : w1.cell? ⟨w.heap.size, 0, none⟩ = some (.int .i64 0) := by rw [cell_of_block k0]; rfl
  have k0_1 : w1.cell? ⟨w.heap.size, 1, none⟩ = some (.int .i64 lo) := by rw [cell_of_block k0]; rfl
  have k0_2 : w1.cell? ⟨w.heap.size, 2, none⟩ = some (.slice aO nO cO) := by rw [cell_of_block k0]; rfl
  have k0_3 : w1.cell? ⟨w.heap.size, 3, none⟩ = some (.int .i64 16777216) := by rw [cell_of_block k0]; rfl
  have k0_4 : w1.cell? ⟨w.heap.size, 4, none⟩ = some (.int .i64 ly) := by rw [cell_of_block k0]; rfl
  have k0_5 : w1.cell? ⟨w.heap.size, 5, none⟩ = some (.slice aY nY cY) := by rw [cell_of_block k0]; rfl
  have r_0 : w1.cell? ⟨w.heap.size + 1, 0, none⟩ = some (.int .i64 0) := by rw [cell_of_block r]; rfl
  have r_1 : w1.cell? ⟨w.heap.size + 1, 1, none⟩ = some (.int .i64 0) := by rw [cell_of_block r]; rfl
  have r_f : ∀ i, w1.frozen? ⟨w.heap.size + 1, i, none⟩ = false := frozen_of_block r
  go_wp2_with fail
  refine (hL _ (by (repeat (first | exact Below.refl _ _ | assumption | refine Below.drew ?_ | refine below_drewN ?_ _ | refine balloc ?_ _ | refine Below.setCell ?_ (by first | (simp; done) | (simp; omega) | omega) _ | refine bchain (by assumption) ?_)))).mono ?_
  rintro e w2 ⟨rfl, hb2⟩
  have hB2 : Below w1.heap.size w1 w2 := by (repeat (first | exact Below.refl _ _ | assumption | refine Below.drew ?_ | refine below_drewN ?_ _ | refine balloc ?_ _ | refine Below.setCell ?_ (by first | (simp; done) | (simp; omega) | omega) _ | refine bchain (by assumption) ?_))
  have k0 := bblock hB2 k0
  have r := bblock hB2 r
  have t : w2.heap[w1.heap.size]? = some (.cells #[.int .i64 hk, .int .i64 hc, .int .i64 hf] 23 (0, 0)) := bblock hb2 (by repeat (first | exact alloc_at _ (by simp) | refine alloc_lt _ ?_))
  have hw2 := bchain hB2 hw1
  clear hz_k0 hz_r
  have hz_k0 : w.heap.size < w2.heap.size := (Array.getElem?_eq_some_iff.1 k0).1
  have hz_r : w.heap.size + 1 < w2.heap.size := (Array.getElem?_eq_some_iff.1 r).1
  have hz_t : w1.heap.size < w2.heap.size := (Array.getElem?_eq_some_iff.1 t).1
  clear hB2
  clear k0_0 k0_1 k0_2 k0_3 k0_4 k0_5 r_0 r_1 r_f
  have k0_0 : w2.cell? ⟨w.heap.size, 0, none⟩ = some (.int .i64 0) := by rw [cell_of_block k0]; rfl
  have k0_1 : w2.cell? ⟨w.heap.size, 1, none⟩ = some (.int .i64 lo) := by rw [cell_of_block k0]; rfl
  have k0_2 : w2.cell? ⟨w.heap.size, 2, none⟩ = some (.slice aO nO cO) := by rw [cell_of_block k0]; rfl
  have k0_3 : w2.cell? ⟨w.heap.size, 3, none⟩ = some (.int .i64 16777216) := by rw [cell_of_block k0]; rfl
  have k0_4 : w2.cell? ⟨w.heap.size, 4, none⟩ = some (.int .i64 ly) := by rw [cell_of_block k0]; rfl
  have k0_5 : w2.cell? ⟨w.heap.size, 5, none⟩ = some (.slice aY nY cY) := by rw [cell_of_block k0]; rfl
  have r_0 : w2.cell? ⟨w.heap.size + 1, 0, none⟩ = some (.int .i64 0) := by rw [cell_of_block r]; rfl
  have r_1 : w2.cell? ⟨w.heap.size + 1, 1, none⟩ = some (.int .i64 0) := by rw [cell_of_block r]; rfl
  have r_f : ∀ i, w2.frozen? ⟨w.heap.size + 1, i, none⟩ = false := frozen_of_block r
  have t_0 : w2.cell? ⟨w1.heap.size, 0, none⟩ = some (.int .i64 hk) := by rw [cell_of_block t]; rfl
  have t_1 : w2.cell? ⟨w1.heap.size, 1, none⟩ = some (.int .i64 hc) := by rw [cell_of_block t]; rfl
  have t_2 : w2.cell? ⟨w1.heap.size, 2, none⟩ = some (.int .i64 hf) := by rw [cell_of_block t]; rfl
  go_wp2_with fail
  refine (hI _).mono ?_
  rintro e w3 ⟨rfl, hb3⟩
  have hB3 : Below w2.heap.size w2 w3 := by (repeat (first | exact Below.refl _ _ | assumption | refine Below.drew ?_ | refine below_drewN ?_ _ | refine balloc ?_ _ | refine Below.setCell ?_ (by first | (simp; done) | (simp; omega) | omega) _ | refine bchain (by assumption) ?_))
  have k0 := bblock hB3 k0
  have r := bblock hB3 r
  have t := bblock hB3 t
  have hw3 := bchain hB3 hw2
  clear hz_k0 hz_r hz_t
  have hz_k0 : w.heap.size < w3.heap.size := (Array.getElem?_eq_some_iff.1 k0).1
  have hz_r : w.heap.size + 1 < w3.heap.size := (Array.getElem?_eq_some_iff.1 r).1
  have hz_t : w1.heap.size < w3.heap.size := (Array.getElem?_eq_some_iff.1 t).1
  clear hB3
  clear k0_0 k0_1 k0_2 k0_3 k0_4 k0_5 r_0 r_1 r_f t_0 t_1 t_2
  have k0_0 : w3.cell? ⟨w.heap.size, 0, none⟩ = some (.int .i64 0) := by rw [cell_of_block k0]; rfl
  have k0_1 : w3.cell? ⟨w.heap.size, 1, none⟩ = some (.int .i64 lo) := by rw [cell_of_block k0]; rfl
  have k0_2 : w3.cell? ⟨w.heap.size, 2, none⟩ = some (.slice aO nO cO) := by rw [cell_of_block k0]; rfl
  have k0_3 : w3.cell? ⟨w.heap.size, 3, none⟩ = some (.int .i64 16777216) := by rw [cell_of_block k0]; rfl
  have k0_4 : w3.cell? ⟨w.heap.size, 4, none⟩ = some (.int .i64 ly) := by rw [cell_of_block k0]; rfl
  have k0_5 : w3.cell? ⟨w.heap.size, 5, none⟩ = some (.slice aY nY cY) := by rw [cell_of_block k0]; rfl
  have r_0 : w3.cell? ⟨w.heap.size + 1, 0, none⟩ = some (.int .i64 0) := by rw [cell_of_block r]; rfl
  have r_1 : w3.cell? ⟨w.heap.size + 1, 1, none⟩ = some (.int .i64 0) := by rw [cell_of_block r]; rfl
  have r_f : ∀ i, w3.frozen? ⟨w.heap.size + 1, i, none⟩ = false := frozen_of_block r
  have t_0 : w3.cell? ⟨w1.heap.size, 0, none⟩ = some (.int .i64 hk) := by rw [cell_of_block t]; rfl
  have t_1 : w3.cell? ⟨w1.heap.size, 1, none⟩ = some (.int .i64 hc) := by rw [cell_of_block t]; rfl
  have t_2 : w3.cell? ⟨w1.heap.size, 2, none⟩ = some (.int .i64 hf) := by rw [cell_of_block t]; rfl
  go_wp2
  exact bodyPost_ret (v := .tuple #[.agg #[.int .i64 im, .int .i64 is], .int .i64 0]) (by simp [results, Try.results32, go_sem, k0_0, k0_1, k0_2, k0_3, k0_4, k0_5, r_0, r_1, r_f, t_0, t_1, t_2, hz_k0, hz_r, hz_t]) rfl ⟨rfl, by (repeat (first | exact Below.refl _ _ | assumption | refine Below.drew ?_ | refine below_drewN ?_ _ | refine balloc ?_ _ | refine Below.setCell ?_ (by first | (simp; done) | (simp; omega) | omega) _ | refine bchain (by assumption) ?_))⟩
theorem rmid_any {w : World} {aO : Option Addr} {nO cO : Nat} {aY : Option Addr} {nY cY : Nat} {lo ly : Int} {wo wy : List Int} {gO gY : Option Nat} (hm : RMem w aO nO cO aY nY cY lo ly wo wy gO gY) (a : Int) : Calls Try.prog 32 #[.agg #[.int .i64 0, .int .i64 lo, .slice aO nO cO, .int .i64 16777216, .int .i64 ly, .slice aY nY cY], .int .i64 a] w fun e w' => e = .returned (.tuple #[.agg #[.int .i64 (OM wo wy a), .int .i64 (OS wo wy a)], .int .i64 (HE wo wy a)]) ∧ Below w.heap.size w w' := by
  unfold OM OS
  by_cases he : HE wo wy a = 0
  · rw [he]
    exact rmid_yes hm a he
  · rw [if_neg he, if_neg he]
    exact rmid_no hm a he
set_option maxRecDepth 100000 in
set_option maxHeartbeats 1000000 in
theorem rfield_e {w : World} {aO : Option Addr} {nO cO : Nat} {aY : Option Addr} {nY cY : Nat} {lo ly : Int} {wo wy : List Int} {gO gY : Option Nat} (hm : RMem w aO nO cO aY nY cY lo ly wo wy gO gY) (a i : Int) (he : HE wo wy a ≠ 0) :
    Calls Try.prog 70 #[.agg #[.int .i64 0, .int .i64 lo, .slice aO nO cO, .int .i64 16777216, .int .i64 ly, .slice aY nY cY], .int .i64 a, .int .i64 i] w fun e w' => e = .returned (.int .i64 (HE wo wy a)) ∧ Below w.heap.size w w' := by
  have hH := fun W (h : Below w.heap.size w W) => rmhdr_any (hm.below h) a
  generalize HK wo wy a = hk at *
  generalize HC wo wy a = hc at *
  generalize HF wo wy a = hf at *
  generalize HE wo wy a = er at *
  have hb1 : (er != 0) = true := by simpa using he
  clear hm he
  have hw0 : Below w.heap.size w w := Below.refl _ _
  go_enter Try.func70, Try.ntmps70
  go_wp2_with fail
  refine (hH _ (by (repeat (first | exact Below.refl _ _ | assumption | refine Below.drew ?_ | refine below_drewN ?_ _ | refine balloc ?_ _ | refine Below.setCell ?_ (by first | (simp; done) | (simp; omega) | omega) _ | refine bchain (by assumption) ?_)))).mono ?_
  rintro e w1 ⟨rfl, hb1⟩
  have hB1 : Below w.heap.size w w1 := by (repeat (first | exact Below.refl _ _ | assumption | refine Below.drew ?_ | refine below_drewN ?_ _ | refine balloc ?_ _ | refine Below.setCell ?_ (by first | (simp; done) | (simp; omega) | omega) _ | refine bchain (by assumption) ?_))
  have k0 : w1.heap[w.heap.size]? = some (.cells #[.int .i64 0, .int .i64 lo, .slice aO nO cO, .int .i64 16777216, .int .i64 ly, .slice aY nY cY] 35 (0, 0)) := bblock hb1 (by repeat (first | exact alloc_at _ (by simp) | refine alloc_lt _ ?_))
  have hw1 := bchain hB1 hw0
  have hz_k0 : w.heap.size < w1.heap.size := (Array.getElem?_eq_some_iff.1 k0).1
  clear hB1
  have k0_0 : w1.cell? ⟨w.heap.size, 0, none⟩ = some (.int .i64 0) := by rw [cell_of_block k0]; rfl
  have k0_1 : w1.cell? ⟨w.heap.size, 1, none⟩ = some (.int .i64 lo) := by rw [cell_of_block k0]; rfl
  have k0_2 : w1.cell? ⟨w.heap.size, 2, none⟩ = some (.slice aO nO cO) := by rw [cell_of_block k0]; rfl
  have k0_3 : w1.cell? ⟨w.heap.size, 3, none⟩ = some (.int .i64 16777216) := by rw [cell_of_block k0]; rfl
  have k0_4 : w1.cell? ⟨w.heap.size, 4, none⟩ = some (.int .i64 ly) := by rw [cell_of_block k0]; rfl
  have k0_5 : w1.cell? ⟨w.heap.size, 5, none⟩ = some (.slice aY nY cY) := by rw [cell_of_block k0]; rfl
  go_wp2
  go_ret
  exact ⟨rfl, by (repeat (first | exact Below.refl _ _ | assumption | refine Below.drew ?_ | refine below_drewN ?_ _ | refine balloc ?_ _ | refine Below.setCell ?_ (by first | (simp; done) | (simp; omega) | omega) _ | refine bchain (by assumption) ?_))⟩
set_option maxRecDepth 100000 in
set_option maxHeartbeats 1000000 in
theorem rfield_3 {w : World} {aO : Option Addr} {nO cO : Nat} {aY : Option Addr} {nY cY : Nat} {lo ly : Int} {wo wy : List Int} {gO gY : Option Nat} (hm : RMem w aO nO cO aY nY cY lo ly wo wy gO gY) (a i : Int) (he : HE wo wy a = 0) (hs : HK wo wy a = 3) :
    Calls Try.prog 70 #[.agg #[.int .i64 0, .int .i64 lo, .slice aO nO cO, .int .i64 16777216, .int .i64 ly, .slice aY nY cY], .int .i64 a, .int .i64 i] w fun e w' => e = .returned (.int .i64 7) ∧ Below w.heap.size w w' := by
  have hH := fun W (h : Below w.heap.size w W) => rmhdr_any (hm.below h) a
  rw [he, hs] at hH
  generalize HC wo wy a = hc at *
  generalize HF wo wy a = hf at *
  clear hm he hs
  have hw0 : Below w.heap.size w w := Below.refl _ _
  go_enter Try.func70, Try.ntmps70
  go_wp2_with fail
  refine (hH _ (by (repeat (first | exact Below.refl _ _ | assumption | refine Below.drew ?_ | refine below_drewN ?_ _ | refine balloc ?_ _ | refine Below.setCell ?_ (by first | (simp; done) | (simp; omega) | omega) _ | refine bchain (by assumption) ?_)))).mono ?_
  rintro e w1 ⟨rfl, hb1⟩
  have hB1 : Below w.heap.size w w1 := by (repeat (first | exact Below.refl _ _ | assumption | refine Below.drew ?_ | refine below_drewN ?_ _ | refine balloc ?_ _ | refine Below.setCell ?_ (by first | (simp; done) | (simp; omega) | omega) _ | refine bchain (by assumption) ?_))
  have k0 : w1.heap[w.heap.size]? = some (.cells #[.int .i64 0, .int .i64 lo, .slice aO nO cO, .int .i64 16777216, .int .i64 ly, .slice aY nY cY] 35 (0, 0)) := bblock hb1 (by repeat (first | exact alloc_at _ (by simp) | refine alloc_lt _ ?_))
  have hw1 := bchain hB1 hw0
  have hz_k0 : w.heap.size < w1.heap.size := (Array.getElem?_eq_some_iff.1 k0).1
  clear hB1
  have k0_0 : w1.cell? ⟨w.heap.size, 0, none⟩ = some (.int .i64 0) := by rw [cell_of_block k0]; rfl
  have k0_1 : w1.cell? ⟨w.heap.size, 1, none⟩ = some (.int .i64 lo) := by rw [cell_of_block k0]; rfl
  have k0_2 : w1.cell? ⟨w.heap.size, 2, none⟩ = some (.slice aO nO cO) := by rw [cell_of_block k0]; rfl
  have k0_3 : w1.cell? ⟨w.heap.size, 3, none⟩ = some (.int .i64 16777216) := by rw [cell_of_block k0]; rfl
  have k0_4 : w1.cell? ⟨w.heap.size, 4, none⟩ = some (.int .i64 ly) := by rw [cell_of_block k0]; rfl
  have k0_5 : w1.cell? ⟨w.heap.size, 5, none⟩ = some (.slice aY nY cY) := by rw [cell_of_block k0]; rfl
  go_wp2
  go_ret
  exact ⟨rfl, by (repeat (first | exact Below.refl _ _ | assumption | refine Below.drew ?_ | refine below_drewN ?_ _ | refine balloc ?_ _ | refine Below.setCell ?_ (by first | (simp; done) | (simp; omega) | omega) _ | refine bchain (by assumption) ?_))⟩
set_option maxRecDepth 100000 in
set_option maxHeartbeats 1000000 in
theorem rfield_4 {w : World} {aO : Option Addr} {nO cO : Nat} {aY : Option Addr} {nY cY : Nat} {lo ly : Int} {wo wy : List Int} {gO gY : Option Nat} (hm : RMem w aO nO cO aY nY cY lo ly wo wy gO gY) (a i : Int) (he : HE wo wy a = 0) (hs : HK wo wy a = 4) :
    Calls Try.prog 70 #[.agg #[.int .i64 0, .int .i64 lo, .slice aO nO cO, .int .i64 16777216, .int .i64 ly, .slice aY nY cY], .int .i64 a, .int .i64 i] w fun e w' => e = .returned (.int .i64 7) ∧ Below w.heap.size w w' := by
  have hH := fun W (h : Below w.heap.size w W) => rmhdr_any (hm.below h) a
  rw [he, hs] at hH
  generalize HC wo wy a = hc at *
  generalize HF wo wy a = hf at *
  clear hm he hs
  have hw0 : Below w.heap.size w w := Below.refl _ _
  go_enter Try.func70, Try.ntmps70
  go_wp2_with fail
  refine (hH _ (by (repeat (first | exact Below.refl _ _ | assumption | refine Below.drew ?_ | refine below_drewN ?_ _ | refine balloc ?_ _ | refine Below.setCell ?_ (by first | (simp; done) | (simp; omega) | omega) _ | refine bchain (by assumption) ?_)))).mono ?_
  rintro e w1 ⟨rfl, hb1⟩
  have hB1 : Below w.heap.size w w1 := by (repeat (first | exact Below.refl _ _ | assumption | refine Below.drew ?_ | refine below_drewN ?_ _ | refine balloc ?_ _ | refine Below.setCell ?_ (by first | (simp; done) | (simp; omega) | omega) _ | refine bchain (by assumption) ?_))
  have k0 : w1.heap[w.heap.size]? = some (.cells #[.int .i64 0, .int .i64 lo, .slice aO nO cO, .int .i64 16777216, .int .i64 ly, .slice aY nY cY] 35 (0, 0)) := bblock hb1 (by repeat (first | exact alloc_at _ (by simp) | refine alloc_lt _ ?_))
  have hw1 := bchain hB1 hw0
  have hz_k0 : w.heap.size < w1.heap.size := (Array.getElem?_eq_some_iff.1 k0).1
  clear hB1
  have k0_0 : w1.cell? ⟨w.heap.size, 0, none⟩ = some (.int .i64 0) := by rw [cell_of_block k0]; rfl
  have k0_1 : w1.cell? ⟨w.heap.size, 1, none⟩ = some (.int .i64 lo) := by rw [cell_of_block k0]; rfl
  have k0_2 : w1.cell? ⟨w.heap.size, 2, none⟩ = some (.slice aO nO cO) := by rw [cell_of_block k0]; rfl
  have k0_3 : w1.cell? ⟨w.heap.size, 3, none⟩ = some (.int .i64 16777216) := by rw [cell_of_block k0]; rfl
  have k0_4 : w1.cell? ⟨w.heap.size, 4, none⟩ = some (.int .i64 ly) := by rw [cell_of_block k0]; rfl
  have k0_5 : w1.cell? ⟨w.heap.size, 5, none⟩ = some (.slice aY nY cY) := by rw [cell_of_block k0]; rfl
  go_wp2
  go_ret
  exact ⟨rfl, by (repeat (first | exact Below.refl _ _ | assumption | refine Below.drew ?_ | refine below_drewN ?_ _ | refine balloc ?_ _ | refine Below.setCell ?_ (by first | (simp; done) | (simp; omega) | omega) _ | refine bchain (by assumption) ?_))⟩
set_option maxRecDepth 100000 in
set_option maxHeartbeats 1000000 in
theorem rfield_lo {w : World} {aO : Option Addr} {nO cO : Nat} {aY : Option Addr} {nY cY : Nat} {lo ly : Int} {wo wy : List Int} {gO gY : Option Nat} (hm : RMem w aO nO cO aY nY cY lo ly wo wy gO gY) (a i : Int) (he : HE wo wy a = 0) (h3 : HK wo wy a ≠ 3) (h4 : HK wo wy a ≠ 4) (hr : i < 0) :
    Calls Try.prog 70 #[.agg #[.int .i64 0, .int .i64 lo, .slice aO nO cO, .int .i64 16777216, .int .i64 ly, .slice aY nY cY], .int .i64 a, .int .i64 i] w fun e w' => e = .returned (.int .i64 2) ∧ Below w.heap.size w w' := by
  have hH := fun W (h : Below w.heap.size w W) => rmhdr_any (hm.below h) a
  have n3 : (HK wo wy a == 3) = false := by simpa using h3
  have n4 : (HK wo wy a == 4) = false := by simpa using h4
  rw [he] at hH
  generalize HK wo wy a = hk at *
  generalize HC wo wy a = hc at *
  generalize HF wo wy a = hf at *
  clear hm he h3 h4
  have hw0 : Below w.heap.size w w := Below.refl _ _
  go_enter Try.func70, Try.ntmps70
  go_wp2_with fail
  refine (hH _ (by (repeat (first | exact Below.refl _ _ | assumption | refine Below.drew ?_ | refine below_drewN ?_ _ | refine balloc ?_ _ | refine Below.setCell ?_ (by first | (simp; done) | (simp; omega) | omega) _ | refine bchain (by assumption) ?_)))).mono ?_
  rintro e w1 ⟨rfl, hb1⟩
  have hB1 : Below w.heap.size w w1 := by (repeat (first | exact Below.refl _ _ | assumption | refine Below.drew ?_ | refine below_drewN ?_ _ | refine balloc ?_ _ | refine Below.setCell ?_ (by first | (simp; done) | (simp; omega) | omega) _ | refine bchain (by assumption) ?_))
  have k0 : w1.heap[w.heap.size]? = some (.cells #[.int .i64 0, .int .i64 lo, .slice aO nO cO, .int .i64 16777216, .int .i64 ly, .slice aY nY cY] 35 (0, 0)) := bblock hb1 (by repeat (first | exact alloc_at _ (by simp) | refine alloc_lt _ ?_))
  have hw1 := bchain hB1 hw0
  have hz_k0 : w.heap.size < w1.heap.size := (Array.getElem?_eq_some_iff.1 k0).1
  clear hB1
  have k0_0 : w1.cell? ⟨w.heap.size, 0, none⟩ = some (.int .i64 0) := by rw [cell_of_block k0]; rfl
  have k0_1 : w1.cell? ⟨w.heap.size, 1, none⟩ = some (.int .i64 lo) := by rw [cell_of_block k0]; rfl
  have k0_2 : w1.cell? ⟨w.heap.size, 2, none⟩ = some (.slice aO nO cO) := by rw [cell_of_block k0]; rfl
  have k0_3 : w1.cell? ⟨w.heap.size, 3, none⟩ = some (.int .i64 16777216) := by rw [cell_of_block k0]; rfl
  have k0_4 : w1.cell? ⟨w.heap.size, 4, none⟩ = some (.int .i64 ly) := by rw [cell_of_block k0]; rfl
  have k0_5 : w1.cell? ⟨w.heap.size, 5, none⟩ = some (.slice aY nY cY) := by rw [cell_of_block k0]; rfl
  go_wp2
  go_ret
  exact ⟨rfl, by (repeat (first | exact Below.refl _ _ | assumption | refine Below.drew ?_ | refine below_drewN ?_ _ | refine balloc ?_ _ | refine Below.setCell ?_ (by first | (simp; done) | (simp; omega) | omega) _ | refine bchain (by assumption) ?_))⟩
set_option maxRecDepth 100000 in
set_option maxHeartbeats 1000000 in
theorem rfield_hi {w : World} {aO : Option Addr} {nO cO : Nat} {aY : Option Addr} {nY cY : Nat} {lo ly : Int} {wo wy : List Int} {gO gY : Option Nat} (hm : RMem w aO nO cO aY nY cY lo ly wo wy gO gY) (a i : Int) (he : HE wo wy a = 0) (h3 : HK wo wy a ≠ 3) (h4 : HK wo wy a ≠ 4) (hr0 : 0 ≤ i) (hr : HF wo wy a ≤ i) :
    Calls Try.prog 70 #[.agg #[.int .i64 0, .int .i64 lo, .slice aO nO cO, .int .i64 16777216, .int .i64 ly, .slice aY nY cY], .int .i64 a, .int .i64 i] w fun e w' => e = .returned (.int .i64 2) ∧ Below w.heap.size w w' := by
  have hH := fun W (h : Below w.heap.size w W) => rmhdr_any (hm.below h) a
  have n3 : (HK wo wy a == 3) = false := by simpa using h3
  have n4 : (HK wo wy a == 4) = false := by simpa using h4
  rw [he] at hH
  generalize HK wo wy a = hk at *
  generalize HC wo wy a = hc at *
  generalize HF wo wy a = hf at *
  clear hm he h3 h4
  have hw0 : Below w.heap.size w w := Below.refl _ _
  go_enter Try.func70, Try.ntmps70
  go_wp2_with fail
  refine (hH _ (by (repeat (first | exact Below.refl _ _ | assumption | refine Below.drew ?_ | refine below_drewN ?_ _ | refine balloc ?_ _ | refine Below.setCell ?_ (by first | (simp; done) | (simp; omega) | omega) _ | refine bchain (by assumption) ?_)))).mono ?_
  rintro e w1 ⟨rfl, hb1⟩
  have hB1 : Below w.heap.size w w1 := by (repeat (first | exact Below.refl _ _ | assumption | refine Below.drew ?_ | refine below_drewN ?_ _ | refine balloc ?_ _ | refine Below.setCell ?_ (by first | (simp; done) | (simp; omega) | omega) _ | refine bchain (by assumption) ?_))
  have k0 : w1.heap[w.heap.size]? = some (.cells #[.int .i64 0, .int .i64 lo, .slice aO nO cO, .int .i64 16777216, .int .i64 ly, .slice aY nY cY] 35 (0, 0)) := bblock hb1 (by repeat (first | exact alloc_at _ (by simp) | refine alloc_lt _ ?_))
  have hw1 := bchain hB1 hw0
  have hz_k0 : w.heap.size < w1.heap.size := (Array.getElem?_eq_some_iff.1 k0).1
  clear hB1
  have k0_0 : w1.cell? ⟨w.heap.size, 0, none⟩ = some (.int .i64 0) := by rw [cell_of_block k0]; rfl
  have k0_1 : w1.cell? ⟨w.heap.size, 1, none⟩ = some (.int .i64 lo) := by rw [cell_of_block k0]; rfl
  have k0_2 : w1.cell? ⟨w.heap.size, 2, none⟩ = some (.slice aO nO cO) := by rw [cell_of_block k0]; rfl
  have k0_3 : w1.cell? ⟨w.heap.size, 3, none⟩ = some (.int .i64 16777216) := by rw [cell_of_block k0]; rfl
  have k0_4 : w1.cell? ⟨w.heap.size, 4, none⟩ = some (.int .i64 ly) := by rw [cell_of_block k0]; rfl
  have k0_5 : w1.cell? ⟨w.heap.size, 5, none⟩ = some (.slice aY nY cY) := by rw [cell_of_block k0]; rfl
  go_wp2
  go_ret
  exact ⟨rfl, by (repeat (first | exact Below.refl _ _ | assumption | refine Below.drew ?_ | refine below_drewN ?_ _ | refine balloc ?_ _ | refine Below.setCell ?_ (by first | (simp; done) | (simp; omega) | omega) _ | refine bchain (by assumption) ?_))⟩
set_option maxRecDepth 100000 in
set_option maxHeartbeats 1000000 in
theorem rfield_ok {w : World} {aO : Option Addr} {nO cO : Nat} {aY : Option Addr} {nY cY : Nat} {lo ly : Int} {wo wy : List Int} {gO gY : Option Nat} (hm : RMem w aO nO cO aY nY cY lo ly wo wy gO gY) (a i : Int) (he : HE wo wy a = 0) (h3 : HK wo wy a ≠ 3) (h4 : HK wo wy a ≠ 4) (hr0 : 0 ≤ i) (hr : i < HF wo wy a) :
    Calls Try.prog 70 #[.agg #[.int .i64 0, .int .i64 lo, .slice aO nO cO, .int .i64 16777216, .int .i64 ly, .slice aY nY cY], .int .i64 a, .int .i64 i] w fun e w' => e = .returned (.int .i64 0) ∧ Below w.heap.size w w' := by
  have hH := fun W (h : Below w.heap.size w W) => rmhdr_any (hm.below h) a
  have n3 : (HK wo wy a == 3) = false := by simpa using h3
  have n4 : (HK wo wy a == 4) = false := by simpa using h4
  rw [he] at hH
  generalize HK wo wy a = hk at *
  generalize HC wo wy a = hc at *
  generalize HF wo wy a = hf at *
  clear hm he h3 h4
  have hw0 : Below w.heap.size w w := Below.refl _ _
  go_enter Try.func70, Try.ntmps70
  go_wp2_with fail
  refine (hH _ (by (repeat (first | exact Below.refl _ _ | assumption | refine Below.drew ?_ | refine below_drewN ?_ _ | refine balloc ?_ _ | refine Below.setCell ?_ (by first | (simp; done) | (simp; omega) | omega) _ | refine bchain (by assumption) ?_)))).mono ?_
  rintro e w1 ⟨rfl, hb1⟩
  have hB1 : Below w.heap.size w w1 := by (repeat (first | exact Below.refl _ _ | assumption | refine Below.drew ?_ | refine below_drewN ?_ _ | refine balloc ?_ _ | refine Below.setCell ?_ (by first | (simp; done) | (simp; omega) | omega) _ | refine bchain (by assumption) ?_))
  have k0 : w1.heap[w.heap.size]? = some (.cells #[.int .i64 0, .int .i64 lo, .slice aO nO cO, .int .i64 16777216, .int .i64 ly, .slice aY nY cY] 35 (0, 0)) := bblock hb1 (by repeat (first | exact alloc_at _ (by simp) | refine alloc_lt _ ?_))
  have hw1 := bchain hB1 hw0
  have hz_k0 : w.heap.size < w1.heap.size := (Array.getElem?_eq_some_iff.1 k0).1
  clear hB1
  have k0_0 : w1.cell? ⟨w.heap.size, 0, none⟩ = some (.int .i64 0) := by rw [cell_of_block k0]; rfl
  have k0_1 : w1.cell? ⟨w.heap.size, 1, none⟩ = some (.int .i64 lo) := by rw [cell_of_block k0]; rfl
  have k0_2 : w1.cell? ⟨w.heap.size, 2, none⟩ = some (.slice aO nO cO) := by rw [cell_of_block k0]; rfl
  have k0_3 : w1.cell? ⟨w.heap.size, 3, none⟩ = some (.int .i64 16777216) := by rw [cell_of_block k0]; rfl
  have k0_4 : w1.cell? ⟨w.heap.size, 4, none⟩ = some (.int .i64 ly) := by rw [cell_of_block k0]; rfl
  have k0_5 : w1.cell? ⟨w.heap.size, 5, none⟩ = some (.slice aY nY cY) := by rw [cell_of_block k0]; rfl
  go_wp2
  go_ret
  exact ⟨rfl, by (repeat (first | exact Below.refl _ _ | assumption | refine Below.drew ?_ | refine below_drewN ?_ _ | refine balloc ?_ _ | refine Below.setCell ?_ (by first | (simp; done) | (simp; omega) | omega) _ | refine bchain (by assumption) ?_))⟩
theorem rfield_any {w : World} {aO : Option Addr} {nO cO : Nat} {aY : Option Addr} {nY cY : Nat} {lo ly : Int} {wo wy : List Int} {gO gY : Option Nat} (hm : RMem w aO nO cO aY nY cY lo ly wo wy gO gY) (a i : Int) : Calls Try.prog 70 #[.agg #[.int .i64 0, .int .i64 lo, .slice aO nO cO, .int .i64 16777216, .int .i64 ly, .slice aY nY cY], .int .i64 a, .int .i64 i] w fun e w' => e = .returned (.int .i64 (fdE wo wy a i)) ∧ Below w.heap.size w w' := by
  unfold fdE
  by_cases he : HE wo wy a = 0
  · rw [if_neg (by simpa using he)]
    by_cases h3 : HK wo wy a = 3
    · rw [if_pos (stB_iff.2 (.inl h3))]
      exact rfield_3 hm a i he h3
    · by_cases h4 : HK wo wy a = 4
      · rw [if_pos (stB_iff.2 (.inr h4))]
        exact rfield_4 hm a i he h4
      · have hs : ¬ stB (HK wo wy a) = true := fun h => (stB_iff.1 h).elim h3 h4
        rw [if_neg hs]
        by_cases hr : i < 0 ∨ HF wo wy a ≤ i
        · rw [if_pos hr]
          by_cases h0 : i < 0
          · exact rfield_lo hm a i he h3 h4 h0
          · exact rfield_hi hm a i he h3 h4 (by omega) (by omega)
        · rw [if_neg hr]
          exact rfield_ok hm a i he h3 h4 (by omega) (by omega)
  · rw [if_pos he]
    exact rfield_e hm a i he
theorem fd_zero {wo wy : List Int} {a i : Int} (h : fdE wo wy a i = 0) : HE wo wy a = 0 ∧ stB (HK wo wy a) = false ∧ 0 ≤ i ∧ i < HF wo wy a ∧ fdA wo wy a i = a + 2 + i := by
  have hA : fdA wo wy a i = a + 2 + i := by unfold fdA; rw [if_pos h]
  unfold fdE at h
  by_cases he : HE wo wy a = 0
  · rw [if_neg (by simpa using he)] at h
    cases hs : stB (HK wo wy a)
    · rw [hs] at h
      by_cases hr : i < 0 ∨ HF wo wy a ≤ i
      · simp [hr] at h
      · exact ⟨he, rfl, by omega, by omega, hA⟩
    · rw [hs] at h; cases h
  · rw [if_pos he] at h; exact absurd h he
set_option maxRecDepth 100000 in
set_option maxHeartbeats 1000000 in
theorem rmfield_no {w : World} {aO : Option Addr} {nO cO : Nat} {aY : Option Addr} {nY cY : Nat} {lo ly : Int} {wo wy : List Int} {gO gY : Option Nat} (hm : RMem w aO nO cO aY nY cY lo ly wo wy gO gY) (a i : Int) (he : fdE wo wy a i ≠ 0) :
    Calls Try.prog 33 #[.agg #[.int .i64 0, .int .i64 lo, .slice aO nO cO, .int .i64 16777216, .int .i64 ly, .slice aY nY cY], .int .i64 a, .int .i64 i] w fun e w' => e = .returned (.tuple #[.int .u64 0, .int .i64 (fdE wo wy a i)]) ∧ Below w.heap.size w w' := by
  have hH := fun W (h : Below w.heap.size w W) => rfield_any (hm.below h) a i
  generalize fdE wo wy a i = er at *
  have hb1 : (er != 0) = true := by simpa using he
  clear hm he
  have hw0 : Below w.heap.size w w := Below.refl _ _
  go_enter Try.func33, Try.ntmps33
  go_wp2_with fail
  refine (hH _ (by (repeat (first | exact Below.refl _ _ | assumption | refine Below.drew ?_ | refine below_drewN ?_ _ | refine balloc ?_ _ | refine Below.setCell ?_ (by first | (simp; done) | (simp; omega) | omega) _ | refine bchain (by assumption) ?_)))).mono ?_
  rintro e w1 ⟨rfl, hb1⟩
  have hB1 : Below w.heap.size w w1 := by (repeat (first | exact Below.refl _ _ | assumption | refine Below.drew ?_ | refine below_drewN ?_ _ | refine balloc ?_ _ | refine Below.setCell ?_ (by first | (simp; done) | (simp; omega) | omega) _ | refine bchain (by assumption) ?_))
  have k0 : w1.heap[w.heap.size]? = some (.cells #[.int .i64 0, .int .i64 lo, .slice aO nO cO, .int .i64 16777216, .int .i64 ly, .slice aY nY cY] 35 (0, 0)) := bblock hb1 (by repeat (first | exact alloc_at _ (by simp) | refine alloc_lt _ ?_))
  have hw1 := bchain hB1 hw0
  have hz_k0 : w.heap.size < w1.heap.size := (Array.getElem?_eq_some_iff.1 k0).1
  clear hB1
  have k0_0 : w1.cell? ⟨w.heap.size, 0, none⟩ = some (.int .i64 0) := by rw [cell_of_block k0]; rfl
  have k0_1 : w1.cell? ⟨w.heap.size, 1, none⟩ = some (.int .i64 lo) := by rw [cell_of_block k0]; rfl
  have k0_2 : w1.cell? ⟨w.heap.size, 2, none⟩ = some (.slice aO nO cO) := by rw [cell_of_block k0]; rfl
  have k0_3 : w1.cell? ⟨w.heap.size, 3, none⟩ = some (.int .i64 16777216) := by rw [cell_of_block k0]; rfl
  have k0_4 : w1.cell? ⟨w.heap.size, 4, none⟩ = some (.int .i64 ly) := by rw [cell_of_block k0]; rfl
  have k0_5 : w1.cell? ⟨w.heap.size, 5, none⟩ = some (.slice aY nY cY) := by rw [cell_of_block k0]; rfl
  go_wp2
  go_ret2
  exact ⟨rfl, by (repeat (first | exact Below.refl _ _ | assumption | refine Below.drew ?_ | refine below_drewN ?_ _ | refine balloc ?_ _ | refine Below.setCell ?_ (by first | (simp; done) | (simp; omega) | omega) _ | refine bchain (by assumption) ?_))⟩
set_option maxRecDepth 100000 in
set_option maxHeartbeats 1000000 in
theorem rmfield_yes {w : World} {aO : Option Addr} {nO cO : Nat} {aY : Option Addr} {nY cY : Nat} {lo ly : Int} {wo wy : List Int} {gO gY : Option Nat} (hm : RMem w aO nO cO aY nY cY lo ly wo wy gO gY) (a i : Int) (he : fdE wo wy a i = 0) :
    Calls Try.prog 33 #[.agg #[.int .i64 0, .int .i64 lo, .slice aO nO cO, .int .i64 16777216, .int .i64 ly, .slice aY nY cY], .int .i64 a, .int .i64 i] w fun e w' => e = .returned (.tuple #[.int .u64 (LD wo wy (a + 2 + i)), .int .i64 (LE wo wy (a + 2 + i))]) ∧ Below w.heap.size w w' := by
  have hH := fun W (h : Below w.heap.size w W) => rfield_any (hm.below h) a i
  have hL := fun W (h : Below w.heap.size w W) => rmload_any (hm.below h) (a + 2 + i)
  rw [he] at hH
  obtain ⟨he0, _, hi0, hi1, _⟩ := fd_zero he
  have hbd := HE_bd he0
  have hk1 := (hm.partOk a).b0
  have hk2 := (hm.partOk a).top
  have hk3 := (hm.partOk a).lm1
  have hx0 : 0 ≤ wordsI (HF wo wy a) := by unfold wordsI; split <;> omega
  have ha : 0 ≤ a ∧ a ≤ 1099511627776 := by omega
  have hi2 : i ≤ 30 := by omega
  generalize LD wo wy (a + 2 + i) = v at *
  generalize LE wo wy (a + 2 + i) = er at *
  clear hm he he0 hbd hk1 hk2 hk3 hx0
  have hw0 : Below w.heap.size w w := Below.refl _ _
  go_enter Try.func33, Try.ntmps33
  go_wp2_with fail
  refine (hH _ (by (repeat (first | exact Below.refl _ _ | assumption | refine Below.drew ?_ | refine below_drewN ?_ _ | refine balloc ?_ _ | refine Below.setCell ?_ (by first | (simp; done) | (simp; omega) | omega) _ | refine bchain (by assumption) ?_)))).mono ?_
  rintro e w1 ⟨rfl, hb1⟩
  have hB1 : Below w.heap.size w w1 := by (repeat (first | exact Below.refl _ _ | assumption | refine Below.drew ?_ | refine below_drewN ?_ _ | refine balloc ?_ _ | refine Below.setCell ?_ (by first | (simp; done) | (simp; omega) | omega) _ | refine bchain (by assumption) ?_))
  have k0 : w1.heap[w.heap.size]? = some (.cells #[.int .i64 0, .int .i64 lo, .slice aO nO cO, .int .i64 16777216, .int .i64 ly, .slice aY nY cY] 35 (0, 0)) := bblock hb1 (by repeat (first | exact alloc_at _ (by simp) | refine alloc_lt _ ?_))
  have hw1 := bchain hB1 hw0
  have hz_k0 : w.heap.size < w1.heap.size := (Array.getElem?_eq_some_iff.1 k0).1
  clear hB1
  have k0_0 : w1.cell? ⟨w.heap.size, 0, none⟩ = some (.int .i64 0) := by rw [cell_of_block k0]; rfl
  have k0_1 : w1.cell? ⟨w.heap.size, 1, none⟩ = some (.int .i64 lo) := by rw [cell_of_block k0]; rfl
  have k0_2 : w1.cell? ⟨w.heap.size, 2, none⟩ = some (.slice aO nO cO) := by rw [cell_of_block k0]; rfl
  have k0_3 : w1.cell? ⟨w.heap.size, 3, none⟩ = some (.int .i64 16777216) := by rw [cell_of_block k0]; rfl
  have k0_4 : w1.cell? ⟨w.heap.size, 4, none⟩ = some (.int .i64 ly) := by rw [cell_of_block k0]; rfl
  have k0_5 : w1.cell? ⟨w.heap.size, 5, none⟩ = some (.slice aY nY cY) := by rw [cell_of_block k0]; rfl
  go_wp2_with fail
  refine (hL _ (by (repeat (first | exact Below.refl _ _ | assumption | refine Below.drew ?_ | refine below_drewN ?_ _ | refine balloc ?_ _ | refine Below.setCell ?_ (by first | (simp; done) | (simp; omega) | omega) _ | refine bchain (by assumption) ?_)))).mono ?_
  rintro e w2 ⟨rfl, hb2⟩
  have hB2 : Below w1.heap.size w1 w2 := by (repeat (first | exact Below.refl _ _ | assumption | refine Below.drew ?_ | refine below_drewN ?_ _ | refine balloc ?_ _ | refine Below.setCell ?_ (by first | (simp; done) | (simp; omega) | omega) _ | refine bchain (by assumption) ?_))
  have k0 := bblock hB2 k0
  have hw2 := bchain hB2 hw1
  clear hz_k0
  have hz_k0 : w.heap.size < w2.heap.size := (Array.getElem?_eq_some_iff.1 k0).1
  clear hB2
  clear k0_0 k0_1 k0_2 k0_3 k0_4 k0_5
  have k0_0 : w2.cell? ⟨w.heap.size, 0, none⟩ = some (.int .i64 0) := by rw [cell_of_block k0]; rfl
  have k0_1 : w2.cell? ⟨w.heap.size, 1, none⟩ = some (.int .i64 lo) := by rw [cell_of_block k0]; rfl
  have k0_2 : w2.cell? ⟨w.heap.size, 2, none⟩ = some (.slice aO nO cO) := by rw [cell_of_block k0]; rfl
  have k0_3 : w2.cell? ⟨w.heap.size, 3, none⟩ = some (.int .i64 16777216) := by rw [cell_of_block k0]; rfl
  have k0_4 : w2.cell? ⟨w.heap.size, 4, none⟩ = some (.int .i64 ly) := by rw [cell_of_block k0]; rfl
  have k0_5 : w2.cell? ⟨w.heap.size, 5, none⟩ = some (.slice aY nY cY) := by rw [cell_of_block k0]; rfl
  go_wp2
  go_ret2
  exact ⟨rfl, by (repeat (first | exact Below.refl _ _ | assumption | refine Below.drew ?_ | refine below_drewN ?_ _ | refine balloc ?_ _ | refine Below.setCell ?_ (by first | (simp; done) | (simp; omega) | omega) _ | refine bchain (by assumption) ?_))⟩
theorem rmfield_any {w : World} {aO : Option Addr} {nO cO : Nat} {aY : Option Addr} {nY cY : Nat} {lo ly : Int} {wo wy : List Int} {gO gY : Option Nat} (hm : RMem w aO nO cO aY nY cY lo ly wo wy gO gY) (a i : Int) : Calls Try.prog 33 #[.agg #[.int .i64 0, .int .i64 lo, .slice aO nO cO, .int .i64 16777216, .int .i64 ly, .slice aY nY cY], .int .i64 a, .int .i64 i] w fun e w' => e = .returned (.tuple #[.int .u64 (FV wo wy a i), .int .i64 (FE wo wy a i)]) ∧ Below w.heap.size w w' := by
  unfold FV FE
  by_cases he : fdE wo wy a i = 0
  · rw [if_pos he, if_pos he, (fd_zero he).2.2.2.2]
    exact rmfield_yes hm a i he
  · rw [if_neg he, if_neg he]
    exact rmfield_no hm a i he
end Go.Proofs.Ytcmhgjkijegpnaa
