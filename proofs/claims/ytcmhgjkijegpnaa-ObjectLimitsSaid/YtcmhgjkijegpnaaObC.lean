/-
  object.Header at every address; ID, field, Field, Store, SetField.
-/
import Derived.Test.YtcmhgjkijegpnaaObB
namespace Go.Proofs.Ytcmhgjkijegpnaa
open Go.RowKit
set_option linter.unusedSimpArgs false
set_option linter.unusedVariables false

def HE (wo wy : List Int) (a : Int) : Int := hdE (bsA a) (wsA wo wy a) a
def HK (wo wy : List Int) (a : Int) : Int := hdK (bsA a) (wsA wo wy a) a
def HC (wo wy : List Int) (a : Int) : Int := hdC (bsA a) (wsA wo wy a) a
def HF (wo wy : List Int) (a : Int) : Int := hdF (bsA a) (wsA wo wy a) a
theorem ld_in {bs : Int} {ws : List Int} {a : Int} (h : inB bs ws.length a = true) : ldW bs ws a = ws.getD (a - bs).toNat 0 := by unfold ldW; rw [h]; rfl
theorem obB_of {bs : Int} {ws : List Int} {a : Int} (h : inB bs ws.length a = true) : obB ws (a - bs).toNat = (inB bs ws.length (a + 1) && decB (ldW bs ws a) && didB (ldW bs ws (a + 1)) && inB bs ws.length (a + wordsI (decF (ldW bs ws a)) - 1)) := by
  obtain ⟨h0, h1⟩ := inB_iff.1 h
  rw [ld_in h]
  have e : (a + 1 - bs).toNat = (a - bs).toNat + 1 := by omega
  cases h2 : inB bs ws.length (a + 1)
  · have : obB ws (a - bs).toNat = false := by
      rw [Bool.eq_false_iff]
      intro hh
      have := (obB_iff.1 hh).1
      have h2' := inB_iff (bs := bs) (n := ws.length) (a := a + 1)
      rw [h2] at h2'
      have := h2'.2 ⟨by omega, by omega⟩
      cases this
    rw [this]
    simp
  · rw [ld_in h2, e]
    obtain ⟨h3, h4⟩ := inB_iff.1 h2
    generalize hx : ws.getD (a - bs).toNat 0 = x
    generalize hy : ws.getD ((a - bs).toNat + 1) 0 = y
    rw [Bool.eq_iff_iff, obB_iff, hx, hy]
    simp only [Bool.and_eq_true]
    constructor
    · rintro ⟨k0, k1, k2, k3⟩
      have := wordsI_bd (decB_iff.1 k1).1
      exact ⟨⟨⟨trivial, k1⟩, k2⟩, inB_iff.2 ⟨by omega, by omega⟩⟩
    · rintro ⟨⟨⟨_, k1⟩, k2⟩, k3⟩
      have := wordsI_bd (decB_iff.1 k1).1
      obtain ⟨k4, k5⟩ := inB_iff.1 k3
      exact ⟨by omega, k1, k2, by omega⟩
theorem mhdr_any {w : World} {bO bY : Nat} {lo ly : Int} {wo wy : List Int} {gO gY : Option Nat} (hm : MemAt w bO bY lo ly wo wy gO gY) (a : Int) : Calls Try.prog 17 #[.agg #[.pointer (some ⟨bO, 0, none⟩), .pointer (some ⟨bY, 0, none⟩)], .int .i64 a] w fun e w' => e = .returned (.tuple #[.agg #[.int .i64 (HK wo wy a), .int .i64 (HC wo wy a), .int .i64 (HF wo wy a)], .int .i64 (HE wo wy a)]) ∧ Below w.heap.size w w' := by
  have hs := fun W (h : Below w.heap.size w W) => (hm.below h).part a
  have hk := hm.partOk a
  have hP := fun W => part_any bO bY a W
  unfold HE HK HC HF
  generalize bpA bO bY a = bp at *
  generalize bsA a = bs at *
  generalize wsA wo wy a = ws at *
  generalize lmA lo ly a = lm at *
  generalize gpA gO gY a = g at *
  clear hm
  cases h : inB bs ws.length a
  · obtain ⟨e1, e2, e3, e4⟩ := hd_out h
    rw [e1, e2, e3, e4]
    exact mhdr_out hP hs hk h
  · have hob := obB_of h
    cases h2 : inB bs ws.length (a + 1)
    · rw [h2] at hob
      obtain ⟨e1, e2, e3, e4⟩ := hd_bad h (by rw [hob]; rfl)
      rw [e1, e2, e3, e4]
      exact mhdr_A hP hs hk h h2
    · cases hd : decB (ldW bs ws a)
      · rw [h2, hd] at hob
        obtain ⟨e1, e2, e3, e4⟩ := hd_bad h (by rw [hob]; rfl)
        rw [e1, e2, e3, e4]
        exact mhdr_B hP hs hk h h2 hd
      · cases hi : didB (ldW bs ws (a + 1))
        · rw [h2, hd, hi] at hob
          obtain ⟨e1, e2, e3, e4⟩ := hd_bad h (by rw [hob]; rfl)
          rw [e1, e2, e3, e4]
          exact mhdr_C hP hs hk h h2 hd hi
        · cases hc : inB bs ws.length (a + wordsI (decF (ldW bs ws a)) - 1)
          · rw [h2, hd, hi, hc] at hob
            obtain ⟨e1, e2, e3, e4⟩ := hd_bad h (by rw [hob]; rfl)
            rw [e1, e2, e3, e4]
            exact mhdr_D hP hs hk h h2 hd hi hc
          · rw [h2, hd, hi, hc] at hob
            obtain ⟨e1, e2, e3, e4⟩ := hd_ok h (by rw [hob]; rfl)
            rw [e1, e2, e3, e4, ← ld_in h]
            exact mhdr_E hP hs hk h h2 hd hi hc
/-- What a header that is there says. -/
theorem hd_bd {bs : Int} {ws : List Int} {a : Int} (h : hdE bs ws a = 0) : inB bs ws.length a = true ∧ obB ws (a - bs).toNat = true ∧ hvB (hdK bs ws a) (hdC bs ws a) (hdF bs ws a) = true ∧ a + wordsI (hdF bs ws a) ≤ bs + ws.length := by
  cases h1 : inB bs ws.length a
  · rw [(hd_out h1).1] at h; cases h
  · cases h2 : obB ws (a - bs).toNat
    · rw [(hd_bad h1 h2).1] at h; cases h
    · obtain ⟨e1, e2, e3, e4⟩ := hd_ok h1 h2
      obtain ⟨k0, k1, k2, k3⟩ := obB_iff.1 h2
      obtain ⟨h3, h4⟩ := inB_iff.1 h1
      have hv := (decB_iff.1 k1).1
      have := wordsI_bd hv
      rw [e2, e3, e4]
      exact ⟨rfl, rfl, hv, by omega⟩
theorem HE_cases (wo wy : List Int) (a : Int) : HE wo wy a = 0 ∨ HE wo wy a = 2 ∨ HE wo wy a = 11 := by
  unfold HE hdE
  split
  · split
    · exact .inl rfl
    · exact .inr (.inr rfl)
  · exact .inr (.inl rfl)
theorem HE_bd {wo wy : List Int} {a : Int} (h : HE wo wy a = 0) : (0 ≤ HK wo wy a ∧ HK wo wy a ≤ 4) ∧ 0 ≤ HF wo wy a ∧ HF wo wy a ≤ 30 ∧ bsA a ≤ a ∧ a + wordsI (HF wo wy a) ≤ bsA a + (wsA wo wy a).length := by
  obtain ⟨h1, h2, h3, h4⟩ := hd_bd h
  obtain ⟨h5, h6⟩ := inB_iff.1 h1
  have := hvB_iff.1 h3
  exact ⟨this.1, this.2.1.2.2.1, this.2.1.2.2.2, h5, h4⟩
def OM (wo wy : List Int) (a : Int) : Int := if HE wo wy a = 0 then iM (LD wo wy (a + 1)) else 0
def OS (wo wy : List Int) (a : Int) : Int := if HE wo wy a = 0 then iS (LD wo wy (a + 1)) else 0
set_option maxRecDepth 100000 in
set_option maxHeartbeats 1000000 in
theorem mid_no {w : World} {bO bY : Nat} {lo ly : Int} {wo wy : List Int} {gO gY : Option Nat} (hm : MemAt w bO bY lo ly wo wy gO gY) (a : Int) (he : HE wo wy a ≠ 0) :
    Calls Try.prog 20 #[.agg #[.pointer (some ⟨bO, 0, none⟩), .pointer (some ⟨bY, 0, none⟩)], .int .i64 a] w fun e w' => e = .returned (.tuple #[.agg #[.int .i64 0, .int .i64 0], .int .i64 (HE wo wy a)]) ∧ Below w.heap.size w w' := by
  have hH := mhdr_any (hm.below (balloc (balloc (Below.refl _ w) (.cells #[.pointer (some ⟨bO, 0, none⟩), .pointer (some ⟨bY, 0, none⟩)] 29)) (.cells #[.int .i64 0, .int .i64 0] 25))) a
  have hec := HE_cases wo wy a
  generalize HK wo wy a = hk at *
  generalize HC wo wy a = hc at *
  generalize HF wo wy a = hf at *
  generalize HE wo wy a = er at *
  have hb1 : (er != 0) = true := by simpa using he
  clear hm he
  have hw0 : Below w.heap.size w w := Below.refl _ _
  go_enter Try.func20, Try.ntmps20
  go_wp2_with fail
  refine (hH).mono ?_
  rintro e w1 ⟨rfl, hb1⟩
  have hB1 : Below w.heap.size w w1 := by (repeat (first | exact Below.refl _ _ | assumption | refine Below.drew ?_ | refine below_drewN ?_ _ | refine balloc ?_ _ | refine Below.setCell ?_ (by first | (simp; done) | (simp; omega) | omega) _ | refine bchain (by assumption) ?_))
  have k0 : w1.heap[w.heap.size]? = some (.cells #[.pointer (some ⟨bO, 0, none⟩), .pointer (some ⟨bY, 0, none⟩)] 29 (0, 0)) := bblock hb1 (by repeat (first | exact alloc_at _ (by simp) | refine alloc_lt _ ?_))
  have r : w1.heap[w.heap.size + 1]? = some (.cells #[.int .i64 0, .int .i64 0] 25 (0, 0)) := bblock hb1 (by repeat (first | exact alloc_at _ (by simp) | refine alloc_lt _ ?_))
  have hw1 := bchain hB1 hw0
  have hz_k0 : w.heap.size < w1.heap.size := (Array.getElem?_eq_some_iff.1 k0).1
  have hz_r : w.heap.size + 1 < w1.heap.size := (Array.getElem?_eq_some_iff.1 r).1
  clear hB1
  have k0_0 : w1.cell? ⟨w.heap.size, 0, none⟩ = some (.pointer (some ⟨bO, 0, none⟩)) := by rw [cell_of_block k0]; rfl
  have k0_1 : w1.cell? ⟨w.heap.size, 1, none⟩ = some (.pointer (some ⟨bY, 0, none⟩)) := by rw [cell_of_block k0]; rfl
  have r_0 : w1.cell? ⟨w.heap.size + 1, 0, none⟩ = some (.int .i64 0) := by rw [cell_of_block r]; rfl
  have r_1 : w1.cell? ⟨w.heap.size + 1, 1, none⟩ = some (.int .i64 0) := by rw [cell_of_block r]; rfl
  have r_f : ∀ i, w1.frozen? ⟨w.heap.size + 1, i, none⟩ = false := frozen_of_block r
  go_wp2
  exact bodyPost_ret (v := .tuple #[.agg #[.int .i64 0, .int .i64 0], .int .i64 er]) (by simp [results, Try.results20, go_sem, k0_0, k0_1, r_0, r_1, r_f, hz_k0, hz_r]) rfl ⟨rfl, by (repeat (first | exact Below.refl _ _ | assumption | refine Below.drew ?_ | refine below_drewN ?_ _ | refine balloc ?_ _ | refine Below.setCell ?_ (by first | (simp; done) | (simp; omega) | omega) _ | refine bchain (by assumption) ?_))⟩
set_option maxRecDepth 100000 in
set_option maxHeartbeats 1000000 in
theorem mid_yes {w : World} {bO bY : Nat} {lo ly : Int} {wo wy : List Int} {gO gY : Option Nat} (hm : MemAt w bO bY lo ly wo wy gO gY) (a : Int) (he : HE wo wy a = 0) :
    Calls Try.prog 20 #[.agg #[.pointer (some ⟨bO, 0, none⟩), .pointer (some ⟨bY, 0, none⟩)], .int .i64 a] w fun e w' => e = .returned (.tuple #[.agg #[.int .i64 (iM (LD wo wy (a + 1))), .int .i64 (iS (LD wo wy (a + 1)))], .int .i64 0]) ∧ Below w.heap.size w w' := by
  have hH := fun W (h : Below w.heap.size w W) => mhdr_any (hm.below h) a
  have hL := fun W (h : Below w.heap.size w W) => mload_any (hm.below h) (a + 1)
  have hx := hm.ldU (a + 1)
  have hbd := HE_bd he
  have hk1 := (hm.partOk a).b0
  have hk2 := (hm.partOk a).top
  have hk3 := (hm.partOk a).lm1
  have hx0 : 0 ≤ wordsI (HF wo wy a) := by unfold wordsI; split <;> omega
  have ha : 0 ≤ a ∧ a ≤ 1099511627776 := by omega
  rw [he] at hH
  generalize HK wo wy a = hk at *
  generalize HC wo wy a = hc at *
  generalize HF wo wy a = hf at *
  generalize LD wo wy (a + 1) = x at *
  generalize LE wo wy (a + 1) = y at *
  have hI := fun W => decodeID_any x hx W
  generalize iM x = im at *
  generalize iS x = is at *
  clear hm he hx hbd hk1 hk2 hk3 hx0
  have hw0 : Below w.heap.size w w := Below.refl _ _
  go_enter Try.func20, Try.ntmps20
  go_wp2_with fail
  refine (hH _ (by (repeat (first | exact Below.refl _ _ | assumption | refine Below.drew ?_ | refine below_drewN ?_ _ | refine balloc ?_ _ | refine Below.setCell ?_ (by first | (simp; done) | (simp; omega) | omega) _ | refine bchain (by assumption) ?_)))).mono ?_
  rintro e w1 ⟨rfl, hb1⟩
  have hB1 : Below w.heap.size w w1 := by (repeat (first | exact Below.refl _ _ | assumption | refine Below.drew ?_ | refine below_drewN ?_ _ | refine balloc ?_ _ | refine Below.setCell ?_ (by first | (simp; done) | (simp; omega) | omega) _ | refine bchain (by assumption) ?_))
  have k0 : w1.heap[w.heap.size]? = some (.cells #[.pointer (some ⟨bO, 0, none⟩), .pointer (some ⟨bY, 0, none⟩)] 29 (0, 0)) := bblock hb1 (by repeat (first | exact alloc_at _ (by simp) | refine alloc_lt _ ?_))
  have r : w1.heap[w.heap.size + 1]? = some (.cells #[.int .i64 0, .int .i64 0] 25 (0, 0)) := bblock hb1 (by repeat (first | exact alloc_at _ (by simp) | refine alloc_lt _ ?_))
  have hw1 := bchain hB1 hw0
  have hz_k0 : w.heap.size < w1.heap.size := (Array.getElem?_eq_some_iff.1 k0).1
  have hz_r : w.heap.size + 1 < w1.heap.size := (Array.getElem?_eq_some_iff.1 r).1
  clear hB1
  have k0_0 : w1.cell? ⟨w.heap.size, 0, none⟩ = some (.pointer (some ⟨bO, 0, none⟩)) := by rw [cell_of_block k0]; rfl
  have k0_1 : w1.cell? ⟨w.heap.size, 1, none⟩ = some (.pointer (some ⟨bY, 0, none⟩)) := by rw [cell_of_block k0]; rfl
  have r_0 : w1.cell? ⟨w.heap.size + 1, 0, none⟩ = some (.int .i64 0) := by rw [cell_of_block r]; rfl
  have r_1 : w1.cell? ⟨w.heap.size + 1, 1, none⟩ = some (.int .i64 0) := by rw [cell_of_block r]; rfl
  have r_f : ∀ i, w1.frozen? ⟨w.heap.size + 1, i, none⟩ = false := frozen_of_block r
  go_wp2_with fail
  refine (hL _ (by (repeat (first | exact Below.refl _ _ | assumption | refine Below.drew ?_ | refine below_drewN ?_ _ | refine balloc ?_ _ | refine Below.setCell ?_ (by first | (simp; done) | (simp; omega) | omega) _ | refine bchain (by assumption) ?_)))).mono ?_
  rintro e w2 ⟨rfl, hb2⟩
  have hB2 : Below w1.heap.size w1 w2 := by (repeat (first | exact Below.refl _ _ | assumption | refine Below.drew ?_ | refine below_drewN ?_ _ | refine balloc ?_ _ | refine Below.setCell ?_ (by first | (simp; done) | (simp; omega) | omega) _ | refine bchain (by assumption) ?_))
  have k0 := bblock hB2 k0
  have r := bblock hB2 r
  have t : w2.heap[w1.heap.size]? = some (.cells #[.int .i64 hk, .int .i64 hc, .int .i64 hf] 23 (0, 0)) := bblock hb2 (by repeat (first | exact alloc_at _ (by simp) | refine alloc_lt _ ?_))
  have hw2 := bchain hB2 hw1
  clear hz_k0 hz_r
  have hz_k0 : w.heap.size < w2.heap.size := (Array.getElem?_eq_some_iff.1 k0).1
  have hz_r : w.heap.size + 1 < w2.heap.size := (Array.getElem?_eq_some_iff.1 r).1
  have hz_t : w1.heap.size < w2.heap.size := (Array.getElem?_eq_some_iff.1 t).1
  clear hB2
  clear k0_0 k0_1 r_0 r_1 r_f
  have k0_0 : w2.cell? ⟨w.heap.size, 0, none⟩ = some (.pointer (some ⟨bO, 0, none⟩)) := by rw [cell_of_block k0]; rfl
  have k0_1 : w2.cell? ⟨w.heap.size, 1, none⟩ = some (.pointer (some ⟨bY, 0, none⟩)) := by rw [cell_of_block k0]; rfl
  have r_0 : w2.cell? ⟨w.heap.size + 1, 0, none⟩ = some (.int .i64 0) := by rw [cell_of_block r]; rfl
  have r_1 : w2.cell? ⟨w.heap.size + 1, 1, none⟩ = some (.int .i64 0) := by rw [cell_of_block r]; rfl
  have r_f : ∀ i, w2.frozen? ⟨w.heap.size + 1, i, none⟩ = false := frozen_of_block r
  have t_0 : w2.cell? ⟨w1.heap.size, 0, none⟩ = some (.int .i64 hk) := by rw [cell_of_block t]; rfl
  have t_1 : w2.cell? ⟨w1.heap.size, 1, none⟩ = some (.int .i64 hc) := by rw [cell_of_block t]; rfl
  have t_2 : w2.cell? ⟨w1.heap.size, 2, none⟩ = some (.int .i64 hf) := by rw [cell_of_block t]; rfl
  go_wp2_with fail
  refine (hI _).mono ?_
  rintro e w3 ⟨rfl, hb3⟩
  have hB3 : Below w2.heap.size w2 w3 := by (repeat (first | exact Below.refl _ _ | assumption | refine Below.drew ?_ | refine below_drewN ?_ _ | refine balloc ?_ _ | refine Below.setCell ?_ (by first | (simp; done) | (simp; omega) | omega) _ | refine bchain (by assumption) ?_))
  have k0 := bblock hB3 k0
  have r := bblock hB3 r
  have t := bblock hB3 t
  have hw3 := bchain hB3 hw2
  clear hz_k0 hz_r hz_t
  have hz_k0 : w.heap.size < w3.heap.size := (Array.getElem?_eq_some_iff.1 k0).1
  have hz_r : w.heap.size + 1 < w3.heap.size := (Array.getElem?_eq_some_iff.1 r).1
  have hz_t : w1.heap.size < w3.heap.size := (Array.getElem?_eq_some_iff.1 t).1
  clear hB3
  clear k0_0 k0_1 r_0 r_1 r_f t_0 t_1 t_2
  have k0_0 : w3.cell? ⟨w.heap.size, 0, none⟩ = some (.pointer (some ⟨bO, 0, none⟩)) := by rw [cell_of_block k0]; rfl
  have k0_1 : w3.cell? ⟨w.heap.size, 1, none⟩ = some (.pointer (some ⟨bY, 0, none⟩)) := by rw [cell_of_block k0]; rfl
  have r_0 : w3.cell? ⟨w.heap.size + 1, 0, none⟩ = some (.int .i64 0) := by rw [cell_of_block r]; rfl
  have r_1 : w3.cell? ⟨w.heap.size + 1, 1, none⟩ = some (.int .i64 0) := by rw [cell_of_block r]; rfl
  have r_f : ∀ i, w3.frozen? ⟨w.heap.size + 1, i, none⟩ = false := frozen_of_block r
  have t_0 : w3.cell? ⟨w1.heap.size, 0, none⟩ = some (.int .i64 hk) := by rw [cell_of_block t]; rfl
  have t_1 : w3.cell? ⟨w1.heap.size, 1, none⟩ = some (.int .i64 hc) := by rw [cell_of_block t]; rfl
  have t_2 : w3.cell? ⟨w1.heap.size, 2, none⟩ = some (.int .i64 hf) := by rw [cell_of_block t]; rfl
  go_wp2
  exact bodyPost_ret (v := .tuple #[.agg #[.int .i64 im, .int .i64 is], .int .i64 0]) (by simp [results, Try.results20, go_sem, k0_0, k0_1, r_0, r_1, r_f, t_0, t_1, t_2, hz_k0, hz_r, hz_t]) rfl ⟨rfl, by (repeat (first | exact Below.refl _ _ | assumption | refine Below.drew ?_ | refine below_drewN ?_ _ | refine balloc ?_ _ | refine Below.setCell ?_ (by first | (simp; done) | (simp; omega) | omega) _ | refine bchain (by assumption) ?_))⟩
theorem mid_any {w : World} {bO bY : Nat} {lo ly : Int} {wo wy : List Int} {gO gY : Option Nat} (hm : MemAt w bO bY lo ly wo wy gO gY) (a : Int) : Calls Try.prog 20 #[.agg #[.pointer (some ⟨bO, 0, none⟩), .pointer (some ⟨bY, 0, none⟩)], .int .i64 a] w fun e w' => e = .returned (.tuple #[.agg #[.int .i64 (OM wo wy a), .int .i64 (OS wo wy a)], .int .i64 (HE wo wy a)]) ∧ Below w.heap.size w w' := by
  unfold OM OS
  by_cases he : HE wo wy a = 0
  · rw [he]
    exact mid_yes hm a he
  · rw [if_neg he, if_neg he]
    exact mid_no hm a he
end Go.Proofs.Ytcmhgjkijegpnaa
