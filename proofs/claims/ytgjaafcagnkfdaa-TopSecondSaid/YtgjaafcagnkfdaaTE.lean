/-
  A memory of two spaces: what it is, what its words say; object's part, Load, Header.
-/
import Derived.Test.YtgjaafcagnkfdaaTD
namespace Go.Proofs.Ytgjaafcagnkfdaa
open Go.RowKit
set_option linter.unusedSimpArgs false
set_option linter.unusedVariables false

/-! ### Decode, DecodeID, Words at every word -/
def dE (x : Int) : Int := if decB x then 0 else 11
def dK (x : Int) : Int := if decB x then decK x else 0
def dC (x : Int) : Int := if decB x then decC x else 0
def dF (x : Int) : Int := if decB x then decF x else 0
def iM (y : Int) : Int := if didB y then didM y else 0
def iS (y : Int) : Int := if didB y then didS y else 0
def szI (k c f : Int) : Int := if hvB k c f then wordsI f else 0
theorem decode_any (x : Int) (hx : U64 x) (w : World) : Calls Try.prog 57 #[.int .u64 x] w fun e w' => e = .returned (.tuple #[.agg #[.int .i64 (dK x), .int .i64 (dC x), .int .i64 (dF x)], .int .i64 (dE x)]) ∧ Below w.heap.size w w' := by
  unfold dE dK dC dF
  cases h : decB x
  · exact decode_no x hx h w
  · exact decode_yes x hx h w
theorem decodeID_any (y : Int) (hy : U64 y) (w : World) : Calls Try.prog 58 #[.int .u64 y] w fun e w' => e = .returned (.agg #[.int .i64 (iM y), .int .i64 (iS y)]) ∧ Below w.heap.size w w' := by
  unfold iM iS
  cases h : didB y
  · exact decodeID_no y hy h w
  · exact decodeID_yes y hy h w
theorem words_any (k c f : Int) (w : World) : Calls Try.prog 31 #[.agg #[.int .i64 k, .int .i64 c, .int .i64 f]] w fun e w' => e = .returned (.int .i64 (szI k c f)) ∧ Below w.heap.size w w' := by
  unfold szI
  cases h : hvB k c f
  · exact words_no k c f h w
  · exact words_yes k c f h w
structure MemAt (w : World) (bO bY : Nat) (lo ly : Int) (wo wy : List Int) (gO gY : Option Nat) : Prop where
  old : SpAt w bO 0 lo wo gO
  yng : SpAt w bY 16777216 ly wy gY
  okO : SpOk 0 lo wo
  okY : SpOk 16777216 ly wy
  lim : lo ≤ 16777216
  bb : bO ≠ bY
  gb : gO ≠ some bY
  bg : gY ≠ some bO
  gg : ∀ G, gO = some G → gY ≠ some G
theorem MemAt.below {w w' : World} {bO bY : Nat} {lo ly : Int} {wo wy : List Int} {gO gY : Option Nat} (h : MemAt w bO bY lo ly wo wy gO gY) (hb : Below w.heap.size w w') : MemAt w' bO bY lo ly wo wy gO gY :=
  ⟨h.old.below hb, h.yng.below hb, h.okO, h.okY, h.lim, h.bb, h.gb, h.bg, h.gg⟩
/-- The space of an address: its block, its base, its words. -/
def bpA (bO bY : Nat) (a : Int) : Nat := if 16777216 ≤ a then bY else bO
def bsA (a : Int) : Int := if 16777216 ≤ a then 16777216 else 0
def wsA (wo wy : List Int) (a : Int) : List Int := if 16777216 ≤ a then wy else wo
def lmA (lo ly : Int) (a : Int) : Int := if 16777216 ≤ a then ly else lo
def gpA (gO gY : Option Nat) (a : Int) : Option Nat := if 16777216 ≤ a then gY else gO
theorem MemAt.part {w : World} {bO bY : Nat} {lo ly : Int} {wo wy : List Int} {gO gY : Option Nat} (h : MemAt w bO bY lo ly wo wy gO gY) (a : Int) : SpAt w (bpA bO bY a) (bsA a) (lmA lo ly a) (wsA wo wy a) (gpA gO gY a) := by
  unfold bpA bsA lmA wsA gpA
  split
  · exact h.yng
  · exact h.old
theorem MemAt.partOk {w : World} {bO bY : Nat} {lo ly : Int} {wo wy : List Int} {gO gY : Option Nat} (h : MemAt w bO bY lo ly wo wy gO gY) (a : Int) : SpOk (bsA a) (lmA lo ly a) (wsA wo wy a) := by
  unfold bsA lmA wsA
  split
  · exact h.okY
  · exact h.okO
def LD (wo wy : List Int) (a : Int) : Int := ldW (bsA a) (wsA wo wy a) a
def LE (wo wy : List Int) (a : Int) : Int := ioE (bsA a) (wsA wo wy a) a
theorem MemAt.ldU {w : World} {bO bY : Nat} {lo ly : Int} {wo wy : List Int} {gO gY : Option Nat} (h : MemAt w bO bY lo ly wo wy gO gY) (a : Int) : U64 (LD wo wy a) := Proofs.Ytgjaafcagnkfdaa.ldU (h.partOk a) a
theorem part_any (bO bY : Nat) (a : Int) (w : World) : Calls Try.prog 48 #[.agg #[.pointer (some ⟨bO, 0, none⟩), .pointer (some ⟨bY, 0, none⟩)], .int .i64 a] w fun e w' => e = .returned (.pointer (some ⟨bpA bO bY a, 0, none⟩)) ∧ Below w.heap.size w w' := by
  unfold bpA
  split
  · go_enter Try.func48, Try.ntmps48
    go_wp2
    go_ret
    exact ⟨rfl, by (repeat (first | exact Below.refl _ _ | assumption | refine Below.drew ?_ | refine below_drewN ?_ _ | refine balloc ?_ _ | refine Below.setCell ?_ (by first | (simp; done) | (simp; omega) | omega) _ | refine bchain (by assumption) ?_))⟩
  · go_enter Try.func48, Try.ntmps48
    go_wp2
    go_ret
    exact ⟨rfl, by (repeat (first | exact Below.refl _ _ | assumption | refine Below.drew ?_ | refine below_drewN ?_ _ | refine balloc ?_ _ | refine Below.setCell ?_ (by first | (simp; done) | (simp; omega) | omega) _ | refine bchain (by assumption) ?_))⟩
set_option maxRecDepth 100000 in
set_option maxHeartbeats 1000000 in
theorem mload_any {w : World} {bO bY : Nat} {lo ly : Int} {wo wy : List Int} {gO gY : Option Nat} (hm : MemAt w bO bY lo ly wo wy gO gY) (a : Int) :
    Calls Try.prog 23 #[.agg #[.pointer (some ⟨bO, 0, none⟩), .pointer (some ⟨bY, 0, none⟩)], .int .i64 a] w fun e w' => e = .returned (.tuple #[.int .u64 (LD wo wy a), .int .i64 (LE wo wy a)]) ∧ Below w.heap.size w w' := by
  have hp := fun W (h : Below w.heap.size w W) => (hm.below h).part a
  have hk := hm.partOk a
  have hL := fun W (h : Below w.heap.size w W) => load_any (hp W h) hk a
  unfold LD LE
  clear hm hp hk
  generalize ldW (bsA a) (wsA wo wy a) a = x at *
  generalize ioE (bsA a) (wsA wo wy a) a = y at *
  have hw0 : Below w.heap.size w w := Below.refl _ _
  go_enter Try.func23, Try.ntmps23
  go_wp2_with fail
  refine (part_any _ _ _ _).mono ?_
  rintro e w1 ⟨rfl, hb1⟩
  have hB1 : Below w.heap.size w w1 := by (repeat (first | exact Below.refl _ _ | assumption | refine Below.drew ?_ | refine below_drewN ?_ _ | refine balloc ?_ _ | refine Below.setCell ?_ (by first | (simp; done) | (simp; omega) | omega) _ | refine bchain (by assumption) ?_))
  have k0 : w1.heap[w.heap.size]? = some (.cells #[.pointer (some ⟨bO, 0, none⟩), .pointer (some ⟨bY, 0, none⟩)] 26 (0, 0)) := bblock hb1 (by repeat (first | exact alloc_at _ (by simp) | refine alloc_lt _ ?_))
  have hw1 := bchain hB1 hw0
  have hp1 : w.heap.size + 1 ≤ w1.heap.size := by have := (Array.getElem?_eq_some_iff.1 k0).1; omega
  have hz_k0 : w.heap.size < w1.heap.size := (Array.getElem?_eq_some_iff.1 k0).1
  clear hB1
  have k0_0 : w1.cell? ⟨w.heap.size, 0, none⟩ = some (.pointer (some ⟨bO, 0, none⟩)) := by rw [cell_of_block k0]; rfl
  have k0_1 : w1.cell? ⟨w.heap.size, 1, none⟩ = some (.pointer (some ⟨bY, 0, none⟩)) := by rw [cell_of_block k0]; rfl
  go_wp2_with fail
  refine (hL _ (by (repeat (first | exact Below.refl _ _ | assumption | refine Below.drew ?_ | refine below_drewN ?_ _ | refine balloc ?_ _ | refine Below.setCell ?_ (by first | (simp; done) | (simp; omega) | omega) _ | refine bchain (by assumption) ?_)))).mono ?_
  rintro e w2 ⟨rfl, hb2⟩
  have hB2 : Below w1.heap.size w1 w2 := by (repeat (first | exact Below.refl _ _ | assumption | refine Below.drew ?_ | refine below_drewN ?_ _ | refine balloc ?_ _ | refine Below.setCell ?_ (by first | (simp; done) | (simp; omega) | omega) _ | refine bchain (by assumption) ?_))
  have k0 := bblock hB2 k0
  have hw2 := bchain hB2 hw1
  have hp2 : w.heap.size + 1 ≤ w2.heap.size := by have := (Array.getElem?_eq_some_iff.1 k0).1; omega
  clear hz_k0
  have hz_k0 : w.heap.size < w2.heap.size := (Array.getElem?_eq_some_iff.1 k0).1
  clear hB2
  clear k0_0 k0_1
  have k0_0 : w2.cell? ⟨w.heap.size, 0, none⟩ = some (.pointer (some ⟨bO, 0, none⟩)) := by rw [cell_of_block k0]; rfl
  have k0_1 : w2.cell? ⟨w.heap.size, 1, none⟩ = some (.pointer (some ⟨bY, 0, none⟩)) := by rw [cell_of_block k0]; rfl
  go_wp2
  go_ret2
  exact ⟨rfl, by (repeat (first | exact Below.refl _ _ | assumption | refine Below.drew ?_ | refine below_drewN ?_ _ | refine balloc ?_ _ | refine Below.setCell ?_ (by first | (simp; done) | (simp; omega) | omega) _ | refine bchain (by assumption) ?_))⟩
/-- Is there an object at place i? -/
def obB (ws : List Int) (i : Nat) : Bool := decide (i + 2 ≤ ws.length) && decB (ws.getD i 0) && didB (ws.getD (i + 1) 0) && decide (i + (wordsI (decF (ws.getD i 0))).toNat ≤ ws.length)
theorem obB_iff {ws : List Int} {i : Nat} : obB ws i = true ↔ i + 2 ≤ ws.length ∧ decB (ws.getD i 0) = true ∧ didB (ws.getD (i + 1) 0) = true ∧ i + (wordsI (decF (ws.getD i 0))).toNat ≤ ws.length := by unfold obB; simp [and_assoc]
def hdE (bs : Int) (ws : List Int) (a : Int) : Int := if inB bs ws.length a then (if obB ws (a - bs).toNat then 0 else 11) else 2
def hdK (bs : Int) (ws : List Int) (a : Int) : Int := if hdE bs ws a = 0 then decK (ws.getD (a - bs).toNat 0) else 0
def hdC (bs : Int) (ws : List Int) (a : Int) : Int := if hdE bs ws a = 0 then decC (ws.getD (a - bs).toNat 0) else 0
def hdF (bs : Int) (ws : List Int) (a : Int) : Int := if hdE bs ws a = 0 then decF (ws.getD (a - bs).toNat 0) else 0
theorem hd_out {bs : Int} {ws : List Int} {a : Int} (h : inB bs ws.length a = false) : hdE bs ws a = 2 ∧ hdK bs ws a = 0 ∧ hdC bs ws a = 0 ∧ hdF bs ws a = 0 := by
  have e : hdE bs ws a = 2 := by unfold hdE; rw [h]; rfl
  refine ⟨e, ?_, ?_, ?_⟩ <;> (first | unfold hdK | unfold hdC | unfold hdF) <;> rw [e] <;> rfl
theorem hd_bad {bs : Int} {ws : List Int} {a : Int} (h : inB bs ws.length a = true) (hb : obB ws (a - bs).toNat = false) : hdE bs ws a = 11 ∧ hdK bs ws a = 0 ∧ hdC bs ws a = 0 ∧ hdF bs ws a = 0 := by
  have e : hdE bs ws a = 11 := by unfold hdE; rw [h, hb]; rfl
  refine ⟨e, ?_, ?_, ?_⟩ <;> (first | unfold hdK | unfold hdC | unfold hdF) <;> rw [e] <;> rfl
theorem hd_ok {bs : Int} {ws : List Int} {a : Int} (h : inB bs ws.length a = true) (hb : obB ws (a - bs).toNat = true) : hdE bs ws a = 0 ∧ hdK bs ws a = decK (ws.getD (a - bs).toNat 0) ∧ hdC bs ws a = decC (ws.getD (a - bs).toNat 0) ∧ hdF bs ws a = decF (ws.getD (a - bs).toNat 0) := by
  have e : hdE bs ws a = 0 := by unfold hdE; rw [h, hb]; rfl
  refine ⟨e, ?_, ?_, ?_⟩ <;> (first | unfold hdK | unfold hdC | unfold hdF) <;> rw [if_pos e]
end Go.Proofs.Ytgjaafcagnkfdaa
namespace Go.Proofs.Ytgjaafcagnkfdaa
open Go.RowKit
set_option linter.unusedSimpArgs false
set_option linter.unusedVariables false

set_option maxRecDepth 100000 in
set_option maxHeartbeats 1000000 in
theorem mhdr_out {w : World} {bO bY bp : Nat} {bs lm : Int} {ws : List Int} {g : Option Nat} {a : Int} (hP : ∀ W, Calls Try.prog 48 #[.agg #[.pointer (some ⟨bO, 0, none⟩), .pointer (some ⟨bY, 0, none⟩)], .int .i64 a] W fun e w' => e = .returned (.pointer (some ⟨bp, 0, none⟩)) ∧ Below W.heap.size W w') (hs : ∀ W, Below w.heap.size w W → SpAt W bp bs lm ws g) (hk : SpOk bs lm ws) (h : inB bs ws.length a = false) :
    Calls Try.prog 43 #[.agg #[.pointer (some ⟨bO, 0, none⟩), .pointer (some ⟨bY, 0, none⟩)], .int .i64 a] w fun e w' => e = .returned (.tuple #[.agg #[.int .i64 0, .int .i64 0, .int .i64 0], .int .i64 2]) ∧ Below w.heap.size w w' := by
  have b0 := hk.b0
  have b1 := hk.top
  have b2 := hk.lm1
  have hL := fun W (h : Below w.heap.size w W) (c : Int) => load_any (hs W h) hk c
  have hC := fun W (h : Below w.heap.size w W) (c : Int) => contains_any (hs W h) hk c
  have e1 : ioE bs ws a = 2 := by unfold ioE; rw [h]; rfl
  have hL1 := fun W h => hL W h a
  rw [e1] at hL1
  generalize ldW bs ws a = x at *
  clear h e1 hL hC
  generalize hn : ws.length = n at *
  have HN := Lib.hid hn
  clear hs hk hn
  have hw0 : Below w.heap.size w w := Below.refl _ _
  go_enter Try.func43, Try.ntmps43
  go_wp2_with fail
  refine (hP _).mono ?_
  rintro e w1 ⟨rfl, hb1⟩
  have hB1 : Below w.heap.size w w1 := by (repeat (first | exact Below.refl _ _ | assumption | refine Below.drew ?_ | refine below_drewN ?_ _ | refine balloc ?_ _ | refine Below.setCell ?_ (by first | (simp; done) | (simp; omega) | omega) _ | refine bchain (by assumption) ?_))
  have k0 : w1.heap[w.heap.size]? = some (.cells #[.pointer (some ⟨bO, 0, none⟩), .pointer (some ⟨bY, 0, none⟩)] 26 (0, 0)) := bblock hb1 (by repeat (first | exact alloc_at _ (by simp) | refine alloc_lt _ ?_))
  have r : w1.heap[w.heap.size + 1]? = some (.cells #[.int .i64 0, .int .i64 0, .int .i64 0] 46 (0, 0)) := bblock hb1 (by repeat (first | exact alloc_at _ (by simp) | refine alloc_lt _ ?_))
  have hw1 := bchain hB1 hw0
  have hz1 : w.heap.size + 1 < w1.heap.size := (Array.getElem?_eq_some_iff.1 r).1
  clear hB1
  have k0_0 : w1.cell? ⟨w.heap.size, 0, none⟩ = some (.pointer (some ⟨bO, 0, none⟩)) := by rw [cell_of_block k0]; rfl
  have k0_1 : w1.cell? ⟨w.heap.size, 1, none⟩ = some (.pointer (some ⟨bY, 0, none⟩)) := by rw [cell_of_block k0]; rfl
  have r_0 : w1.cell? ⟨w.heap.size + 1, 0, none⟩ = some (.int .i64 0) := by rw [cell_of_block r]; rfl
  have r_1 : w1.cell? ⟨w.heap.size + 1, 1, none⟩ = some (.int .i64 0) := by rw [cell_of_block r]; rfl
  have r_2 : w1.cell? ⟨w.heap.size + 1, 2, none⟩ = some (.int .i64 0) := by rw [cell_of_block r]; rfl
  have r_f : ∀ i, w1.frozen? ⟨w.heap.size + 1, i, none⟩ = false := frozen_of_block r
  go_wp2_with fail
  refine (hL1 _ (by (repeat (first | exact Below.refl _ _ | assumption | refine Below.drew ?_ | refine below_drewN ?_ _ | refine balloc ?_ _ | refine Below.setCell ?_ (by first | (simp; done) | (simp; omega) | omega) _ | refine bchain (by assumption) ?_)))).mono ?_
  rintro e w2 ⟨rfl, hb2⟩
  have hB2 : Below w1.heap.size w1 w2 := by (repeat (first | exact Below.refl _ _ | assumption | refine Below.drew ?_ | refine below_drewN ?_ _ | refine balloc ?_ _ | refine Below.setCell ?_ (by first | (simp; done) | (simp; omega) | omega) _ | refine bchain (by assumption) ?_))
  have k0 := bblock hB2 k0
  have r := bblock hB2 r
  have hw2 := bchain hB2 hw1
  have hz2 : w.heap.size + 1 < w2.heap.size := (Array.getElem?_eq_some_iff.1 r).1
  clear hB2
  clear k0_0 k0_1 r_0 r_1 r_2 r_f
  have k0_0 : w2.cell? ⟨w.heap.size, 0, none⟩ = some (.pointer (some ⟨bO, 0, none⟩)) := by rw [cell_of_block k0]; rfl
  have k0_1 : w2.cell? ⟨w.heap.size, 1, none⟩ = some (.pointer (some ⟨bY, 0, none⟩)) := by rw [cell_of_block k0]; rfl
  have r_0 : w2.cell? ⟨w.heap.size + 1, 0, none⟩ = some (.int .i64 0) := by rw [cell_of_block r]; rfl
  have r_1 : w2.cell? ⟨w.heap.size + 1, 1, none⟩ = some (.int .i64 0) := by rw [cell_of_block r]; rfl
  have r_2 : w2.cell? ⟨w.heap.size + 1, 2, none⟩ = some (.int .i64 0) := by rw [cell_of_block r]; rfl
  have r_f : ∀ i, w2.frozen? ⟨w.heap.size + 1, i, none⟩ = false := frozen_of_block r
  go_wp2
  exact bodyPost_ret (v := .tuple #[.agg #[.int .i64 0, .int .i64 0, .int .i64 0], .int .i64 2]) (by simp [results, Try.results43, go_sem, k0_0, k0_1, r_0, r_1, r_2, r_f, hz2]) rfl ⟨rfl, by (repeat (first | exact Below.refl _ _ | assumption | refine Below.drew ?_ | refine below_drewN ?_ _ | refine balloc ?_ _ | refine Below.setCell ?_ (by first | (simp; done) | (simp; omega) | omega) _ | refine bchain (by assumption) ?_))⟩
set_option maxRecDepth 100000 in
set_option maxHeartbeats 1000000 in
theorem mhdr_A {w : World} {bO bY bp : Nat} {bs lm : Int} {ws : List Int} {g : Option Nat} {a : Int} (hP : ∀ W, Calls Try.prog 48 #[.agg #[.pointer (some ⟨bO, 0, none⟩), .pointer (some ⟨bY, 0, none⟩)], .int .i64 a] W fun e w' => e = .returned (.pointer (some ⟨bp, 0, none⟩)) ∧ Below W.heap.size W w') (hs : ∀ W, Below w.heap.size w W → SpAt W bp bs lm ws g) (hk : SpOk bs lm ws) (h : inB bs ws.length a = true) (h2 : inB bs ws.length (a + 1) = false) :
    Calls Try.prog 43 #[.agg #[.pointer (some ⟨bO, 0, none⟩), .pointer (some ⟨bY, 0, none⟩)], .int .i64 a] w fun e w' => e = .returned (.tuple #[.agg #[.int .i64 0, .int .i64 0, .int .i64 0], .int .i64 11]) ∧ Below w.heap.size w w' := by
  have b0 := hk.b0
  have b1 := hk.top
  have b2 := hk.lm1
  have hL := fun W (h : Below w.heap.size w W) (c : Int) => load_any (hs W h) hk c
  have hC := fun W (h : Below w.heap.size w W) (c : Int) => contains_any (hs W h) hk c
  obtain ⟨a0, a1⟩ := inB_iff.1 h
  have e1 : ioE bs ws a = 0 := by unfold ioE; rw [h]; rfl
  have hL1 := fun W h => hL W h a
  rw [e1] at hL1
  have hL2 := fun W h => hL W h (a + 1)
  have e2 : ioE bs ws (a + 1) = 2 := by unfold ioE; rw [h2]; rfl
  rw [e2] at hL2
  have hx := ldU hk a
  generalize ldW bs ws a = x at *
  generalize ldW bs ws (a + 1) = y at *
  have hD := fun W => decode_any x hx W
  clear h h2 e1 e2 hL hC hx
  generalize hn : ws.length = n at *
  have HN := Lib.hid hn
  clear hs hk hn
  have hw0 : Below w.heap.size w w := Below.refl _ _
  go_enter Try.func43, Try.ntmps43
  go_wp2_with fail
  refine (hP _).mono ?_
  rintro e w1 ⟨rfl, hb1⟩
  have hB1 : Below w.heap.size w w1 := by (repeat (first | exact Below.refl _ _ | assumption | refine Below.drew ?_ | refine below_drewN ?_ _ | refine balloc ?_ _ | refine Below.setCell ?_ (by first | (simp; done) | (simp; omega) | omega) _ | refine bchain (by assumption) ?_))
  have k0 : w1.heap[w.heap.size]? = some (.cells #[.pointer (some ⟨bO, 0, none⟩), .pointer (some ⟨bY, 0, none⟩)] 26 (0, 0)) := bblock hb1 (by repeat (first | exact alloc_at _ (by simp) | refine alloc_lt _ ?_))
  have r : w1.heap[w.heap.size + 1]? = some (.cells #[.int .i64 0, .int .i64 0, .int .i64 0] 46 (0, 0)) := bblock hb1 (by repeat (first | exact alloc_at _ (by simp) | refine alloc_lt _ ?_))
  have hw1 := bchain hB1 hw0
  have hz1 : w.heap.size + 1 < w1.heap.size := (Array.getElem?_eq_some_iff.1 r).1
  clear hB1
  have k0_0 : w1.cell? ⟨w.heap.size, 0, none⟩ = some (.pointer (some ⟨bO, 0, none⟩)) := by rw [cell_of_block k0]; rfl
  have k0_1 : w1.cell? ⟨w.heap.size, 1, none⟩ = some (.pointer (some ⟨bY, 0, none⟩)) := by rw [cell_of_block k0]; rfl
  have r_0 : w1.cell? ⟨w.heap.size + 1, 0, none⟩ = some (.int .i64 0) := by rw [cell_of_block r]; rfl
  have r_1 : w1.cell? ⟨w.heap.size + 1, 1, none⟩ = some (.int .i64 0) := by rw [cell_of_block r]; rfl
  have r_2 : w1.cell? ⟨w.heap.size + 1, 2, none⟩ = some (.int .i64 0) := by rw [cell_of_block r]; rfl
  have r_f : ∀ i, w1.frozen? ⟨w.heap.size + 1, i, none⟩ = false := frozen_of_block r
  go_wp2_with fail
  refine (hL1 _ (by (repeat (first | exact Below.refl _ _ | assumption | refine Below.drew ?_ | refine below_drewN ?_ _ | refine balloc ?_ _ | refine Below.setCell ?_ (by first | (simp; done) | (simp; omega) | omega) _ | refine bchain (by assumption) ?_)))).mono ?_
  rintro e w2 ⟨rfl, hb2⟩
  have hB2 : Below w1.heap.size w1 w2 := by (repeat (first | exact Below.refl _ _ | assumption | refine Below.drew ?_ | refine below_drewN ?_ _ | refine balloc ?_ _ | refine Below.setCell ?_ (by first | (simp; done) | (simp; omega) | omega) _ | refine bchain (by assumption) ?_))
  have k0 := bblock hB2 k0
  have r := bblock hB2 r
  have hw2 := bchain hB2 hw1
  have hz2 : w.heap.size + 1 < w2.heap.size := (Array.getElem?_eq_some_iff.1 r).1
  clear hB2
  clear k0_0 k0_1 r_0 r_1 r_2 r_f
  have k0_0 : w2.cell? ⟨w.heap.size, 0, none⟩ = some (.pointer (some ⟨bO, 0, none⟩)) := by rw [cell_of_block k0]; rfl
  have k0_1 : w2.cell? ⟨w.heap.size, 1, none⟩ = some (.pointer (some ⟨bY, 0, none⟩)) := by rw [cell_of_block k0]; rfl
  have r_0 : w2.cell? ⟨w.heap.size + 1, 0, none⟩ = some (.int .i64 0) := by rw [cell_of_block r]; rfl
  have r_1 : w2.cell? ⟨w.heap.size + 1, 1, none⟩ = some (.int .i64 0) := by rw [cell_of_block r]; rfl
  have r_2 : w2.cell? ⟨w.heap.size + 1, 2, none⟩ = some (.int .i64 0) := by rw [cell_of_block r]; rfl
  have r_f : ∀ i, w2.frozen? ⟨w.heap.size + 1, i, none⟩ = false := frozen_of_block r
  go_wp2_with fail
  refine (hL2 _ (by (repeat (first | exact Below.refl _ _ | assumption | refine Below.drew ?_ | refine below_drewN ?_ _ | refine balloc ?_ _ | refine Below.setCell ?_ (by first | (simp; done) | (simp; omega) | omega) _ | refine bchain (by assumption) ?_)))).mono ?_
  rintro e w3 ⟨rfl, hb3⟩
  have hB3 : Below w2.heap.size w2 w3 := by (repeat (first | exact Below.refl _ _ | assumption | refine Below.drew ?_ | refine below_drewN ?_ _ | refine balloc ?_ _ | refine Below.setCell ?_ (by first | (simp; done) | (simp; omega) | omega) _ | refine bchain (by assumption) ?_))
  have k0 := bblock hB3 k0
  have r := bblock hB3 r
  have hw3 := bchain hB3 hw2
  have hz3 : w.heap.size + 1 < w3.heap.size := (Array.getElem?_eq_some_iff.1 r).1
  clear hB3
  clear k0_0 k0_1 r_0 r_1 r_2 r_f
  have k0_0 : w3.cell? ⟨w.heap.size, 0, none⟩ = some (.pointer (some ⟨bO, 0, none⟩)) := by rw [cell_of_block k0]; rfl
  have k0_1 : w3.cell? ⟨w.heap.size, 1, none⟩ = some (.pointer (some ⟨bY, 0, none⟩)) := by rw [cell_of_block k0]; rfl
  have r_0 : w3.cell? ⟨w.heap.size + 1, 0, none⟩ = some (.int .i64 0) := by rw [cell_of_block r]; rfl
  have r_1 : w3.cell? ⟨w.heap.size + 1, 1, none⟩ = some (.int .i64 0) := by rw [cell_of_block r]; rfl
  have r_2 : w3.cell? ⟨w.heap.size + 1, 2, none⟩ = some (.int .i64 0) := by rw [cell_of_block r]; rfl
  have r_f : ∀ i, w3.frozen? ⟨w.heap.size + 1, i, none⟩ = false := frozen_of_block r
  go_wp2_with fail
  refine (hD _).mono ?_
  rintro e w4 ⟨rfl, hb4⟩
  have hB4 : Below w3.heap.size w3 w4 := by (repeat (first | exact Below.refl _ _ | assumption | refine Below.drew ?_ | refine below_drewN ?_ _ | refine balloc ?_ _ | refine Below.setCell ?_ (by first | (simp; done) | (simp; omega) | omega) _ | refine bchain (by assumption) ?_))
  have k0 := bblock hB4 k0
  have r := bblock hB4 r
  have hw4 := bchain hB4 hw3
  have hz4 : w.heap.size + 1 < w4.heap.size := (Array.getElem?_eq_some_iff.1 r).1
  clear hB4
  clear k0_0 k0_1 r_0 r_1 r_2 r_f
  have k0_0 : w4.cell? ⟨w.heap.size, 0, none⟩ = some (.pointer (some ⟨bO, 0, none⟩)) := by rw [cell_of_block k0]; rfl
  have k0_1 : w4.cell? ⟨w.heap.size, 1, none⟩ = some (.pointer (some ⟨bY, 0, none⟩)) := by rw [cell_of_block k0]; rfl
  have r_0 : w4.cell? ⟨w.heap.size + 1, 0, none⟩ = some (.int .i64 0) := by rw [cell_of_block r]; rfl
  have r_1 : w4.cell? ⟨w.heap.size + 1, 1, none⟩ = some (.int .i64 0) := by rw [cell_of_block r]; rfl
  have r_2 : w4.cell? ⟨w.heap.size + 1, 2, none⟩ = some (.int .i64 0) := by rw [cell_of_block r]; rfl
  have r_f : ∀ i, w4.frozen? ⟨w.heap.size + 1, i, none⟩ = false := frozen_of_block r
  go_wp2
  exact bodyPost_ret (v := .tuple #[.agg #[.int .i64 0, .int .i64 0, .int .i64 0], .int .i64 11]) (by simp [results, Try.results43, go_sem, k0_0, k0_1, r_0, r_1, r_2, r_f, hz4]) rfl ⟨rfl, by (repeat (first | exact Below.refl _ _ | assumption | refine Below.drew ?_ | refine below_drewN ?_ _ | refine balloc ?_ _ | refine Below.setCell ?_ (by first | (simp; done) | (simp; omega) | omega) _ | refine bchain (by assumption) ?_))⟩
set_option maxRecDepth 100000 in
set_option maxHeartbeats 1000000 in
theorem mhdr_B {w : World} {bO bY bp : Nat} {bs lm : Int} {ws : List Int} {g : Option Nat} {a : Int} (hP : ∀ W, Calls Try.prog 48 #[.agg #[.pointer (some ⟨bO, 0, none⟩), .pointer (some ⟨bY, 0, none⟩)], .int .i64 a] W fun e w' => e = .returned (.pointer (some ⟨bp, 0, none⟩)) ∧ Below W.heap.size W w') (hs : ∀ W, Below w.heap.size w W → SpAt W bp bs lm ws g) (hk : SpOk bs lm ws) (h : inB bs ws.length a = true) (h2 : inB bs ws.length (a + 1) = true) (hd : decB (ldW bs ws a) = false) :
    Calls Try.prog 43 #[.agg #[.pointer (some ⟨bO, 0, none⟩), .pointer (some ⟨bY, 0, none⟩)], .int .i64 a] w fun e w' => e = .returned (.tuple #[.agg #[.int .i64 0, .int .i64 0, .int .i64 0], .int .i64 11]) ∧ Below w.heap.size w w' := by
  have b0 := hk.b0
  have b1 := hk.top
  have b2 := hk.lm1
  have hL := fun W (h : Below w.heap.size w W) (c : Int) => load_any (hs W h) hk c
  have hC := fun W (h : Below w.heap.size w W) (c : Int) => contains_any (hs W h) hk c
  obtain ⟨a0, a1⟩ := inB_iff.1 h
  have e1 : ioE bs ws a = 0 := by unfold ioE; rw [h]; rfl
  have hL1 := fun W h => hL W h a
  rw [e1] at hL1
  have hL2 := fun W h => hL W h (a + 1)
  have e2 : ioE bs ws (a + 1) = 0 := by unfold ioE; rw [h2]; rfl
  rw [e2] at hL2
  have hx := ldU hk a
  have hy := ldU hk (a + 1)
  generalize ldW bs ws a = x at *
  generalize ldW bs ws (a + 1) = y at *
  have hD := fun W => decode_no x hx hd W
  clear h h2 e1 e2 hL hC hx hy hd
  generalize hn : ws.length = n at *
  have HN := Lib.hid hn
  clear hs hk hn
  have hw0 : Below w.heap.size w w := Below.refl _ _
  go_enter Try.func43, Try.ntmps43
  go_wp2_with fail
  refine (hP _).mono ?_
  rintro e w1 ⟨rfl, hb1⟩
  have hB1 : Below w.heap.size w w1 := by (repeat (first | exact Below.refl _ _ | assumption | refine Below.drew ?_ | refine below_drewN ?_ _ | refine balloc ?_ _ | refine Below.setCell ?_ (by first | (simp; done) | (simp; omega) | omega) _ | refine bchain (by assumption) ?_))
  have k0 : w1.heap[w.heap.size]? = some (.cells #[.pointer (some ⟨bO, 0, none⟩), .pointer (some ⟨bY, 0, none⟩)] 26 (0, 0)) := bblock hb1 (by repeat (first | exact alloc_at _ (by simp) | refine alloc_lt _ ?_))
  have r : w1.heap[w.heap.size + 1]? = some (.cells #[.int .i64 0, .int .i64 0, .int .i64 0] 46 (0, 0)) := bblock hb1 (by repeat (first | exact alloc_at _ (by simp) | refine alloc_lt _ ?_))
  have hw1 := bchain hB1 hw0
  have hz1 : w.heap.size + 1 < w1.heap.size := (Array.getElem?_eq_some_iff.1 r).1
  clear hB1
  have k0_0 : w1.cell? ⟨w.heap.size, 0, none⟩ = some (.pointer (some ⟨bO, 0, none⟩)) := by rw [cell_of_block k0]; rfl
  have k0_1 : w1.cell? ⟨w.heap.size, 1, none⟩ = some (.pointer (some ⟨bY, 0, none⟩)) := by rw [cell_of_block k0]; rfl
  have r_0 : w1.cell? ⟨w.heap.size + 1, 0, none⟩ = some (.int .i64 0) := by rw [cell_of_block r]; rfl
  have r_1 : w1.cell? ⟨w.heap.size + 1, 1, none⟩ = some (.int .i64 0) := by rw [cell_of_block r]; rfl
  have r_2 : w1.cell? ⟨w.heap.size + 1, 2, none⟩ = some (.int .i64 0) := by rw [cell_of_block r]; rfl
  have r_f : ∀ i, w1.frozen? ⟨w.heap.size + 1, i, none⟩ = false := frozen_of_block r
  go_wp2_with fail
  refine (hL1 _ (by (repeat (first | exact Below.refl _ _ | assumption | refine Below.drew ?_ | refine below_drewN ?_ _ | refine balloc ?_ _ | refine Below.setCell ?_ (by first | (simp; done) | (simp; omega) | omega) _ | refine bchain (by assumption) ?_)))).mono ?_
  rintro e w2 ⟨rfl, hb2⟩
  have hB2 : Below w1.heap.size w1 w2 := by (repeat (first | exact Below.refl _ _ | assumption | refine Below.drew ?_ | refine below_drewN ?_ _ | refine balloc ?_ _ | refine Below.setCell ?_ (by first | (simp; done) | (simp; omega) | omega) _ | refine bchain (by assumption) ?_))
  have k0 := bblock hB2 k0
  have r := bblock hB2 r
  have hw2 := bchain hB2 hw1
  have hz2 : w.heap.size + 1 < w2.heap.size := (Array.getElem?_eq_some_iff.1 r).1
  clear hB2
  clear k0_0 k0_1 r_0 r_1 r_2 r_f
  have k0_0 : w2.cell? ⟨w.heap.size, 0, none⟩ = some (.pointer (some ⟨bO, 0, none⟩)) := by rw [cell_of_block k0]; rfl
  have k0_1 : w2.cell? ⟨w.heap.size, 1, none⟩ = some (.pointer (some ⟨bY, 0, none⟩)) := by rw [cell_of_block k0]; rfl
  have r_0 : w2.cell? ⟨w.heap.size + 1, 0, none⟩ = some (.int .i64 0) := by rw [cell_of_block r]; rfl
  have r_1 : w2.cell? ⟨w.heap.size + 1, 1, none⟩ = some (.int .i64 0) := by rw [cell_of_block r]; rfl
  have r_2 : w2.cell? ⟨w.heap.size + 1, 2, none⟩ = some (.int .i64 0) := by rw [cell_of_block r]; rfl
  have r_f : ∀ i, w2.frozen? ⟨w.heap.size + 1, i, none⟩ = false := frozen_of_block r
  go_wp2_with fail
  refine (hL2 _ (by (repeat (first | exact Below.refl _ _ | assumption | refine Below.drew ?_ | refine below_drewN ?_ _ | refine balloc ?_ _ | refine Below.setCell ?_ (by first | (simp; done) | (simp; omega) | omega) _ | refine bchain (by assumption) ?_)))).mono ?_
  rintro e w3 ⟨rfl, hb3⟩
  have hB3 : Below w2.heap.size w2 w3 := by (repeat (first | exact Below.refl _ _ | assumption | refine Below.drew ?_ | refine below_drewN ?_ _ | refine balloc ?_ _ | refine Below.setCell ?_ (by first | (simp; done) | (simp; omega) | omega) _ | refine bchain (by assumption) ?_))
  have k0 := bblock hB3 k0
  have r := bblock hB3 r
  have hw3 := bchain hB3 hw2
  have hz3 : w.heap.size + 1 < w3.heap.size := (Array.getElem?_eq_some_iff.1 r).1
  clear hB3
  clear k0_0 k0_1 r_0 r_1 r_2 r_f
  have k0_0 : w3.cell? ⟨w.heap.size, 0, none⟩ = some (.pointer (some ⟨bO, 0, none⟩)) := by rw [cell_of_block k0]; rfl
  have k0_1 : w3.cell? ⟨w.heap.size, 1, none⟩ = some (.pointer (some ⟨bY, 0, none⟩)) := by rw [cell_of_block k0]; rfl
  have r_0 : w3.cell? ⟨w.heap.size + 1, 0, none⟩ = some (.int .i64 0) := by rw [cell_of_block r]; rfl
  have r_1 : w3.cell? ⟨w.heap.size + 1, 1, none⟩ = some (.int .i64 0) := by rw [cell_of_block r]; rfl
  have r_2 : w3.cell? ⟨w.heap.size + 1, 2, none⟩ = some (.int .i64 0) := by rw [cell_of_block r]; rfl
  have r_f : ∀ i, w3.frozen? ⟨w.heap.size + 1, i, none⟩ = false := frozen_of_block r
  go_wp2_with fail
  refine (hD _).mono ?_
  rintro e w4 ⟨rfl, hb4⟩
  have hB4 : Below w3.heap.size w3 w4 := by (repeat (first | exact Below.refl _ _ | assumption | refine Below.drew ?_ | refine below_drewN ?_ _ | refine balloc ?_ _ | refine Below.setCell ?_ (by first | (simp; done) | (simp; omega) | omega) _ | refine bchain (by assumption) ?_))
  have k0 := bblock hB4 k0
  have r := bblock hB4 r
  have hw4 := bchain hB4 hw3
  have hz4 : w.heap.size + 1 < w4.heap.size := (Array.getElem?_eq_some_iff.1 r).1
  clear hB4
  clear k0_0 k0_1 r_0 r_1 r_2 r_f
  have k0_0 : w4.cell? ⟨w.heap.size, 0, none⟩ = some (.pointer (some ⟨bO, 0, none⟩)) := by rw [cell_of_block k0]; rfl
  have k0_1 : w4.cell? ⟨w.heap.size, 1, none⟩ = some (.pointer (some ⟨bY, 0, none⟩)) := by rw [cell_of_block k0]; rfl
  have r_0 : w4.cell? ⟨w.heap.size + 1, 0, none⟩ = some (.int .i64 0) := by rw [cell_of_block r]; rfl
  have r_1 : w4.cell? ⟨w.heap.size + 1, 1, none⟩ = some (.int .i64 0) := by rw [cell_of_block r]; rfl
  have r_2 : w4.cell? ⟨w.heap.size + 1, 2, none⟩ = some (.int .i64 0) := by rw [cell_of_block r]; rfl
  have r_f : ∀ i, w4.frozen? ⟨w.heap.size + 1, i, none⟩ = false := frozen_of_block r
  go_wp2
  exact bodyPost_ret (v := .tuple #[.agg #[.int .i64 0, .int .i64 0, .int .i64 0], .int .i64 11]) (by simp [results, Try.results43, go_sem, k0_0, k0_1, r_0, r_1, r_2, r_f, hz4]) rfl ⟨rfl, by (repeat (first | exact Below.refl _ _ | assumption | refine Below.drew ?_ | refine below_drewN ?_ _ | refine balloc ?_ _ | refine Below.setCell ?_ (by first | (simp; done) | (simp; omega) | omega) _ | refine bchain (by assumption) ?_))⟩
set_option maxRecDepth 100000 in
set_option maxHeartbeats 1000000 in
theorem mhdr_C {w : World} {bO bY bp : Nat} {bs lm : Int} {ws : List Int} {g : Option Nat} {a : Int} (hP : ∀ W, Calls Try.prog 48 #[.agg #[.pointer (some ⟨bO, 0, none⟩), .pointer (some ⟨bY, 0, none⟩)], .int .i64 a] W fun e w' => e = .returned (.pointer (some ⟨bp, 0, none⟩)) ∧ Below W.heap.size W w') (hs : ∀ W, Below w.heap.size w W → SpAt W bp bs lm ws g) (hk : SpOk bs lm ws) (h : inB bs ws.length a = true) (h2 : inB bs ws.length (a + 1) = true) (hd : decB (ldW bs ws a) = true) (hi : didB (ldW bs ws (a + 1)) = false) :
    Calls Try.prog 43 #[.agg #[.pointer (some ⟨bO, 0, none⟩), .pointer (some ⟨bY, 0, none⟩)], .int .i64 a] w fun e w' => e = .returned (.tuple #[.agg #[.int .i64 0, .int .i64 0, .int .i64 0], .int .i64 11]) ∧ Below w.heap.size w w' := by
  have b0 := hk.b0
  have b1 := hk.top
  have b2 := hk.lm1
  have hL := fun W (h : Below w.heap.size w W) (c : Int) => load_any (hs W h) hk c
  have hC := fun W (h : Below w.heap.size w W) (c : Int) => contains_any (hs W h) hk c
  obtain ⟨a0, a1⟩ := inB_iff.1 h
  have e1 : ioE bs ws a = 0 := by unfold ioE; rw [h]; rfl
  have hL1 := fun W h => hL W h a
  rw [e1] at hL1
  have hL2 := fun W h => hL W h (a + 1)
  have e2 : ioE bs ws (a + 1) = 0 := by unfold ioE; rw [h2]; rfl
  rw [e2] at hL2
  have hx := ldU hk a
  have hy := ldU hk (a + 1)
  generalize ldW bs ws a = x at *
  generalize ldW bs ws (a + 1) = y at *
  have hD := fun W => decode_yes x hx hd W
  have hI := fun W => decodeID_no y hy hi W
  generalize decK x = kk at *
  generalize decC x = cc at *
  generalize decF x = ff at *
  clear h h2 e1 e2 hL hC hx hy hd hi
  generalize hn : ws.length = n at *
  have HN := Lib.hid hn
  clear hs hk hn
  have hw0 : Below w.heap.size w w := Below.refl _ _
  go_enter Try.func43, Try.ntmps43
  go_wp2_with fail
  refine (hP _).mono ?_
  rintro e w1 ⟨rfl, hb1⟩
  have hB1 : Below w.heap.size w w1 := by (repeat (first | exact Below.refl _ _ | assumption | refine Below.drew ?_ | refine below_drewN ?_ _ | refine balloc ?_ _ | refine Below.setCell ?_ (by first | (simp; done) | (simp; omega) | omega) _ | refine bchain (by assumption) ?_))
  have k0 : w1.heap[w.heap.size]? = some (.cells #[.pointer (some ⟨bO, 0, none⟩), .pointer (some ⟨bY, 0, none⟩)] 26 (0, 0)) := bblock hb1 (by repeat (first | exact alloc_at _ (by simp) | refine alloc_lt _ ?_))
  have r : w1.heap[w.heap.size + 1]? = some (.cells #[.int .i64 0, .int .i64 0, .int .i64 0] 46 (0, 0)) := bblock hb1 (by repeat (first | exact alloc_at _ (by simp) | refine alloc_lt _ ?_))
  have hw1 := bchain hB1 hw0
  have hz1 : w.heap.size + 1 < w1.heap.size := (Array.getElem?_eq_some_iff.1 r).1
  clear hB1
  have k0_0 : w1.cell? ⟨w.heap.size, 0, none⟩ = some (.pointer (some ⟨bO, 0, none⟩)) := by rw [cell_of_block k0]; rfl
  have k0_1 : w1.cell? ⟨w.heap.size, 1, none⟩ = some (.pointer (some ⟨bY, 0, none⟩)) := by rw [cell_of_block k0]; rfl
  have r_0 : w1.cell? ⟨w.heap.size + 1, 0, none⟩ = some (.int .i64 0) := by rw [cell_of_block r]; rfl
  have r_1 : w1.cell? ⟨w.heap.size + 1, 1, none⟩ = some (.int .i64 0) := by rw [cell_of_block r]; rfl
  have r_2 : w1.cell? ⟨w.heap.size + 1, 2, none⟩ = some (.int .i64 0) := by rw [cell_of_block r]; rfl
  have r_f : ∀ i, w1.frozen? ⟨w.heap.size + 1, i, none⟩ = false := frozen_of_block r
  go_wp2_with fail
  refine (hL1 _ (by (repeat (first | exact Below.refl _ _ | assumption | refine Below.drew ?_ | refine below_drewN ?_ _ | refine balloc ?_ _ | refine Below.setCell ?_ (by first | (simp; done) | (simp; omega) | omega) _ | refine bchain (by assumption) ?_)))).mono ?_
  rintro e w2 ⟨rfl, hb2⟩
  have hB2 : Below w1.heap.size w1 w2 := by (repeat (first | exact Below.refl _ _ | assumption | refine Below.drew ?_ | refine below_drewN ?_ _ | refine balloc ?_ _ | refine Below.setCell ?_ (by first | (simp; done) | (simp; omega) | omega) _ | refine bchain (by assumption) ?_))
  have k0 := bblock hB2 k0
  have r := bblock hB2 r
  have hw2 := bchain hB2 hw1
  have hz2 : w.heap.size + 1 < w2.heap.size := (Array.getElem?_eq_some_iff.1 r).1
  clear hB2
  clear k0_0 k0_1 r_0 r_1 r_2 r_f
  have k0_0 : w2.cell? ⟨w.heap.size, 0, none⟩ = some (.pointer (some ⟨bO, 0, none⟩)) := by rw [cell_of_block k0]; rfl
  have k0_1 : w2.cell? ⟨w.heap.size, 1, none⟩ = some (.pointer (some ⟨bY, 0, none⟩)) := by rw [cell_of_block k0]; rfl
  have r_0 : w2.cell? ⟨w.heap.size + 1, 0, none⟩ = some (.int .i64 0) := by rw [cell_of_block r]; rfl
  have r_1 : w2.cell? ⟨w.heap.size + 1, 1, none⟩ = some (.int .i64 0) := by rw [cell_of_block r]; rfl
  have r_2 : w2.cell? ⟨w.heap.size + 1, 2, none⟩ = some (.int .i64 0) := by rw [cell_of_block r]; rfl
  have r_f : ∀ i, w2.frozen? ⟨w.heap.size + 1, i, none⟩ = false := frozen_of_block r
  go_wp2_with fail
  refine (hL2 _ (by (repeat (first | exact Below.refl _ _ | assumption | refine Below.drew ?_ | refine below_drewN ?_ _ | refine balloc ?_ _ | refine Below.setCell ?_ (by first | (simp; done) | (simp; omega) | omega) _ | refine bchain (by assumption) ?_)))).mono ?_
  rintro e w3 ⟨rfl, hb3⟩
  have hB3 : Below w2.heap.size w2 w3 := by (repeat (first | exact Below.refl _ _ | assumption | refine Below.drew ?_ | refine below_drewN ?_ _ | refine balloc ?_ _ | refine Below.setCell ?_ (by first | (simp; done) | (simp; omega) | omega) _ | refine bchain (by assumption) ?_))
  have k0 := bblock hB3 k0
  have r := bblock hB3 r
  have hw3 := bchain hB3 hw2
  have hz3 : w.heap.size + 1 < w3.heap.size := (Array.getElem?_eq_some_iff.1 r).1
  clear hB3
  clear k0_0 k0_1 r_0 r_1 r_2 r_f
  have k0_0 : w3.cell? ⟨w.heap.size, 0, none⟩ = some (.pointer (some ⟨bO, 0, none⟩)) := by rw [cell_of_block k0]; rfl
  have k0_1 : w3.cell? ⟨w.heap.size, 1, none⟩ = some (.pointer (some ⟨bY, 0, none⟩)) := by rw [cell_of_block k0]; rfl
  have r_0 : w3.cell? ⟨w.heap.size + 1, 0, none⟩ = some (.int .i64 0) := by rw [cell_of_block r]; rfl
  have r_1 : w3.cell? ⟨w.heap.size + 1, 1, none⟩ = some (.int .i64 0) := by rw [cell_of_block r]; rfl
  have r_2 : w3.cell? ⟨w.heap.size + 1, 2, none⟩ = some (.int .i64 0) := by rw [cell_of_block r]; rfl
  have r_f : ∀ i, w3.frozen? ⟨w.heap.size + 1, i, none⟩ = false := frozen_of_block r
  go_wp2_with fail
  refine (hD _).mono ?_
  rintro e w4 ⟨rfl, hb4⟩
  have hB4 : Below w3.heap.size w3 w4 := by (repeat (first | exact Below.refl _ _ | assumption | refine Below.drew ?_ | refine below_drewN ?_ _ | refine balloc ?_ _ | refine Below.setCell ?_ (by first | (simp; done) | (simp; omega) | omega) _ | refine bchain (by assumption) ?_))
  have k0 := bblock hB4 k0
  have r := bblock hB4 r
  have hw4 := bchain hB4 hw3
  have hz4 : w.heap.size + 1 < w4.heap.size := (Array.getElem?_eq_some_iff.1 r).1
  clear hB4
  clear k0_0 k0_1 r_0 r_1 r_2 r_f
  have k0_0 : w4.cell? ⟨w.heap.size, 0, none⟩ = some (.pointer (some ⟨bO, 0, none⟩)) := by rw [cell_of_block k0]; rfl
  have k0_1 : w4.cell? ⟨w.heap.size, 1, none⟩ = some (.pointer (some ⟨bY, 0, none⟩)) := by rw [cell_of_block k0]; rfl
  have r_0 : w4.cell? ⟨w.heap.size + 1, 0, none⟩ = some (.int .i64 0) := by rw [cell_of_block r]; rfl
  have r_1 : w4.cell? ⟨w.heap.size + 1, 1, none⟩ = some (.int .i64 0) := by rw [cell_of_block r]; rfl
  have r_2 : w4.cell? ⟨w.heap.size + 1, 2, none⟩ = some (.int .i64 0) := by rw [cell_of_block r]; rfl
  have r_f : ∀ i, w4.frozen? ⟨w.heap.size + 1, i, none⟩ = false := frozen_of_block r
  go_wp2_with fail
  refine (hI _).mono ?_
  rintro e w5 ⟨rfl, hb5⟩
  have hB5 : Below w4.heap.size w4 w5 := by (repeat (first | exact Below.refl _ _ | assumption | refine Below.drew ?_ | refine below_drewN ?_ _ | refine balloc ?_ _ | refine Below.setCell ?_ (by first | (simp; done) | (simp; omega) | omega) _ | refine bchain (by assumption) ?_))
  have k0 := bblock hB5 k0
  have r := bblock hB5 r
  have t : w5.heap[w4.heap.size]? = some (.cells #[.int .i64 kk, .int .i64 cc, .int .i64 ff] 46 (0, 0)) := bblock hb5 (by repeat (first | exact alloc_at _ (by simp) | refine alloc_lt _ ?_))
  have hw5 := bchain hB5 hw4
  have hz5 : w4.heap.size < w5.heap.size := (Array.getElem?_eq_some_iff.1 t).1
  clear hB5
  clear k0_0 k0_1 r_0 r_1 r_2 r_f
  have k0_0 : w5.cell? ⟨w.heap.size, 0, none⟩ = some (.pointer (some ⟨bO, 0, none⟩)) := by rw [cell_of_block k0]; rfl
  have k0_1 : w5.cell? ⟨w.heap.size, 1, none⟩ = some (.pointer (some ⟨bY, 0, none⟩)) := by rw [cell_of_block k0]; rfl
  have r_0 : w5.cell? ⟨w.heap.size + 1, 0, none⟩ = some (.int .i64 0) := by rw [cell_of_block r]; rfl
  have r_1 : w5.cell? ⟨w.heap.size + 1, 1, none⟩ = some (.int .i64 0) := by rw [cell_of_block r]; rfl
  have r_2 : w5.cell? ⟨w.heap.size + 1, 2, none⟩ = some (.int .i64 0) := by rw [cell_of_block r]; rfl
  have r_f : ∀ i, w5.frozen? ⟨w.heap.size + 1, i, none⟩ = false := frozen_of_block r
  have t_0 : w5.cell? ⟨w4.heap.size, 0, none⟩ = some (.int .i64 kk) := by rw [cell_of_block t]; rfl
  have t_1 : w5.cell? ⟨w4.heap.size, 1, none⟩ = some (.int .i64 cc) := by rw [cell_of_block t]; rfl
  have t_2 : w5.cell? ⟨w4.heap.size, 2, none⟩ = some (.int .i64 ff) := by rw [cell_of_block t]; rfl
  go_wp2
  exact bodyPost_ret (v := .tuple #[.agg #[.int .i64 0, .int .i64 0, .int .i64 0], .int .i64 11]) (by simp [results, Try.results43, go_sem, k0_0, k0_1, r_0, r_1, r_2, r_f, t_0, t_1, t_2, hz5]) rfl ⟨rfl, by (repeat (first | exact Below.refl _ _ | assumption | refine Below.drew ?_ | refine below_drewN ?_ _ | refine balloc ?_ _ | refine Below.setCell ?_ (by first | (simp; done) | (simp; omega) | omega) _ | refine bchain (by assumption) ?_))⟩
set_option maxRecDepth 100000 in
set_option maxHeartbeats 1000000 in
theorem mhdr_D {w : World} {bO bY bp : Nat} {bs lm : Int} {ws : List Int} {g : Option Nat} {a : Int} (hP : ∀ W, Calls Try.prog 48 #[.agg #[.pointer (some ⟨bO, 0, none⟩), .pointer (some ⟨bY, 0, none⟩)], .int .i64 a] W fun e w' => e = .returned (.pointer (some ⟨bp, 0, none⟩)) ∧ Below W.heap.size W w') (hs : ∀ W, Below w.heap.size w W → SpAt W bp bs lm ws g) (hk : SpOk bs lm ws) (h : inB bs ws.length a = true) (h2 : inB bs ws.length (a + 1) = true) (hd : decB (ldW bs ws a) = true) (hi : didB (ldW bs ws (a + 1)) = true) (hc : inB bs ws.length (a + wordsI (decF (ldW bs ws a)) - 1) = false) :
    Calls Try.prog 43 #[.agg #[.pointer (some ⟨bO, 0, none⟩), .pointer (some ⟨bY, 0, none⟩)], .int .i64 a] w fun e w' => e = .returned (.tuple #[.agg #[.int .i64 0, .int .i64 0, .int .i64 0], .int .i64 11]) ∧ Below w.heap.size w w' := by
  have b0 := hk.b0
  have b1 := hk.top
  have b2 := hk.lm1
  have hL := fun W (h : Below w.heap.size w W) (c : Int) => load_any (hs W h) hk c
  have hC := fun W (h : Below w.heap.size w W) (c : Int) => contains_any (hs W h) hk c
  obtain ⟨a0, a1⟩ := inB_iff.1 h
  have e1 : ioE bs ws a = 0 := by unfold ioE; rw [h]; rfl
  have hL1 := fun W h => hL W h a
  rw [e1] at hL1
  have hL2 := fun W h => hL W h (a + 1)
  have e2 : ioE bs ws (a + 1) = 0 := by unfold ioE; rw [h2]; rfl
  rw [e2] at hL2
  have hx := ldU hk a
  have hy := ldU hk (a + 1)
  generalize ldW bs ws a = x at *
  generalize ldW bs ws (a + 1) = y at *
  have hD := fun W => decode_yes x hx hd W
  have hI := fun W => decodeID_yes y hy hi W
  have hW := fun W => words_yes (decK x) (decC x) (decF x) (decB_iff.1 hd).1 W
  have hC1 := fun W h => hC W h (a + wordsI (decF x) - 1)
  rw [hc] at hC1
  have d5 := idB_iff.1 (show idB (didM y) (didS y) = true from hi)
  obtain ⟨y0, y1, y2⟩ := wordsI_bd (decB_iff.1 hd).1
  generalize didM y = ym at *
  generalize didS y = ys at *
  generalize decK x = kk at *
  generalize decC x = cc at *
  generalize decF x = ff at *
  generalize wordsI ff = sz at *
  clear h h2 e1 e2 hL hC hx hy hd hi hc
  generalize hn : ws.length = n at *
  have HN := Lib.hid hn
  clear hs hk hn
  have hw0 : Below w.heap.size w w := Below.refl _ _
  go_enter Try.func43, Try.ntmps43
  go_wp2_with fail
  refine (hP _).mono ?_
  rintro e w1 ⟨rfl, hb1⟩
  have hB1 : Below w.heap.size w w1 := by (repeat (first | exact Below.refl _ _ | assumption | refine Below.drew ?_ | refine below_drewN ?_ _ | refine balloc ?_ _ | refine Below.setCell ?_ (by first | (simp; done) | (simp; omega) | omega) _ | refine bchain (by assumption) ?_))
  have k0 : w1.heap[w.heap.size]? = some (.cells #[.pointer (some ⟨bO, 0, none⟩), .pointer (some ⟨bY, 0, none⟩)] 26 (0, 0)) := bblock hb1 (by repeat (first | exact alloc_at _ (by simp) | refine alloc_lt _ ?_))
  have r : w1.heap[w.heap.size + 1]? = some (.cells #[.int .i64 0, .int .i64 0, .int .i64 0] 46 (0, 0)) := bblock hb1 (by repeat (first | exact alloc_at _ (by simp) | refine alloc_lt _ ?_))
  have hw1 := bchain hB1 hw0
  have hz1 : w.heap.size + 1 < w1.heap.size := (Array.getElem?_eq_some_iff.1 r).1
  clear hB1
  have k0_0 : w1.cell? ⟨w.heap.size, 0, none⟩ = some (.pointer (some ⟨bO, 0, none⟩)) := by rw [cell_of_block k0]; rfl
  have k0_1 : w1.cell? ⟨w.heap.size, 1, none⟩ = some (.pointer (some ⟨bY, 0, none⟩)) := by rw [cell_of_block k0]; rfl
  have r_0 : w1.cell? ⟨w.heap.size + 1, 0, none⟩ = some (.int .i64 0) := by rw [cell_of_block r]; rfl
  have r_1 : w1.cell? ⟨w.heap.size + 1, 1, none⟩ = some (.int .i64 0) := by rw [cell_of_block r]; rfl
  have r_2 : w1.cell? ⟨w.heap.size + 1, 2, none⟩ = some (.int .i64 0) := by rw [cell_of_block r]; rfl
  have r_f : ∀ i, w1.frozen? ⟨w.heap.size + 1, i, none⟩ = false := frozen_of_block r
  go_wp2_with fail
  refine (hL1 _ (by (repeat (first | exact Below.refl _ _ | assumption | refine Below.drew ?_ | refine below_drewN ?_ _ | refine balloc ?_ _ | refine Below.setCell ?_ (by first | (simp; done) | (simp; omega) | omega) _ | refine bchain (by assumption) ?_)))).mono ?_
  rintro e w2 ⟨rfl, hb2⟩
  have hB2 : Below w1.heap.size w1 w2 := by (repeat (first | exact Below.refl _ _ | assumption | refine Below.drew ?_ | refine below_drewN ?_ _ | refine balloc ?_ _ | refine Below.setCell ?_ (by first | (simp; done) | (simp; omega) | omega) _ | refine bchain (by assumption) ?_))
  have k0 := bblock hB2 k0
  have r := bblock hB2 r
  have hw2 := bchain hB2 hw1
  have hz2 : w.heap.size + 1 < w2.heap.size := (Array.getElem?_eq_some_iff.1 r).1
  clear hB2
  clear k0_0 k0_1 r_0 r_1 r_2 r_f
  have k0_0 : w2.cell? ⟨w.heap.size, 0, none⟩ = some (.pointer (some ⟨bO, 0, none⟩)) := by rw [cell_of_block k0]; rfl
  have k0_1 : w2.cell? ⟨w.heap.size, 1, none⟩ = some (.pointer (some ⟨bY, 0, none⟩)) := by rw [cell_of_block k0]; rfl
  have r_0 : w2.cell? ⟨w.heap.size + 1, 0, none⟩ = some (.int .i64 0) := by rw [cell_of_block r]; rfl
  have r_1 : w2.cell? ⟨w.heap.size + 1, 1, none⟩ = some (.int .i64 0) := by rw [cell_of_block r]; rfl
  have r_2 : w2.cell? ⟨w.heap.size + 1, 2, none⟩ = some (.int .i64 0) := by rw [cell_of_block r]; rfl
  have r_f : ∀ i, w2.frozen? ⟨w.heap.size + 1, i, none⟩ = false := frozen_of_block r
  go_wp2_with fail
  refine (hL2 _ (by (repeat (first | exact Below.refl _ _ | assumption | refine Below.drew ?_ | refine below_drewN ?_ _ | refine balloc ?_ _ | refine Below.setCell ?_ (by first | (simp; done) | (simp; omega) | omega) _ | refine bchain (by assumption) ?_)))).mono ?_
  rintro e w3 ⟨rfl, hb3⟩
  have hB3 : Below w2.heap.size w2 w3 := by (repeat (first | exact Below.refl _ _ | assumption | refine Below.drew ?_ | refine below_drewN ?_ _ | refine balloc ?_ _ | refine Below.setCell ?_ (by first | (simp; done) | (simp; omega) | omega) _ | refine bchain (by assumption) ?_))
  have k0 := bblock hB3 k0
  have r := bblock hB3 r
  have hw3 := bchain hB3 hw2
  have hz3 : w.heap.size + 1 < w3.heap.size := (Array.getElem?_eq_some_iff.1 r).1
  clear hB3
  clear k0_0 k0_1 r_0 r_1 r_2 r_f
  have k0_0 : w3.cell? ⟨w.heap.size, 0, none⟩ = some (.pointer (some ⟨bO, 0, none⟩)) := by rw [cell_of_block k0]; rfl
  have k0_1 : w3.cell? ⟨w.heap.size, 1, none⟩ = some (.pointer (some ⟨bY, 0, none⟩)) := by rw [cell_of_block k0]; rfl
  have r_0 : w3.cell? ⟨w.heap.size + 1, 0, none⟩ = some (.int .i64 0) := by rw [cell_of_block r]; rfl
  have r_1 : w3.cell? ⟨w.heap.size + 1, 1, none⟩ = some (.int .i64 0) := by rw [cell_of_block r]; rfl
  have r_2 : w3.cell? ⟨w.heap.size + 1, 2, none⟩ = some (.int .i64 0) := by rw [cell_of_block r]; rfl
  have r_f : ∀ i, w3.frozen? ⟨w.heap.size + 1, i, none⟩ = false := frozen_of_block r
  go_wp2_with fail
  refine (hD _).mono ?_
  rintro e w4 ⟨rfl, hb4⟩
  have hB4 : Below w3.heap.size w3 w4 := by (repeat (first | exact Below.refl _ _ | assumption | refine Below.drew ?_ | refine below_drewN ?_ _ | refine balloc ?_ _ | refine Below.setCell ?_ (by first | (simp; done) | (simp; omega) | omega) _ | refine bchain (by assumption) ?_))
  have k0 := bblock hB4 k0
  have r := bblock hB4 r
  have hw4 := bchain hB4 hw3
  have hz4 : w.heap.size + 1 < w4.heap.size := (Array.getElem?_eq_some_iff.1 r).1
  clear hB4
  clear k0_0 k0_1 r_0 r_1 r_2 r_f
  have k0_0 : w4.cell? ⟨w.heap.size, 0, none⟩ = some (.pointer (some ⟨bO, 0, none⟩)) := by rw [cell_of_block k0]; rfl
  have k0_1 : w4.cell? ⟨w.heap.size, 1, none⟩ = some (.pointer (some ⟨bY, 0, none⟩)) := by rw [cell_of_block k0]; rfl
  have r_0 : w4.cell? ⟨w.heap.size + 1, 0, none⟩ = some (.int .i64 0) := by rw [cell_of_block r]; rfl
  have r_1 : w4.cell? ⟨w.heap.size + 1, 1, none⟩ = some (.int .i64 0) := by rw [cell_of_block r]; rfl
  have r_2 : w4.cell? ⟨w.heap.size + 1, 2, none⟩ = some (.int .i64 0) := by rw [cell_of_block r]; rfl
  have r_f : ∀ i, w4.frozen? ⟨w.heap.size + 1, i, none⟩ = false := frozen_of_block r
  go_wp2_with fail
  refine (hI _).mono ?_
  rintro e w5 ⟨rfl, hb5⟩
  have hB5 : Below w4.heap.size w4 w5 := by (repeat (first | exact Below.refl _ _ | assumption | refine Below.drew ?_ | refine below_drewN ?_ _ | refine balloc ?_ _ | refine Below.setCell ?_ (by first | (simp; done) | (simp; omega) | omega) _ | refine bchain (by assumption) ?_))
  have k0 := bblock hB5 k0
  have r := bblock hB5 r
  have t : w5.heap[w4.heap.size]? = some (.cells #[.int .i64 kk, .int .i64 cc, .int .i64 ff] 46 (0, 0)) := bblock hb5 (by repeat (first | exact alloc_at _ (by simp) | refine alloc_lt _ ?_))
  have hw5 := bchain hB5 hw4
  have hz5 : w4.heap.size < w5.heap.size := (Array.getElem?_eq_some_iff.1 t).1
  clear hB5
  clear k0_0 k0_1 r_0 r_1 r_2 r_f
  have k0_0 : w5.cell? ⟨w.heap.size, 0, none⟩ = some (.pointer (some ⟨bO, 0, none⟩)) := by rw [cell_of_block k0]; rfl
  have k0_1 : w5.cell? ⟨w.heap.size, 1, none⟩ = some (.pointer (some ⟨bY, 0, none⟩)) := by rw [cell_of_block k0]; rfl
  have r_0 : w5.cell? ⟨w.heap.size + 1, 0, none⟩ = some (.int .i64 0) := by rw [cell_of_block r]; rfl
  have r_1 : w5.cell? ⟨w.heap.size + 1, 1, none⟩ = some (.int .i64 0) := by rw [cell_of_block r]; rfl
  have r_2 : w5.cell? ⟨w.heap.size + 1, 2, none⟩ = some (.int .i64 0) := by rw [cell_of_block r]; rfl
  have r_f : ∀ i, w5.frozen? ⟨w.heap.size + 1, i, none⟩ = false := frozen_of_block r
  have t_0 : w5.cell? ⟨w4.heap.size, 0, none⟩ = some (.int .i64 kk) := by rw [cell_of_block t]; rfl
  have t_1 : w5.cell? ⟨w4.heap.size, 1, none⟩ = some (.int .i64 cc) := by rw [cell_of_block t]; rfl
  have t_2 : w5.cell? ⟨w4.heap.size, 2, none⟩ = some (.int .i64 ff) := by rw [cell_of_block t]; rfl
  go_wp2_with fail
  refine (hW _).mono ?_
  rintro e w6 ⟨rfl, hb6⟩
  have hB6 : Below w5.heap.size w5 w6 := by (repeat (first | exact Below.refl _ _ | assumption | refine Below.drew ?_ | refine below_drewN ?_ _ | refine balloc ?_ _ | refine Below.setCell ?_ (by first | (simp; done) | (simp; omega) | omega) _ | refine bchain (by assumption) ?_))
  have k0 := bblock hB6 k0
  have r := bblock hB6 r
  have t := bblock hB6 t
  have hw6 := bchain hB6 hw5
  have hz6 : w4.heap.size < w6.heap.size := (Array.getElem?_eq_some_iff.1 t).1
  clear hB6
  clear k0_0 k0_1 r_0 r_1 r_2 r_f t_0 t_1 t_2
  have k0_0 : w6.cell? ⟨w.heap.size, 0, none⟩ = some (.pointer (some ⟨bO, 0, none⟩)) := by rw [cell_of_block k0]; rfl
  have k0_1 : w6.cell? ⟨w.heap.size, 1, none⟩ = some (.pointer (some ⟨bY, 0, none⟩)) := by rw [cell_of_block k0]; rfl
  have r_0 : w6.cell? ⟨w.heap.size + 1, 0, none⟩ = some (.int .i64 0) := by rw [cell_of_block r]; rfl
  have r_1 : w6.cell? ⟨w.heap.size + 1, 1, none⟩ = some (.int .i64 0) := by rw [cell_of_block r]; rfl
  have r_2 : w6.cell? ⟨w.heap.size + 1, 2, none⟩ = some (.int .i64 0) := by rw [cell_of_block r]; rfl
  have r_f : ∀ i, w6.frozen? ⟨w.heap.size + 1, i, none⟩ = false := frozen_of_block r
  have t_0 : w6.cell? ⟨w4.heap.size, 0, none⟩ = some (.int .i64 kk) := by rw [cell_of_block t]; rfl
  have t_1 : w6.cell? ⟨w4.heap.size, 1, none⟩ = some (.int .i64 cc) := by rw [cell_of_block t]; rfl
  have t_2 : w6.cell? ⟨w4.heap.size, 2, none⟩ = some (.int .i64 ff) := by rw [cell_of_block t]; rfl
  go_wp2_with fail
  refine (hC1 _ (by (repeat (first | exact Below.refl _ _ | assumption | refine Below.drew ?_ | refine below_drewN ?_ _ | refine balloc ?_ _ | refine Below.setCell ?_ (by first | (simp; done) | (simp; omega) | omega) _ | refine bchain (by assumption) ?_)))).mono ?_
  rintro e w7 ⟨rfl, hb7⟩
  have hB7 : Below w6.heap.size w6 w7 := by (repeat (first | exact Below.refl _ _ | assumption | refine Below.drew ?_ | refine below_drewN ?_ _ | refine balloc ?_ _ | refine Below.setCell ?_ (by first | (simp; done) | (simp; omega) | omega) _ | refine bchain (by assumption) ?_))
  have k0 := bblock hB7 k0
  have r := bblock hB7 r
  have t := bblock hB7 t
  have hw7 := bchain hB7 hw6
  have hz7 : w4.heap.size < w7.heap.size := (Array.getElem?_eq_some_iff.1 t).1
  clear hB7
  clear k0_0 k0_1 r_0 r_1 r_2 r_f t_0 t_1 t_2
  have k0_0 : w7.cell? ⟨w.heap.size, 0, none⟩ = some (.pointer (some ⟨bO, 0, none⟩)) := by rw [cell_of_block k0]; rfl
  have k0_1 : w7.cell? ⟨w.heap.size, 1, none⟩ = some (.pointer (some ⟨bY, 0, none⟩)) := by rw [cell_of_block k0]; rfl
  have r_0 : w7.cell? ⟨w.heap.size + 1, 0, none⟩ = some (.int .i64 0) := by rw [cell_of_block r]; rfl
  have r_1 : w7.cell? ⟨w.heap.size + 1, 1, none⟩ = some (.int .i64 0) := by rw [cell_of_block r]; rfl
  have r_2 : w7.cell? ⟨w.heap.size + 1, 2, none⟩ = some (.int .i64 0) := by rw [cell_of_block r]; rfl
  have r_f : ∀ i, w7.frozen? ⟨w.heap.size + 1, i, none⟩ = false := frozen_of_block r
  have t_0 : w7.cell? ⟨w4.heap.size, 0, none⟩ = some (.int .i64 kk) := by rw [cell_of_block t]; rfl
  have t_1 : w7.cell? ⟨w4.heap.size, 1, none⟩ = some (.int .i64 cc) := by rw [cell_of_block t]; rfl
  have t_2 : w7.cell? ⟨w4.heap.size, 2, none⟩ = some (.int .i64 ff) := by rw [cell_of_block t]; rfl
  go_wp2
  exact bodyPost_ret (v := .tuple #[.agg #[.int .i64 0, .int .i64 0, .int .i64 0], .int .i64 11]) (by simp [results, Try.results43, go_sem, k0_0, k0_1, r_0, r_1, r_2, r_f, t_0, t_1, t_2, hz7]) rfl ⟨rfl, by (repeat (first | exact Below.refl _ _ | assumption | refine Below.drew ?_ | refine below_drewN ?_ _ | refine balloc ?_ _ | refine Below.setCell ?_ (by first | (simp; done) | (simp; omega) | omega) _ | refine bchain (by assumption) ?_))⟩
set_option maxRecDepth 100000 in
set_option maxHeartbeats 1000000 in
theorem mhdr_E {w : World} {bO bY bp : Nat} {bs lm : Int} {ws : List Int} {g : Option Nat} {a : Int} (hP : ∀ W, Calls Try.prog 48 #[.agg #[.pointer (some ⟨bO, 0, none⟩), .pointer (some ⟨bY, 0, none⟩)], .int .i64 a] W fun e w' => e = .returned (.pointer (some ⟨bp, 0, none⟩)) ∧ Below W.heap.size W w') (hs : ∀ W, Below w.heap.size w W → SpAt W bp bs lm ws g) (hk : SpOk bs lm ws) (h : inB bs ws.length a = true) (h2 : inB bs ws.length (a + 1) = true) (hd : decB (ldW bs ws a) = true) (hi : didB (ldW bs ws (a + 1)) = true) (hc : inB bs ws.length (a + wordsI (decF (ldW bs ws a)) - 1) = true) :
    Calls Try.prog 43 #[.agg #[.pointer (some ⟨bO, 0, none⟩), .pointer (some ⟨bY, 0, none⟩)], .int .i64 a] w fun e w' => e = .returned (.tuple #[.agg #[.int .i64 (decK (ldW bs ws a)), .int .i64 (decC (ldW bs ws a)), .int .i64 (decF (ldW bs ws a))], .int .i64 0]) ∧ Below w.heap.size w w' := by
  have b0 := hk.b0
  have b1 := hk.top
  have b2 := hk.lm1
  have hL := fun W (h : Below w.heap.size w W) (c : Int) => load_any (hs W h) hk c
  have hC := fun W (h : Below w.heap.size w W) (c : Int) => contains_any (hs W h) hk c
  obtain ⟨a0, a1⟩ := inB_iff.1 h
  have e1 : ioE bs ws a = 0 := by unfold ioE; rw [h]; rfl
  have hL1 := fun W h => hL W h a
  rw [e1] at hL1
  have hL2 := fun W h => hL W h (a + 1)
  have e2 : ioE bs ws (a + 1) = 0 := by unfold ioE; rw [h2]; rfl
  rw [e2] at hL2
  have hx := ldU hk a
  have hy := ldU hk (a + 1)
  generalize ldW bs ws a = x at *
  generalize ldW bs ws (a + 1) = y at *
  have hD := fun W => decode_yes x hx hd W
  have hI := fun W => decodeID_yes y hy hi W
  have hW := fun W => words_yes (decK x) (decC x) (decF x) (decB_iff.1 hd).1 W
  have hC1 := fun W h => hC W h (a + wordsI (decF x) - 1)
  rw [hc] at hC1
  have d5 := idB_iff.1 (show idB (didM y) (didS y) = true from hi)
  obtain ⟨y0, y1, y2⟩ := wordsI_bd (decB_iff.1 hd).1
  generalize didM y = ym at *
  generalize didS y = ys at *
  generalize decK x = kk at *
  generalize decC x = cc at *
  generalize decF x = ff at *
  generalize wordsI ff = sz at *
  clear h h2 e1 e2 hL hC hx hy hd hi hc
  generalize hn : ws.length = n at *
  have HN := Lib.hid hn
  clear hs hk hn
  have hw0 : Below w.heap.size w w := Below.refl _ _
  go_enter Try.func43, Try.ntmps43
  go_wp2_with fail
  refine (hP _).mono ?_
  rintro e w1 ⟨rfl, hb1⟩
  have hB1 : Below w.heap.size w w1 := by (repeat (first | exact Below.refl _ _ | assumption | refine Below.drew ?_ | refine below_drewN ?_ _ | refine balloc ?_ _ | refine Below.setCell ?_ (by first | (simp; done) | (simp; omega) | omega) _ | refine bchain (by assumption) ?_))
  have k0 : w1.heap[w.heap.size]? = some (.cells #[.pointer (some ⟨bO, 0, none⟩), .pointer (some ⟨bY, 0, none⟩)] 26 (0, 0)) := bblock hb1 (by repeat (first | exact alloc_at _ (by simp) | refine alloc_lt _ ?_))
  have r : w1.heap[w.heap.size + 1]? = some (.cells #[.int .i64 0, .int .i64 0, .int .i64 0] 46 (0, 0)) := bblock hb1 (by repeat (first | exact alloc_at _ (by simp) | refine alloc_lt _ ?_))
  have hw1 := bchain hB1 hw0
  have hz1 : w.heap.size + 1 < w1.heap.size := (Array.getElem?_eq_some_iff.1 r).1
  clear hB1
  have k0_0 : w1.cell? ⟨w.heap.size, 0, none⟩ = some (.pointer (some ⟨bO, 0, none⟩)) := by rw [cell_of_block k0]; rfl
  have k0_1 : w1.cell? ⟨w.heap.size, 1, none⟩ = some (.pointer (some ⟨bY, 0, none⟩)) := by rw [cell_of_block k0]; rfl
  have r_0 : w1.cell? ⟨w.heap.size + 1, 0, none⟩ = some (.int .i64 0) := by rw [cell_of_block r]; rfl
  have r_1 : w1.cell? ⟨w.heap.size + 1, 1, none⟩ = some (.int .i64 0) := by rw [cell_of_block r]; rfl
  have r_2 : w1.cell? ⟨w.heap.size + 1, 2, none⟩ = some (.int .i64 0) := by rw [cell_of_block r]; rfl
  have r_f : ∀ i, w1.frozen? ⟨w.heap.size + 1, i, none⟩ = false := frozen_of_block r
  go_wp2_with fail
  refine (hL1 _ (by (repeat (first | exact Below.refl _ _ | assumption | refine Below.drew ?_ | refine below_drewN ?_ _ | refine balloc ?_ _ | refine Below.setCell ?_ (by first | (simp; done) | (simp; omega) | omega) _ | refine bchain (by assumption) ?_)))).mono ?_
  rintro e w2 ⟨rfl, hb2⟩
  have hB2 : Below w1.heap.size w1 w2 := by (repeat (first | exact Below.refl _ _ | assumption | refine Below.drew ?_ | refine below_drewN ?_ _ | refine balloc ?_ _ | refine Below.setCell ?_ (by first | (simp; done) | (simp; omega) | omega) _ | refine bchain (by assumption) ?_))
  have k0 := bblock hB2 k0
  have r := bblock hB2 r
  have hw2 := bchain hB2 hw1
  have hz2 : w.heap.size + 1 < w2.heap.size := (Array.getElem?_eq_some_iff.1 r).1
  clear hB2
  clear k0_0 k0_1 r_0 r_1 r_2 r_f
  have k0_0 : w2.cell? ⟨w.heap.size, 0, none⟩ = some (.pointer (some ⟨bO, 0, none⟩)) := by rw [cell_of_block k0]; rfl
  have k0_1 : w2.cell? ⟨w.heap.size, 1, none⟩ = some (.pointer (some ⟨bY, 0, none⟩)) := by rw [cell_of_block k0]; rfl
  have r_0 : w2.cell? ⟨w.heap.size + 1, 0, none⟩ = some (.int .i64 0) := by rw [cell_of_block r]; rfl
  have r_1 : w2.cell? ⟨w.heap.size + 1, 1, none⟩ = some (.int .i64 0) := by rw [cell_of_block r]; rfl
  have r_2 : w2.cell? ⟨w.heap.size + 1, 2, none⟩ = some (.int .i64 0) := by rw [cell_of_block r]; rfl
  have r_f : ∀ i, w2.frozen? ⟨w.heap.size + 1, i, none⟩ = false := frozen_of_block r
  go_wp2_with fail
  refine (hL2 _ (by (repeat (first | exact Below.refl _ _ | assumption | refine Below.drew ?_ | refine below_drewN ?_ _ | refine balloc ?_ _ | refine Below.setCell ?_ (by first | (simp; done) | (simp; omega) | omega) _ | refine bchain (by assumption) ?_)))).mono ?_
  rintro e w3 ⟨rfl, hb3⟩
  have hB3 : Below w2.heap.size w2 w3 := by (repeat (first | exact Below.refl _ _ | assumption | refine Below.drew ?_ | refine below_drewN ?_ _ | refine balloc ?_ _ | refine Below.setCell ?_ (by first | (simp; done) | (simp; omega) | omega) _ | refine bchain (by assumption) ?_))
  have k0 := bblock hB3 k0
  have r := bblock hB3 r
  have hw3 := bchain hB3 hw2
  have hz3 : w.heap.size + 1 < w3.heap.size := (Array.getElem?_eq_some_iff.1 r).1
  clear hB3
  clear k0_0 k0_1 r_0 r_1 r_2 r_f
  have k0_0 : w3.cell? ⟨w.heap.size, 0, none⟩ = some (.pointer (some ⟨bO, 0, none⟩)) := by rw [cell_of_block k0]; rfl
  have k0_1 : w3.cell? ⟨w.heap.size, 1, none⟩ = some (.pointer (some ⟨bY, 0, none⟩)) := by rw [cell_of_block k0]; rfl
  have r_0 : w3.cell? ⟨w.heap.size + 1, 0, none⟩ = some (.int .i64 0) := by rw [cell_of_block r]; rfl
  have r_1 : w3.cell? ⟨w.heap.size + 1, 1, none⟩ = some (.int .i64 0) := by rw [cell_of_block r]; rfl
  have r_2 : w3.cell? ⟨w.heap.size + 1, 2, none⟩ = some (.int .i64 0) := by rw [cell_of_block r]; rfl
  have r_f : ∀ i, w3.frozen? ⟨w.heap.size + 1, i, none⟩ = false := frozen_of_block r
  go_wp2_with fail
  refine (hD _).mono ?_
  rintro e w4 ⟨rfl, hb4⟩
  have hB4 : Below w3.heap.size w3 w4 := by (repeat (first | exact Below.refl _ _ | assumption | refine Below.drew ?_ | refine below_drewN ?_ _ | refine balloc ?_ _ | refine Below.setCell ?_ (by first | (simp; done) | (simp; omega) | omega) _ | refine bchain (by assumption) ?_))
  have k0 := bblock hB4 k0
  have r := bblock hB4 r
  have hw4 := bchain hB4 hw3
  have hz4 : w.heap.size + 1 < w4.heap.size := (Array.getElem?_eq_some_iff.1 r).1
  clear hB4
  clear k0_0 k0_1 r_0 r_1 r_2 r_f
  have k0_0 : w4.cell? ⟨w.heap.size, 0, none⟩ = some (.pointer (some ⟨bO, 0, none⟩)) := by rw [cell_of_block k0]; rfl
  have k0_1 : w4.cell? ⟨w.heap.size, 1, none⟩ = some (.pointer (some ⟨bY, 0, none⟩)) := by rw [cell_of_block k0]; rfl
  have r_0 : w4.cell? ⟨w.heap.size + 1, 0, none⟩ = some (.int .i64 0) := by rw [cell_of_block r]; rfl
  have r_1 : w4.cell? ⟨w.heap.size + 1, 1, none⟩ = some (.int .i64 0) := by rw [cell_of_block r]; rfl
  have r_2 : w4.cell? ⟨w.heap.size + 1, 2, none⟩ = some (.int .i64 0) := by rw [cell_of_block r]; rfl
  have r_f : ∀ i, w4.frozen? ⟨w.heap.size + 1, i, none⟩ = false := frozen_of_block r
  go_wp2_with fail
  refine (hI _).mono ?_
  rintro e w5 ⟨rfl, hb5⟩
  have hB5 : Below w4.heap.size w4 w5 := by (repeat (first | exact Below.refl _ _ | assumption | refine Below.drew ?_ | refine below_drewN ?_ _ | refine balloc ?_ _ | refine Below.setCell ?_ (by first | (simp; done) | (simp; omega) | omega) _ | refine bchain (by assumption) ?_))
  have k0 := bblock hB5 k0
  have r := bblock hB5 r
  have t : w5.heap[w4.heap.size]? = some (.cells #[.int .i64 kk, .int .i64 cc, .int .i64 ff] 46 (0, 0)) := bblock hb5 (by repeat (first | exact alloc_at _ (by simp) | refine alloc_lt _ ?_))
  have hw5 := bchain hB5 hw4
  have hz5 : w4.heap.size < w5.heap.size := (Array.getElem?_eq_some_iff.1 t).1
  clear hB5
  clear k0_0 k0_1 r_0 r_1 r_2 r_f
  have k0_0 : w5.cell? ⟨w.heap.size, 0, none⟩ = some (.pointer (some ⟨bO, 0, none⟩)) := by rw [cell_of_block k0]; rfl
  have k0_1 : w5.cell? ⟨w.heap.size, 1, none⟩ = some (.pointer (some ⟨bY, 0, none⟩)) := by rw [cell_of_block k0]; rfl
  have r_0 : w5.cell? ⟨w.heap.size + 1, 0, none⟩ = some (.int .i64 0) := by rw [cell_of_block r]; rfl
  have r_1 : w5.cell? ⟨w.heap.size + 1, 1, none⟩ = some (.int .i64 0) := by rw [cell_of_block r]; rfl
  have r_2 : w5.cell? ⟨w.heap.size + 1, 2, none⟩ = some (.int .i64 0) := by rw [cell_of_block r]; rfl
  have r_f : ∀ i, w5.frozen? ⟨w.heap.size + 1, i, none⟩ = false := frozen_of_block r
  have t_0 : w5.cell? ⟨w4.heap.size, 0, none⟩ = some (.int .i64 kk) := by rw [cell_of_block t]; rfl
  have t_1 : w5.cell? ⟨w4.heap.size, 1, none⟩ = some (.int .i64 cc) := by rw [cell_of_block t]; rfl
  have t_2 : w5.cell? ⟨w4.heap.size, 2, none⟩ = some (.int .i64 ff) := by rw [cell_of_block t]; rfl
  go_wp2_with fail
  refine (hW _).mono ?_
  rintro e w6 ⟨rfl, hb6⟩
  have hB6 : Below w5.heap.size w5 w6 := by (repeat (first | exact Below.refl _ _ | assumption | refine Below.drew ?_ | refine below_drewN ?_ _ | refine balloc ?_ _ | refine Below.setCell ?_ (by first | (simp; done) | (simp; omega) | omega) _ | refine bchain (by assumption) ?_))
  have k0 := bblock hB6 k0
  have r := bblock hB6 r
  have t := bblock hB6 t
  have hw6 := bchain hB6 hw5
  have hz6 : w4.heap.size < w6.heap.size := (Array.getElem?_eq_some_iff.1 t).1
  clear hB6
  clear k0_0 k0_1 r_0 r_1 r_2 r_f t_0 t_1 t_2
  have k0_0 : w6.cell? ⟨w.heap.size, 0, none⟩ = some (.pointer (some ⟨bO, 0, none⟩)) := by rw [cell_of_block k0]; rfl
  have k0_1 : w6.cell? ⟨w.heap.size, 1, none⟩ = some (.pointer (some ⟨bY, 0, none⟩)) := by rw [cell_of_block k0]; rfl
  have r_0 : w6.cell? ⟨w.heap.size + 1, 0, none⟩ = some (.int .i64 0) := by rw [cell_of_block r]; rfl
  have r_1 : w6.cell? ⟨w.heap.size + 1, 1, none⟩ = some (.int .i64 0) := by rw [cell_of_block r]; rfl
  have r_2 : w6.cell? ⟨w.heap.size + 1, 2, none⟩ = some (.int .i64 0) := by rw [cell_of_block r]; rfl
  have r_f : ∀ i, w6.frozen? ⟨w.heap.size + 1, i, none⟩ = false := frozen_of_block r
  have t_0 : w6.cell? ⟨w4.heap.size, 0, none⟩ = some (.int .i64 kk) := by rw [cell_of_block t]; rfl
  have t_1 : w6.cell? ⟨w4.heap.size, 1, none⟩ = some (.int .i64 cc) := by rw [cell_of_block t]; rfl
  have t_2 : w6.cell? ⟨w4.heap.size, 2, none⟩ = some (.int .i64 ff) := by rw [cell_of_block t]; rfl
  go_wp2_with fail
  refine (hC1 _ (by (repeat (first | exact Below.refl _ _ | assumption | refine Below.drew ?_ | refine below_drewN ?_ _ | refine balloc ?_ _ | refine Below.setCell ?_ (by first | (simp; done) | (simp; omega) | omega) _ | refine bchain (by assumption) ?_)))).mono ?_
  rintro e w7 ⟨rfl, hb7⟩
  have hB7 : Below w6.heap.size w6 w7 := by (repeat (first | exact Below.refl _ _ | assumption | refine Below.drew ?_ | refine below_drewN ?_ _ | refine balloc ?_ _ | refine Below.setCell ?_ (by first | (simp; done) | (simp; omega) | omega) _ | refine bchain (by assumption) ?_))
  have k0 := bblock hB7 k0
  have r := bblock hB7 r
  have t := bblock hB7 t
  have hw7 := bchain hB7 hw6
  have hz7 : w4.heap.size < w7.heap.size := (Array.getElem?_eq_some_iff.1 t).1
  clear hB7
  clear k0_0 k0_1 r_0 r_1 r_2 r_f t_0 t_1 t_2
  have k0_0 : w7.cell? ⟨w.heap.size, 0, none⟩ = some (.pointer (some ⟨bO, 0, none⟩)) := by rw [cell_of_block k0]; rfl
  have k0_1 : w7.cell? ⟨w.heap.size, 1, none⟩ = some (.pointer (some ⟨bY, 0, none⟩)) := by rw [cell_of_block k0]; rfl
  have r_0 : w7.cell? ⟨w.heap.size + 1, 0, none⟩ = some (.int .i64 0) := by rw [cell_of_block r]; rfl
  have r_1 : w7.cell? ⟨w.heap.size + 1, 1, none⟩ = some (.int .i64 0) := by rw [cell_of_block r]; rfl
  have r_2 : w7.cell? ⟨w.heap.size + 1, 2, none⟩ = some (.int .i64 0) := by rw [cell_of_block r]; rfl
  have r_f : ∀ i, w7.frozen? ⟨w.heap.size + 1, i, none⟩ = false := frozen_of_block r
  have t_0 : w7.cell? ⟨w4.heap.size, 0, none⟩ = some (.int .i64 kk) := by rw [cell_of_block t]; rfl
  have t_1 : w7.cell? ⟨w4.heap.size, 1, none⟩ = some (.int .i64 cc) := by rw [cell_of_block t]; rfl
  have t_2 : w7.cell? ⟨w4.heap.size, 2, none⟩ = some (.int .i64 ff) := by rw [cell_of_block t]; rfl
  go_wp2
  exact bodyPost_ret (v := .tuple #[.agg #[.int .i64 kk, .int .i64 cc, .int .i64 ff], .int .i64 0]) (by simp [results, Try.results43, go_sem, k0_0, k0_1, r_0, r_1, r_2, r_f, t_0, t_1, t_2, hz7]) rfl ⟨rfl, by (repeat (first | exact Below.refl _ _ | assumption | refine Below.drew ?_ | refine below_drewN ?_ _ | refine balloc ?_ _ | refine Below.setCell ?_ (by first | (simp; done) | (simp; omega) | omega) _ | refine bchain (by assumption) ?_))⟩
end Go.Proofs.Ytgjaafcagnkfdaa
namespace Go.Proofs.Ytgjaafcagnkfdaa
open Go.RowKit
set_option linter.unusedSimpArgs false
set_option linter.unusedVariables false

def HE (wo wy : List Int) (a : Int) : Int := hdE (bsA a) (wsA wo wy a) a
def HK (wo wy : List Int) (a : Int) : Int := hdK (bsA a) (wsA wo wy a) a
def HC (wo wy : List Int) (a : Int) : Int := hdC (bsA a) (wsA wo wy a) a
def HF (wo wy : List Int) (a : Int) : Int := hdF (bsA a) (wsA wo wy a) a
theorem ld_in {bs : Int} {ws : List Int} {a : Int} (h : inB bs ws.length a = true) : ldW bs ws a = ws.getD (a - bs).toNat 0 := by unfold ldW; rw [h]; rfl
theorem obB_of {bs : Int} {ws : List Int} {a : Int} (h : inB bs ws.length a = true) : obB ws (a - bs).toNat = (inB bs ws.length (a + 1) && decB (ldW bs ws a) && didB (ldW bs ws (a + 1)) && inB bs ws.length (a + wordsI (decF (ldW bs ws a)) - 1)) := by
  obtain ⟨h0, h1⟩ := inB_iff.1 h
  rw [ld_in h]
  have e : (a + 1 - bs).toNat = (a - bs).toNat + 1 := by omega
  cases h2 : inB bs ws.length (a + 1)
  · have : obB ws (a - bs).toNat = false := by
      rw [Bool.eq_false_iff]
      intro hh
      have := (obB_iff.1 hh).1
      have h2' := inB_iff (bs := bs) (n := ws.length) (a := a + 1)
      rw [h2] at h2'
      have := h2'.2 ⟨by omega, by omega⟩
      cases this
    rw [this]
    simp
  · rw [ld_in h2, e]
    obtain ⟨h3, h4⟩ := inB_iff.1 h2
    generalize hx : ws.getD (a - bs).toNat 0 = x
    generalize hy : ws.getD ((a - bs).toNat + 1) 0 = y
    rw [Bool.eq_iff_iff, obB_iff, hx, hy]
    simp only [Bool.and_eq_true]
    constructor
    · rintro ⟨k0, k1, k2, k3⟩
      have := wordsI_bd (decB_iff.1 k1).1
      exact ⟨⟨⟨trivial, k1⟩, k2⟩, inB_iff.2 ⟨by omega, by omega⟩⟩
    · rintro ⟨⟨⟨_, k1⟩, k2⟩, k3⟩
      have := wordsI_bd (decB_iff.1 k1).1
      obtain ⟨k4, k5⟩ := inB_iff.1 k3
      exact ⟨by omega, k1, k2, by omega⟩
theorem mhdr_any {w : World} {bO bY : Nat} {lo ly : Int} {wo wy : List Int} {gO gY : Option Nat} (hm : MemAt w bO bY lo ly wo wy gO gY) (a : Int) : Calls Try.prog 43 #[.agg #[.pointer (some ⟨bO, 0, none⟩), .pointer (some ⟨bY, 0, none⟩)], .int .i64 a] w fun e w' => e = .returned (.tuple #[.agg #[.int .i64 (HK wo wy a), .int .i64 (HC wo wy a), .int .i64 (HF wo wy a)], .int .i64 (HE wo wy a)]) ∧ Below w.heap.size w w' := by
  have hs := fun W (h : Below w.heap.size w W) => (hm.below h).part a
  have hk := hm.partOk a
  have hP := fun W => part_any bO bY a W
  unfold HE HK HC HF
  generalize bpA bO bY a = bp at *
  generalize bsA a = bs at *
  generalize wsA wo wy a = ws at *
  generalize lmA lo ly a = lm at *
  generalize gpA gO gY a = g at *
  clear hm
  cases h : inB bs ws.length a
  · obtain ⟨e1, e2, e3, e4⟩ := hd_out h
    rw [e1, e2, e3, e4]
    exact mhdr_out hP hs hk h
  · have hob := obB_of h
    cases h2 : inB bs ws.length (a + 1)
    · rw [h2] at hob
      obtain ⟨e1, e2, e3, e4⟩ := hd_bad h (by rw [hob]; rfl)
      rw [e1, e2, e3, e4]
      exact mhdr_A hP hs hk h h2
    · cases hd : decB (ldW bs ws a)
      · rw [h2, hd] at hob
        obtain ⟨e1, e2, e3, e4⟩ := hd_bad h (by rw [hob]; rfl)
        rw [e1, e2, e3, e4]
        exact mhdr_B hP hs hk h h2 hd
      · cases hi : didB (ldW bs ws (a + 1))
        · rw [h2, hd, hi] at hob
          obtain ⟨e1, e2, e3, e4⟩ := hd_bad h (by rw [hob]; rfl)
          rw [e1, e2, e3, e4]
          exact mhdr_C hP hs hk h h2 hd hi
        · cases hc : inB bs ws.length (a + wordsI (decF (ldW bs ws a)) - 1)
          · rw [h2, hd, hi, hc] at hob
            obtain ⟨e1, e2, e3, e4⟩ := hd_bad h (by rw [hob]; rfl)
            rw [e1, e2, e3, e4]
            exact mhdr_D hP hs hk h h2 hd hi hc
          · rw [h2, hd, hi, hc] at hob
            obtain ⟨e1, e2, e3, e4⟩ := hd_ok h (by rw [hob]; rfl)
            rw [e1, e2, e3, e4, ← ld_in h]
            exact mhdr_E hP hs hk h h2 hd hi hc
/-- What a header that is there says. -/
theorem hd_bd {bs : Int} {ws : List Int} {a : Int} (h : hdE bs ws a = 0) : inB bs ws.length a = true ∧ obB ws (a - bs).toNat = true ∧ hvB (hdK bs ws a) (hdC bs ws a) (hdF bs ws a) = true ∧ a + wordsI (hdF bs ws a) ≤ bs + ws.length := by
  cases h1 : inB bs ws.length a
  · rw [(hd_out h1).1] at h; cases h
  · cases h2 : obB ws (a - bs).toNat
    · rw [(hd_bad h1 h2).1] at h; cases h
    · obtain ⟨e1, e2, e3, e4⟩ := hd_ok h1 h2
      obtain ⟨k0, k1, k2, k3⟩ := obB_iff.1 h2
      obtain ⟨h3, h4⟩ := inB_iff.1 h1
      have hv := (decB_iff.1 k1).1
      have := wordsI_bd hv
      rw [e2, e3, e4]
      exact ⟨rfl, rfl, hv, by omega⟩
theorem HE_cases (wo wy : List Int) (a : Int) : HE wo wy a = 0 ∨ HE wo wy a = 2 ∨ HE wo wy a = 11 := by
  unfold HE hdE
  split
  · split
    · exact .inl rfl
    · exact .inr (.inr rfl)
  · exact .inr (.inl rfl)
theorem HE_bd {wo wy : List Int} {a : Int} (h : HE wo wy a = 0) : (0 ≤ HK wo wy a ∧ HK wo wy a ≤ 4) ∧ 0 ≤ HF wo wy a ∧ HF wo wy a ≤ 30 ∧ bsA a ≤ a ∧ a + wordsI (HF wo wy a) ≤ bsA a + (wsA wo wy a).length := by
  obtain ⟨h1, h2, h3, h4⟩ := hd_bd h
  obtain ⟨h5, h6⟩ := inB_iff.1 h1
  have := hvB_iff.1 h3
  exact ⟨this.1, this.2.1.2.2.1, this.2.1.2.2.2, h5, h4⟩
def OM (wo wy : List Int) (a : Int) : Int := if HE wo wy a = 0 then iM (LD wo wy (a + 1)) else 0
def OS (wo wy : List Int) (a : Int) : Int := if HE wo wy a = 0 then iS (LD wo wy (a + 1)) else 0
set_option maxRecDepth 100000 in
set_option maxHeartbeats 1000000 in
theorem mid_no {w : World} {bO bY : Nat} {lo ly : Int} {wo wy : List Int} {gO gY : Option Nat} (hm : MemAt w bO bY lo ly wo wy gO gY) (a : Int) (he : HE wo wy a ≠ 0) :
    Calls Try.prog 44 #[.agg #[.pointer (some ⟨bO, 0, none⟩), .pointer (some ⟨bY, 0, none⟩)], .int .i64 a] w fun e w' => e = .returned (.tuple #[.agg #[.int .i64 0, .int .i64 0], .int .i64 (HE wo wy a)]) ∧ Below w.heap.size w w' := by
  have hH := mhdr_any (hm.below (balloc (balloc (Below.refl _ w) (.cells #[.pointer (some ⟨bO, 0, none⟩), .pointer (some ⟨bY, 0, none⟩)] 26)) (.cells #[.int .i64 0, .int .i64 0] 48))) a
  have hec := HE_cases wo wy a
  generalize HK wo wy a = hk at *
  generalize HC wo wy a = hc at *
  generalize HF wo wy a = hf at *
  generalize HE wo wy a = er at *
  have hb1 : (er != 0) = true := by simpa using he
  clear hm he
  have hw0 : Below w.heap.size w w := Below.refl _ _
  go_enter Try.func44, Try.ntmps44
  go_wp2_with fail
  refine (hH).mono ?_
  rintro e w1 ⟨rfl, hb1⟩
  have hB1 : Below w.heap.size w w1 := by (repeat (first | exact Below.refl _ _ | assumption | refine Below.drew ?_ | refine below_drewN ?_ _ | refine balloc ?_ _ | refine Below.setCell ?_ (by first | (simp; done) | (simp; omega) | omega) _ | refine bchain (by assumption) ?_))
  have k0 : w1.heap[w.heap.size]? = some (.cells #[.pointer (some ⟨bO, 0, none⟩), .pointer (some ⟨bY, 0, none⟩)] 26 (0, 0)) := bblock hb1 (by repeat (first | exact alloc_at _ (by simp) | refine alloc_lt _ ?_))
  have r : w1.heap[w.heap.size + 1]? = some (.cells #[.int .i64 0, .int .i64 0] 48 (0, 0)) := bblock hb1 (by repeat (first | exact alloc_at _ (by simp) | refine alloc_lt _ ?_))
  have hw1 := bchain hB1 hw0
  have hz_k0 : w.heap.size < w1.heap.size := (Array.getElem?_eq_some_iff.1 k0).1
  have hz_r : w.heap.size + 1 < w1.heap.size := (Array.getElem?_eq_some_iff.1 r).1
  clear hB1
  have k0_0 : w1.cell? ⟨w.heap.size, 0, none⟩ = some (.pointer (some ⟨bO, 0, none⟩)) := by rw [cell_of_block k0]; rfl
  have k0_1 : w1.cell? ⟨w.heap.size, 1, none⟩ = some (.pointer (some ⟨bY, 0, none⟩)) := by rw [cell_of_block k0]; rfl
  have r_0 : w1.cell? ⟨w.heap.size + 1, 0, none⟩ = some (.int .i64 0) := by rw [cell_of_block r]; rfl
  have r_1 : w1.cell? ⟨w.heap.size + 1, 1, none⟩ = some (.int .i64 0) := by rw [cell_of_block r]; rfl
  have r_f : ∀ i, w1.frozen? ⟨w.heap.size + 1, i, none⟩ = false := frozen_of_block r
  go_wp2
  exact bodyPost_ret (v := .tuple #[.agg #[.int .i64 0, .int .i64 0], .int .i64 er]) (by simp [results, Try.results44, go_sem, k0_0, k0_1, r_0, r_1, r_f, hz_k0, hz_r]) rfl ⟨rfl, by (repeat (first | exact Below.refl _ _ | assumption | refine Below.drew ?_ | refine below_drewN ?_ _ | refine balloc ?_ _ | refine Below.setCell ?_ (by first | (simp; done) | (simp; omega) | omega) _ | refine bchain (by assumption) ?_))⟩
set_option maxRecDepth 100000 in
set_option maxHeartbeats 1000000 in
theorem mid_yes {w : World} {bO bY : Nat} {lo ly : Int} {wo wy : List Int} {gO gY : Option Nat} (hm : MemAt w bO bY lo ly wo wy gO gY) (a : Int) (he : HE wo wy a = 0) :
    Calls Try.prog 44 #[.agg #[.pointer (some ⟨bO, 0, none⟩), .pointer (some ⟨bY, 0, none⟩)], .int .i64 a] w fun e w' => e = .returned (.tuple #[.agg #[.int .i64 (iM (LD wo wy (a + 1))), .int .i64 (iS (LD wo wy (a + 1)))], .int .i64 0]) ∧ Below w.heap.size w w' := by
  have hH := fun W (h : Below w.heap.size w W) => mhdr_any (hm.below h) a
  have hL := fun W (h : Below w.heap.size w W) => mload_any (hm.below h) (a + 1)
  have hx := hm.ldU (a + 1)
  have hbd := HE_bd he
  have hk1 := (hm.partOk a).b0
  have hk2 := (hm.partOk a).top
  have hk3 := (hm.partOk a).lm1
  have hx0 : 0 ≤ wordsI (HF wo wy a) := by unfold wordsI; split <;> omega
  have ha : 0 ≤ a ∧ a ≤ 1099511627776 := by omega
  rw [he] at hH
  generalize HK wo wy a = hk at *
  generalize HC wo wy a = hc at *
  generalize HF wo wy a = hf at *
  generalize LD wo wy (a + 1) = x at *
  generalize LE wo wy (a + 1) = y at *
  have hI := fun W => decodeID_any x hx W
  generalize iM x = im at *
  generalize iS x = is at *
  clear hm he hx hbd hk1 hk2 hk3 hx0
  have hw0 : Below w.heap.size w w := Below.refl _ _
  go_enter Try.func44, Try.ntmps44
  go_wp2_with fail
  refine (hH _ (by (repeat (first | exact Below.refl _ _ | assumption | refine Below.drew ?_ | refine below_drewN ?_ _ | refine balloc ?_ _ | refine Below.setCell ?_ (by first | (simp; done) | (simp; omega) | omega) _ | refine bchain (by assumption) ?_)))).mono ?_
  rintro e w1 ⟨rfl, hb1⟩
  have hB1 : Below w.heap.size w w1 := by (repeat (first | exact Below.refl _ _ | assumption | refine Below.drew ?_ | refine below_drewN ?_ _ | refine balloc ?_ _ | refine Below.setCell ?_ (by first | (simp; done) | (simp; omega) | omega) _ | refine bchain (by assumption) ?_))
  have k0 : w1.heap[w.heap.size]? = some (.cells #[.pointer (some ⟨bO, 0, none⟩), .pointer (some ⟨bY, 0, none⟩)] 26 (0, 0)) := bblock hb1 (by repeat (first | exact alloc_at _ (by simp) | refine alloc_lt _ ?_))
  have r : w1.heap[w.heap.size + 1]? = some (.cells #[.int .i64 0, .int .i64 0] 48 (0, 0)) := bblock hb1 (by repeat (first | exact alloc_at _ (by simp) | refine alloc_lt _ ?_))
  have hw1 := bchain hB1 hw0
  have hz_k0 : w.heap.size < w1.heap.size := (Array.getElem?_eq_some_iff.1 k0).1
  have hz_r : w.heap.size + 1 < w1.heap.size := (Array.getElem?_eq_some_iff.1 r).1
  clear hB1
  have k0_0 : w1.cell? ⟨w.heap.size, 0, none⟩ = some (.pointer (some ⟨bO, 0, none⟩)) := by rw [cell_of_block k0]; rfl
  have k0_1 : w1.cell? ⟨w.heap.size, 1, none⟩ = some (.pointer (some ⟨bY, 0, none⟩)) := by rw [cell_of_block k0]; rfl
  have r_0 : w1.cell? ⟨w.heap.size + 1, 0, none⟩ = some (.int .i64 0) := by rw [cell_of_block r]; rfl
  have r_1 : w1.cell? ⟨w.heap.size + 1, 1, none⟩ = some (.int .i64 0) := by rw [cell_of_block r]; rfl
  have r_f : ∀ i, w1.frozen? ⟨w.heap.size + 1, i, none⟩ = false := frozen_of_block r
  go_wp2_with fail
  refine (hL _ (by (repeat (first | exact Below.refl _ _ | assumption | refine Below.drew ?_ | refine below_drewN ?_ _ | refine balloc ?_ _ | refine Below.setCell ?_ (by first | (simp; done) | (simp; omega) | omega) _ | refine bchain (by assumption) ?_)))).mono ?_
  rintro e w2 ⟨rfl, hb2⟩
  have hB2 : Below w1.heap.size w1 w2 := by (repeat (first | exact Below.refl _ _ | assumption | refine Below.drew ?_ | refine below_drewN ?_ _ | refine balloc ?_ _ | refine Below.setCell ?_ (by first | (simp; done) | (simp; omega) | omega) _ | refine bchain (by assumption) ?_))
  have k0 := bblock hB2 k0
  have r := bblock hB2 r
  have t : w2.heap[w1.heap.size]? = some (.cells #[.int .i64 hk, .int .i64 hc, .int .i64 hf] 46 (0, 0)) := bblock hb2 (by repeat (first | exact alloc_at _ (by simp) | refine alloc_lt _ ?_))
  have hw2 := bchain hB2 hw1
  clear hz_k0 hz_r
  have hz_k0 : w.heap.size < w2.heap.size := (Array.getElem?_eq_some_iff.1 k0).1
  have hz_r : w.heap.size + 1 < w2.heap.size := (Array.getElem?_eq_some_iff.1 r).1
  have hz_t : w1.heap.size < w2.heap.size := (Array.getElem?_eq_some_iff.1 t).1
  clear hB2
  clear k0_0 k0_1 r_0 r_1 r_f
  have k0_0 : w2.cell? ⟨w.heap.size, 0, none⟩ = some (.pointer (some ⟨bO, 0, none⟩)) := by rw [cell_of_block k0]; rfl
  have k0_1 : w2.cell? ⟨w.heap.size, 1, none⟩ = some (.pointer (some ⟨bY, 0, none⟩)) := by rw [cell_of_block k0]; rfl
  have r_0 : w2.cell? ⟨w.heap.size + 1, 0, none⟩ = some (.int .i64 0) := by rw [cell_of_block r]; rfl
  have r_1 : w2.cell? ⟨w.heap.size + 1, 1, none⟩ = some (.int .i64 0) := by rw [cell_of_block r]; rfl
  have r_f : ∀ i, w2.frozen? ⟨w.heap.size + 1, i, none⟩ = false := frozen_of_block r
  have t_0 : w2.cell? ⟨w1.heap.size, 0, none⟩ = some (.int .i64 hk) := by rw [cell_of_block t]; rfl
  have t_1 : w2.cell? ⟨w1.heap.size, 1, none⟩ = some (.int .i64 hc) := by rw [cell_of_block t]; rfl
  have t_2 : w2.cell? ⟨w1.heap.size, 2, none⟩ = some (.int .i64 hf) := by rw [cell_of_block t]; rfl
  go_wp2_with fail
  refine (hI _).mono ?_
  rintro e w3 ⟨rfl, hb3⟩
  have hB3 : Below w2.heap.size w2 w3 := by (repeat (first | exact Below.refl _ _ | assumption | refine Below.drew ?_ | refine below_drewN ?_ _ | refine balloc ?_ _ | refine Below.setCell ?_ (by first | (simp; done) | (simp; omega) | omega) _ | refine bchain (by assumption) ?_))
  have k0 := bblock hB3 k0
  have r := bblock hB3 r
  have t := bblock hB3 t
  have hw3 := bchain hB3 hw2
  clear hz_k0 hz_r hz_t
  have hz_k0 : w.heap.size < w3.heap.size := (Array.getElem?_eq_some_iff.1 k0).1
  have hz_r : w.heap.size + 1 < w3.heap.size := (Array.getElem?_eq_some_iff.1 r).1
  have hz_t : w1.heap.size < w3.heap.size := (Array.getElem?_eq_some_iff.1 t).1
  clear hB3
  clear k0_0 k0_1 r_0 r_1 r_f t_0 t_1 t_2
  have k0_0 : w3.cell? ⟨w.heap.size, 0, none⟩ = some (.pointer (some ⟨bO, 0, none⟩)) := by rw [cell_of_block k0]; rfl
  have k0_1 : w3.cell? ⟨w.heap.size, 1, none⟩ = some (.pointer (some ⟨bY, 0, none⟩)) := by rw [cell_of_block k0]; rfl
  have r_0 : w3.cell? ⟨w.heap.size + 1, 0, none⟩ = some (.int .i64 0) := by rw [cell_of_block r]; rfl
  have r_1 : w3.cell? ⟨w.heap.size + 1, 1, none⟩ = some (.int .i64 0) := by rw [cell_of_block r]; rfl
  have r_f : ∀ i, w3.frozen? ⟨w.heap.size + 1, i, none⟩ = false := frozen_of_block r
  have t_0 : w3.cell? ⟨w1.heap.size, 0, none⟩ = some (.int .i64 hk) := by rw [cell_of_block t]; rfl
  have t_1 : w3.cell? ⟨w1.heap.size, 1, none⟩ = some (.int .i64 hc) := by rw [cell_of_block t]; rfl
  have t_2 : w3.cell? ⟨w1.heap.size, 2, none⟩ = some (.int .i64 hf) := by rw [cell_of_block t]; rfl
  go_wp2
  exact bodyPost_ret (v := .tuple #[.agg #[.int .i64 im, .int .i64 is], .int .i64 0]) (by simp [results, Try.results44, go_sem, k0_0, k0_1, r_0, r_1, r_f, t_0, t_1, t_2, hz_k0, hz_r, hz_t]) rfl ⟨rfl, by (repeat (first | exact Below.refl _ _ | assumption | refine Below.drew ?_ | refine below_drewN ?_ _ | refine balloc ?_ _ | refine Below.setCell ?_ (by first | (simp; done) | (simp; omega) | omega) _ | refine bchain (by assumption) ?_))⟩
theorem mid_any {w : World} {bO bY : Nat} {lo ly : Int} {wo wy : List Int} {gO gY : Option Nat} (hm : MemAt w bO bY lo ly wo wy gO gY) (a : Int) : Calls Try.prog 44 #[.agg #[.pointer (some ⟨bO, 0, none⟩), .pointer (some ⟨bY, 0, none⟩)], .int .i64 a] w fun e w' => e = .returned (.tuple #[.agg #[.int .i64 (OM wo wy a), .int .i64 (OS wo wy a)], .int .i64 (HE wo wy a)]) ∧ Below w.heap.size w w' := by
  unfold OM OS
  by_cases he : HE wo wy a = 0
  · rw [he]
    exact mid_yes hm a he
  · rw [if_neg he, if_neg he]
    exact mid_no hm a he
end Go.Proofs.Ytgjaafcagnkfdaa
namespace Go.Proofs.Ytgjaafcagnkfdaa
open Go.RowKit
set_option linter.unusedSimpArgs false
set_option linter.unusedVariables false

def stB (k : Int) : Bool := decide (k = 3 ∨ k = 4)
theorem stB_iff {k : Int} : stB k = true ↔ k = 3 ∨ k = 4 := by unfold stB; exact decide_eq_true_iff
theorem stands_any (k c f : Int) (w : World) : Calls Try.prog 61 #[.agg #[.int .i64 k, .int .i64 c, .int .i64 f]] w fun e w' => e = .returned (.bool (stB k)) ∧ Below w.heap.size w w' := by
  by_cases h3 : k = 3
  · subst h3
    go_enter Try.func61, Try.ntmps61
    go_wp2
    go_ret
    exact ⟨rfl, by (repeat (first | exact Below.refl _ _ | assumption | refine Below.drew ?_ | refine below_drewN ?_ _ | refine balloc ?_ _ | refine Below.setCell ?_ (by first | (simp; done) | (simp; omega) | omega) _ | refine bchain (by assumption) ?_))⟩
  · by_cases h4 : k = 4
    · subst h4
      go_enter Try.func61, Try.ntmps61
      go_wp2
      go_ret
      exact ⟨rfl, by (repeat (first | exact Below.refl _ _ | assumption | refine Below.drew ?_ | refine below_drewN ?_ _ | refine balloc ?_ _ | refine Below.setCell ?_ (by first | (simp; done) | (simp; omega) | omega) _ | refine bchain (by assumption) ?_))⟩
    · have e : stB k = false := by unfold stB; simp [h3, h4]
      rw [e]
      have e3 : (k == 3) = false := by simpa using h3
      have e4 : (k == 4) = false := by simpa using h4
      clear h3 h4 e
      go_enter Try.func61, Try.ntmps61
      go_wp2
      go_ret
      exact ⟨rfl, by (repeat (first | exact Below.refl _ _ | assumption | refine Below.drew ?_ | refine below_drewN ?_ _ | refine balloc ?_ _ | refine Below.setCell ?_ (by first | (simp; done) | (simp; omega) | omega) _ | refine bchain (by assumption) ?_))⟩
def fdE (wo wy : List Int) (a i : Int) : Int := if HE wo wy a ≠ 0 then HE wo wy a else if stB (HK wo wy a) then 7 else if i < 0 ∨ HF wo wy a ≤ i then 2 else 0
def fdA (wo wy : List Int) (a i : Int) : Int := if fdE wo wy a i = 0 then a + 2 + i else 0
set_option maxRecDepth 100000 in
set_option maxHeartbeats 1000000 in
theorem field_e {w : World} {bO bY : Nat} {lo ly : Int} {wo wy : List Int} {gO gY : Option Nat} (hm : MemAt w bO bY lo ly wo wy gO gY) (a i : Int) (he : HE wo wy a ≠ 0) :
    Calls Try.prog 52 #[.agg #[.pointer (some ⟨bO, 0, none⟩), .pointer (some ⟨bY, 0, none⟩)], .int .i64 a, .int .i64 i] w fun e w' => e = .returned (.tuple #[.int .i64 0, .int .i64 (HE wo wy a)]) ∧ Below w.heap.size w w' := by
  have hH := fun W (h : Below w.heap.size w W) => mhdr_any (hm.below h) a
  generalize HK wo wy a = hk at *
  generalize HC wo wy a = hc at *
  generalize HF wo wy a = hf at *
  generalize HE wo wy a = er at *
  have hb1 : (er != 0) = true := by simpa using he
  clear hm he
  have hw0 : Below w.heap.size w w := Below.refl _ _
  go_enter Try.func52, Try.ntmps52
  go_wp2_with fail
  refine (hH _ (by (repeat (first | exact Below.refl _ _ | assumption | refine Below.drew ?_ | refine below_drewN ?_ _ | refine balloc ?_ _ | refine Below.setCell ?_ (by first | (simp; done) | (simp; omega) | omega) _ | refine bchain (by assumption) ?_)))).mono ?_
  rintro e w1 ⟨rfl, hb1⟩
  have hB1 : Below w.heap.size w w1 := by (repeat (first | exact Below.refl _ _ | assumption | refine Below.drew ?_ | refine below_drewN ?_ _ | refine balloc ?_ _ | refine Below.setCell ?_ (by first | (simp; done) | (simp; omega) | omega) _ | refine bchain (by assumption) ?_))
  have k0 : w1.heap[w.heap.size]? = some (.cells #[.pointer (some ⟨bO, 0, none⟩), .pointer (some ⟨bY, 0, none⟩)] 26 (0, 0)) := bblock hb1 (by repeat (first | exact alloc_at _ (by simp) | refine alloc_lt _ ?_))
  have hw1 := bchain hB1 hw0
  have hz_k0 : w.heap.size < w1.heap.size := (Array.getElem?_eq_some_iff.1 k0).1
  clear hB1
  have k0_0 : w1.cell? ⟨w.heap.size, 0, none⟩ = some (.pointer (some ⟨bO, 0, none⟩)) := by rw [cell_of_block k0]; rfl
  have k0_1 : w1.cell? ⟨w.heap.size, 1, none⟩ = some (.pointer (some ⟨bY, 0, none⟩)) := by rw [cell_of_block k0]; rfl
  go_wp2
  go_ret2
  exact ⟨rfl, by (repeat (first | exact Below.refl _ _ | assumption | refine Below.drew ?_ | refine below_drewN ?_ _ | refine balloc ?_ _ | refine Below.setCell ?_ (by first | (simp; done) | (simp; omega) | omega) _ | refine bchain (by assumption) ?_))⟩
set_option maxRecDepth 100000 in
set_option maxHeartbeats 1000000 in
theorem field_s {w : World} {bO bY : Nat} {lo ly : Int} {wo wy : List Int} {gO gY : Option Nat} (hm : MemAt w bO bY lo ly wo wy gO gY) (a i : Int) (he : HE wo wy a = 0) (hs : stB (HK wo wy a) = true) :
    Calls Try.prog 52 #[.agg #[.pointer (some ⟨bO, 0, none⟩), .pointer (some ⟨bY, 0, none⟩)], .int .i64 a, .int .i64 i] w fun e w' => e = .returned (.tuple #[.int .i64 0, .int .i64 7]) ∧ Below w.heap.size w w' := by
  have hH := fun W (h : Below w.heap.size w W) => mhdr_any (hm.below h) a
  have hbd := HE_bd he
  have hk1 := (hm.partOk a).b0
  have hk2 := (hm.partOk a).top
  have hk3 := (hm.partOk a).lm1
  have hx0 : 0 ≤ wordsI (HF wo wy a) := by unfold wordsI; split <;> omega
  have ha : 0 ≤ a ∧ a ≤ 1099511627776 := by omega
  obtain ⟨_, hf0, hf1, _⟩ := hbd
  rw [he] at hH
  have hS := fun W => stands_any (HK wo wy a) (HC wo wy a) (HF wo wy a) W
  rw [hs] at hS
  generalize HK wo wy a = hk at *
  generalize HC wo wy a = hc at *
  generalize HF wo wy a = hf at *
  clear hm he hs hk1 hk2 hk3 hx0
  have hw0 : Below w.heap.size w w := Below.refl _ _
  go_enter Try.func52, Try.ntmps52
  go_wp2_with fail
  refine (hH _ (by (repeat (first | exact Below.refl _ _ | assumption | refine Below.drew ?_ | refine below_drewN ?_ _ | refine balloc ?_ _ | refine Below.setCell ?_ (by first | (simp; done) | (simp; omega) | omega) _ | refine bchain (by assumption) ?_)))).mono ?_
  rintro e w1 ⟨rfl, hb1⟩
  have hB1 : Below w.heap.size w w1 := by (repeat (first | exact Below.refl _ _ | assumption | refine Below.drew ?_ | refine below_drewN ?_ _ | refine balloc ?_ _ | refine Below.setCell ?_ (by first | (simp; done) | (simp; omega) | omega) _ | refine bchain (by assumption) ?_))
  have k0 : w1.heap[w.heap.size]? = some (.cells #[.pointer (some ⟨bO, 0, none⟩), .pointer (some ⟨bY, 0, none⟩)] 26 (0, 0)) := bblock hb1 (by repeat (first | exact alloc_at _ (by simp) | refine alloc_lt _ ?_))
  have hw1 := bchain hB1 hw0
  have hz_k0 : w.heap.size < w1.heap.size := (Array.getElem?_eq_some_iff.1 k0).1
  clear hB1
  have k0_0 : w1.cell? ⟨w.heap.size, 0, none⟩ = some (.pointer (some ⟨bO, 0, none⟩)) := by rw [cell_of_block k0]; rfl
  have k0_1 : w1.cell? ⟨w.heap.size, 1, none⟩ = some (.pointer (some ⟨bY, 0, none⟩)) := by rw [cell_of_block k0]; rfl
  go_wp2_with fail
  refine (hS _).mono ?_
  rintro e w2 ⟨rfl, hb2⟩
  have hB2 : Below w1.heap.size w1 w2 := by (repeat (first | exact Below.refl _ _ | assumption | refine Below.drew ?_ | refine below_drewN ?_ _ | refine balloc ?_ _ | refine Below.setCell ?_ (by first | (simp; done) | (simp; omega) | omega) _ | refine bchain (by assumption) ?_))
  have k0 := bblock hB2 k0
  have t : w2.heap[w1.heap.size]? = some (.cells #[.int .i64 hk, .int .i64 hc, .int .i64 hf] 46 (0, 0)) := bblock hb2 (by repeat (first | exact alloc_at _ (by simp) | refine alloc_lt _ ?_))
  have hw2 := bchain hB2 hw1
  clear hz_k0
  have hz_k0 : w.heap.size < w2.heap.size := (Array.getElem?_eq_some_iff.1 k0).1
  have hz_t : w1.heap.size < w2.heap.size := (Array.getElem?_eq_some_iff.1 t).1
  clear hB2
  clear k0_0 k0_1
  have k0_0 : w2.cell? ⟨w.heap.size, 0, none⟩ = some (.pointer (some ⟨bO, 0, none⟩)) := by rw [cell_of_block k0]; rfl
  have k0_1 : w2.cell? ⟨w.heap.size, 1, none⟩ = some (.pointer (some ⟨bY, 0, none⟩)) := by rw [cell_of_block k0]; rfl
  have t_0 : w2.cell? ⟨w1.heap.size, 0, none⟩ = some (.int .i64 hk) := by rw [cell_of_block t]; rfl
  have t_1 : w2.cell? ⟨w1.heap.size, 1, none⟩ = some (.int .i64 hc) := by rw [cell_of_block t]; rfl
  have t_2 : w2.cell? ⟨w1.heap.size, 2, none⟩ = some (.int .i64 hf) := by rw [cell_of_block t]; rfl
  go_wp2
  go_ret2
  exact ⟨rfl, by (repeat (first | exact Below.refl _ _ | assumption | refine Below.drew ?_ | refine below_drewN ?_ _ | refine balloc ?_ _ | refine Below.setCell ?_ (by first | (simp; done) | (simp; omega) | omega) _ | refine bchain (by assumption) ?_))⟩
set_option maxRecDepth 100000 in
set_option maxHeartbeats 1000000 in
theorem field_lo {w : World} {bO bY : Nat} {lo ly : Int} {wo wy : List Int} {gO gY : Option Nat} (hm : MemAt w bO bY lo ly wo wy gO gY) (a i : Int) (he : HE wo wy a = 0) (hs : stB (HK wo wy a) = false) (hr : i < 0) :
    Calls Try.prog 52 #[.agg #[.pointer (some ⟨bO, 0, none⟩), .pointer (some ⟨bY, 0, none⟩)], .int .i64 a, .int .i64 i] w fun e w' => e = .returned (.tuple #[.int .i64 0, .int .i64 2]) ∧ Below w.heap.size w w' := by
  have hH := fun W (h : Below w.heap.size w W) => mhdr_any (hm.below h) a
  have hbd := HE_bd he
  have hk1 := (hm.partOk a).b0
  have hk2 := (hm.partOk a).top
  have hk3 := (hm.partOk a).lm1
  have hx0 : 0 ≤ wordsI (HF wo wy a) := by unfold wordsI; split <;> omega
  have ha : 0 ≤ a ∧ a ≤ 1099511627776 := by omega
  obtain ⟨_, hf0, hf1, _⟩ := hbd
  rw [he] at hH
  have hS := fun W => stands_any (HK wo wy a) (HC wo wy a) (HF wo wy a) W
  rw [hs] at hS
  generalize HK wo wy a = hk at *
  generalize HC wo wy a = hc at *
  generalize HF wo wy a = hf at *
  clear hm he hs hk1 hk2 hk3 hx0
  have hw0 : Below w.heap.size w w := Below.refl _ _
  go_enter Try.func52, Try.ntmps52
  go_wp2_with fail
  refine (hH _ (by (repeat (first | exact Below.refl _ _ | assumption | refine Below.drew ?_ | refine below_drewN ?_ _ | refine balloc ?_ _ | refine Below.setCell ?_ (by first | (simp; done) | (simp; omega) | omega) _ | refine bchain (by assumption) ?_)))).mono ?_
  rintro e w1 ⟨rfl, hb1⟩
  have hB1 : Below w.heap.size w w1 := by (repeat (first | exact Below.refl _ _ | assumption | refine Below.drew ?_ | refine below_drewN ?_ _ | refine balloc ?_ _ | refine Below.setCell ?_ (by first | (simp; done) | (simp; omega) | omega) _ | refine bchain (by assumption) ?_))
  have k0 : w1.heap[w.heap.size]? = some (.cells #[.pointer (some ⟨bO, 0, none⟩), .pointer (some ⟨bY, 0, none⟩)] 26 (0, 0)) := bblock hb1 (by repeat (first | exact alloc_at _ (by simp) | refine alloc_lt _ ?_))
  have hw1 := bchain hB1 hw0
  have hz_k0 : w.heap.size < w1.heap.size := (Array.getElem?_eq_some_iff.1 k0).1
  clear hB1
  have k0_0 : w1.cell? ⟨w.heap.size, 0, none⟩ = some (.pointer (some ⟨bO, 0, none⟩)) := by rw [cell_of_block k0]; rfl
  have k0_1 : w1.cell? ⟨w.heap.size, 1, none⟩ = some (.pointer (some ⟨bY, 0, none⟩)) := by rw [cell_of_block k0]; rfl
  go_wp2_with fail
  refine (hS _).mono ?_
  rintro e w2 ⟨rfl, hb2⟩
  have hB2 : Below w1.heap.size w1 w2 := by (repeat (first | exact Below.refl _ _ | assumption | refine Below.drew ?_ | refine below_drewN ?_ _ | refine balloc ?_ _ | refine Below.setCell ?_ (by first | (simp; done) | (simp; omega) | omega) _ | refine bchain (by assumption) ?_))
  have k0 := bblock hB2 k0
  have t : w2.heap[w1.heap.size]? = some (.cells #[.int .i64 hk, .int .i64 hc, .int .i64 hf] 46 (0, 0)) := bblock hb2 (by repeat (first | exact alloc_at _ (by simp) | refine alloc_lt _ ?_))
  have hw2 := bchain hB2 hw1
  clear hz_k0
  have hz_k0 : w.heap.size < w2.heap.size := (Array.getElem?_eq_some_iff.1 k0).1
  have hz_t : w1.heap.size < w2.heap.size := (Array.getElem?_eq_some_iff.1 t).1
  clear hB2
  clear k0_0 k0_1
  have k0_0 : w2.cell? ⟨w.heap.size, 0, none⟩ = some (.pointer (some ⟨bO, 0, none⟩)) := by rw [cell_of_block k0]; rfl
  have k0_1 : w2.cell? ⟨w.heap.size, 1, none⟩ = some (.pointer (some ⟨bY, 0, none⟩)) := by rw [cell_of_block k0]; rfl
  have t_0 : w2.cell? ⟨w1.heap.size, 0, none⟩ = some (.int .i64 hk) := by rw [cell_of_block t]; rfl
  have t_1 : w2.cell? ⟨w1.heap.size, 1, none⟩ = some (.int .i64 hc) := by rw [cell_of_block t]; rfl
  have t_2 : w2.cell? ⟨w1.heap.size, 2, none⟩ = some (.int .i64 hf) := by rw [cell_of_block t]; rfl
  go_wp2
  go_ret2
  exact ⟨rfl, by (repeat (first | exact Below.refl _ _ | assumption | refine Below.drew ?_ | refine below_drewN ?_ _ | refine balloc ?_ _ | refine Below.setCell ?_ (by first | (simp; done) | (simp; omega) | omega) _ | refine bchain (by assumption) ?_))⟩
set_option maxRecDepth 100000 in
set_option maxHeartbeats 1000000 in
theorem field_hi {w : World} {bO bY : Nat} {lo ly : Int} {wo wy : List Int} {gO gY : Option Nat} (hm : MemAt w bO bY lo ly wo wy gO gY) (a i : Int) (he : HE wo wy a = 0) (hs : stB (HK wo wy a) = false) (hr0 : 0 ≤ i) (hr : HF wo wy a ≤ i) :
    Calls Try.prog 52 #[.agg #[.pointer (some ⟨bO, 0, none⟩), .pointer (some ⟨bY, 0, none⟩)], .int .i64 a, .int .i64 i] w fun e w' => e = .returned (.tuple #[.int .i64 0, .int .i64 2]) ∧ Below w.heap.size w w' := by
  have hH := fun W (h : Below w.heap.size w W) => mhdr_any (hm.below h) a
  have hbd := HE_bd he
  have hk1 := (hm.partOk a).b0
  have hk2 := (hm.partOk a).top
  have hk3 := (hm.partOk a).lm1
  have hx0 : 0 ≤ wordsI (HF wo wy a) := by unfold wordsI; split <;> omega
  have ha : 0 ≤ a ∧ a ≤ 1099511627776 := by omega
  obtain ⟨_, hf0, hf1, _⟩ := hbd
  rw [he] at hH
  have hS := fun W => stands_any (HK wo wy a) (HC wo wy a) (HF wo wy a) W
  rw [hs] at hS
  generalize HK wo wy a = hk at *
  generalize HC wo wy a = hc at *
  generalize HF wo wy a = hf at *
  clear hm he hs hk1 hk2 hk3 hx0
  have hw0 : Below w.heap.size w w := Below.refl _ _
  go_enter Try.func52, Try.ntmps52
  go_wp2_with fail
  refine (hH _ (by (repeat (first | exact Below.refl _ _ | assumption | refine Below.drew ?_ | refine below_drewN ?_ _ | refine balloc ?_ _ | refine Below.setCell ?_ (by first | (simp; done) | (simp; omega) | omega) _ | refine bchain (by assumption) ?_)))).mono ?_
  rintro e w1 ⟨rfl, hb1⟩
  have hB1 : Below w.heap.size w w1 := by (repeat (first | exact Below.refl _ _ | assumption | refine Below.drew ?_ | refine below_drewN ?_ _ | refine balloc ?_ _ | refine Below.setCell ?_ (by first | (simp; done) | (simp; omega) | omega) _ | refine bchain (by assumption) ?_))
  have k0 : w1.heap[w.heap.size]? = some (.cells #[.pointer (some ⟨bO, 0, none⟩), .pointer (some ⟨bY, 0, none⟩)] 26 (0, 0)) := bblock hb1 (by repeat (first | exact alloc_at _ (by simp) | refine alloc_lt _ ?_))
  have hw1 := bchain hB1 hw0
  have hz_k0 : w.heap.size < w1.heap.size := (Array.getElem?_eq_some_iff.1 k0).1
  clear hB1
  have k0_0 : w1.cell? ⟨w.heap.size, 0, none⟩ = some (.pointer (some ⟨bO, 0, none⟩)) := by rw [cell_of_block k0]; rfl
  have k0_1 : w1.cell? ⟨w.heap.size, 1, none⟩ = some (.pointer (some ⟨bY, 0, none⟩)) := by rw [cell_of_block k0]; rfl
  go_wp2_with fail
  refine (hS _).mono ?_
  rintro e w2 ⟨rfl, hb2⟩
  have hB2 : Below w1.heap.size w1 w2 := by (repeat (first | exact Below.refl _ _ | assumption | refine Below.drew ?_ | refine below_drewN ?_ _ | refine balloc ?_ _ | refine Below.setCell ?_ (by first | (simp; done) | (simp; omega) | omega) _ | refine bchain (by assumption) ?_))
  have k0 := bblock hB2 k0
  have t : w2.heap[w1.heap.size]? = some (.cells #[.int .i64 hk, .int .i64 hc, .int .i64 hf] 46 (0, 0)) := bblock hb2 (by repeat (first | exact alloc_at _ (by simp) | refine alloc_lt _ ?_))
  have hw2 := bchain hB2 hw1
  clear hz_k0
  have hz_k0 : w.heap.size < w2.heap.size := (Array.getElem?_eq_some_iff.1 k0).1
  have hz_t : w1.heap.size < w2.heap.size := (Array.getElem?_eq_some_iff.1 t).1
  clear hB2
  clear k0_0 k0_1
  have k0_0 : w2.cell? ⟨w.heap.size, 0, none⟩ = some (.pointer (some ⟨bO, 0, none⟩)) := by rw [cell_of_block k0]; rfl
  have k0_1 : w2.cell? ⟨w.heap.size, 1, none⟩ = some (.pointer (some ⟨bY, 0, none⟩)) := by rw [cell_of_block k0]; rfl
  have t_0 : w2.cell? ⟨w1.heap.size, 0, none⟩ = some (.int .i64 hk) := by rw [cell_of_block t]; rfl
  have t_1 : w2.cell? ⟨w1.heap.size, 1, none⟩ = some (.int .i64 hc) := by rw [cell_of_block t]; rfl
  have t_2 : w2.cell? ⟨w1.heap.size, 2, none⟩ = some (.int .i64 hf) := by rw [cell_of_block t]; rfl
  go_wp2
  go_ret2
  exact ⟨rfl, by (repeat (first | exact Below.refl _ _ | assumption | refine Below.drew ?_ | refine below_drewN ?_ _ | refine balloc ?_ _ | refine Below.setCell ?_ (by first | (simp; done) | (simp; omega) | omega) _ | refine bchain (by assumption) ?_))⟩
set_option maxRecDepth 100000 in
set_option maxHeartbeats 1000000 in
theorem field_ok {w : World} {bO bY : Nat} {lo ly : Int} {wo wy : List Int} {gO gY : Option Nat} (hm : MemAt w bO bY lo ly wo wy gO gY) (a i : Int) (he : HE wo wy a = 0) (hs : stB (HK wo wy a) = false) (hr0 : 0 ≤ i) (hr : i < HF wo wy a) :
    Calls Try.prog 52 #[.agg #[.pointer (some ⟨bO, 0, none⟩), .pointer (some ⟨bY, 0, none⟩)], .int .i64 a, .int .i64 i] w fun e w' => e = .returned (.tuple #[.int .i64 (a + 2 + i), .int .i64 0]) ∧ Below w.heap.size w w' := by
  have hH := fun W (h : Below w.heap.size w W) => mhdr_any (hm.below h) a
  have hbd := HE_bd he
  have hk1 := (hm.partOk a).b0
  have hk2 := (hm.partOk a).top
  have hk3 := (hm.partOk a).lm1
  have hx0 : 0 ≤ wordsI (HF wo wy a) := by unfold wordsI; split <;> omega
  have ha : 0 ≤ a ∧ a ≤ 1099511627776 := by omega
  obtain ⟨_, hf0, hf1, _⟩ := hbd
  rw [he] at hH
  have hS := fun W => stands_any (HK wo wy a) (HC wo wy a) (HF wo wy a) W
  rw [hs] at hS
  generalize HK wo wy a = hk at *
  generalize HC wo wy a = hc at *
  generalize HF wo wy a = hf at *
  clear hm he hs hk1 hk2 hk3 hx0
  have hw0 : Below w.heap.size w w := Below.refl _ _
  go_enter Try.func52, Try.ntmps52
  go_wp2_with fail
  refine (hH _ (by (repeat (first | exact Below.refl _ _ | assumption | refine Below.drew ?_ | refine below_drewN ?_ _ | refine balloc ?_ _ | refine Below.setCell ?_ (by first | (simp; done) | (simp; omega) | omega) _ | refine bchain (by assumption) ?_)))).mono ?_
  rintro e w1 ⟨rfl, hb1⟩
  have hB1 : Below w.heap.size w w1 := by (repeat (first | exact Below.refl _ _ | assumption | refine Below.drew ?_ | refine below_drewN ?_ _ | refine balloc ?_ _ | refine Below.setCell ?_ (by first | (simp; done) | (simp; omega) | omega) _ | refine bchain (by assumption) ?_))
  have k0 : w1.heap[w.heap.size]? = some (.cells #[.pointer (some ⟨bO, 0, none⟩), .pointer (some ⟨bY, 0, none⟩)] 26 (0, 0)) := bblock hb1 (by repeat (first | exact alloc_at _ (by simp) | refine alloc_lt _ ?_))
  have hw1 := bchain hB1 hw0
  have hz_k0 : w.heap.size < w1.heap.size := (Array.getElem?_eq_some_iff.1 k0).1
  clear hB1
  have k0_0 : w1.cell? ⟨w.heap.size, 0, none⟩ = some (.pointer (some ⟨bO, 0, none⟩)) := by rw [cell_of_block k0]; rfl
  have k0_1 : w1.cell? ⟨w.heap.size, 1, none⟩ = some (.pointer (some ⟨bY, 0, none⟩)) := by rw [cell_of_block k0]; rfl
  go_wp2_with fail
  refine (hS _).mono ?_
  rintro e w2 ⟨rfl, hb2⟩
  have hB2 : Below w1.heap.size w1 w2 := by (repeat (first | exact Below.refl _ _ | assumption | refine Below.drew ?_ | refine below_drewN ?_ _ | refine balloc ?_ _ | refine Below.setCell ?_ (by first | (simp; done) | (simp; omega) | omega) _ | refine bchain (by assumption) ?_))
  have k0 := bblock hB2 k0
  have t : w2.heap[w1.heap.size]? = some (.cells #[.int .i64 hk, .int .i64 hc, .int .i64 hf] 46 (0, 0)) := bblock hb2 (by repeat (first | exact alloc_at _ (by simp) | refine alloc_lt _ ?_))
  have hw2 := bchain hB2 hw1
  clear hz_k0
  have hz_k0 : w.heap.size < w2.heap.size := (Array.getElem?_eq_some_iff.1 k0).1
  have hz_t : w1.heap.size < w2.heap.size := (Array.getElem?_eq_some_iff.1 t).1
  clear hB2
  clear k0_0 k0_1
  have k0_0 : w2.cell? ⟨w.heap.size, 0, none⟩ = some (.pointer (some ⟨bO, 0, none⟩)) := by rw [cell_of_block k0]; rfl
  have k0_1 : w2.cell? ⟨w.heap.size, 1, none⟩ = some (.pointer (some ⟨bY, 0, none⟩)) := by rw [cell_of_block k0]; rfl
  have t_0 : w2.cell? ⟨w1.heap.size, 0, none⟩ = some (.int .i64 hk) := by rw [cell_of_block t]; rfl
  have t_1 : w2.cell? ⟨w1.heap.size, 1, none⟩ = some (.int .i64 hc) := by rw [cell_of_block t]; rfl
  have t_2 : w2.cell? ⟨w1.heap.size, 2, none⟩ = some (.int .i64 hf) := by rw [cell_of_block t]; rfl
  go_wp2
  go_ret2
  exact ⟨rfl, by (repeat (first | exact Below.refl _ _ | assumption | refine Below.drew ?_ | refine below_drewN ?_ _ | refine balloc ?_ _ | refine Below.setCell ?_ (by first | (simp; done) | (simp; omega) | omega) _ | refine bchain (by assumption) ?_))⟩
theorem field_any {w : World} {bO bY : Nat} {lo ly : Int} {wo wy : List Int} {gO gY : Option Nat} (hm : MemAt w bO bY lo ly wo wy gO gY) (a i : Int) : Calls Try.prog 52 #[.agg #[.pointer (some ⟨bO, 0, none⟩), .pointer (some ⟨bY, 0, none⟩)], .int .i64 a, .int .i64 i] w fun e w' => e = .returned (.tuple #[.int .i64 (fdA wo wy a i), .int .i64 (fdE wo wy a i)]) ∧ Below w.heap.size w w' := by
  by_cases he : HE wo wy a = 0
  · cases hs : stB (HK wo wy a)
    · by_cases hr : i < 0 ∨ HF wo wy a ≤ i
      · have e : fdE wo wy a i = 2 := by unfold fdE; rw [if_neg (by simpa using he), hs, if_pos hr]; rfl
        unfold fdA
        rw [e, if_neg (by decide)]
        by_cases h0 : i < 0
        · exact field_lo hm a i he hs h0
        · exact field_hi hm a i he hs (by omega) (by omega)
      · have e : fdE wo wy a i = 0 := by unfold fdE; rw [if_neg (by simpa using he), hs, if_neg hr]; rfl
        unfold fdA
        rw [e, if_pos rfl]
        exact field_ok hm a i he hs (by omega) (by omega)
    · have e : fdE wo wy a i = 7 := by unfold fdE; rw [if_neg (by simpa using he), hs]; rfl
      unfold fdA
      rw [e, if_neg (by decide)]
      exact field_s hm a i he hs
  · have e : fdE wo wy a i = HE wo wy a := by unfold fdE; rw [if_pos he]
    unfold fdA
    rw [e, if_neg he]
    exact field_e hm a i he
def FV (wo wy : List Int) (a i : Int) : Int := if fdE wo wy a i = 0 then LD wo wy (fdA wo wy a i) else 0
def FE (wo wy : List Int) (a i : Int) : Int := if fdE wo wy a i = 0 then LE wo wy (fdA wo wy a i) else fdE wo wy a i
end Go.Proofs.Ytgjaafcagnkfdaa
