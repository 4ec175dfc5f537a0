/-
  A memory of two spaces: what it is, what its words say; object's part, Load, Header.
-/
import Derived.Test.YtcmhgjkijegpnaaAnyA
import Derived.Test.YtcmhgjkijegpnaaHdr5
namespace Go.Proofs.Ytcmhgjkijegpnaa
open Go.RowKit
set_option linter.unusedSimpArgs false
set_option linter.unusedVariables false

/-! ### Decode, DecodeID, Words at every word -/
def dE (x : Int) : Int := if decB x then 0 else 11
def dK (x : Int) : Int := if decB x then decK x else 0
def dC (x : Int) : Int := if decB x then decC x else 0
def dF (x : Int) : Int := if decB x then decF x else 0
def iM (y : Int) : Int := if didB y then didM y else 0
def iS (y : Int) : Int := if didB y then didS y else 0
def szI (k c f : Int) : Int := if hvB k c f then wordsI f else 0
theorem decode_any (x : Int) (hx : U64 x) (w : World) : Calls Try.prog 49 #[.int .u64 x] w fun e w' => e = .returned (.tuple #[.agg #[.int .i64 (dK x), .int .i64 (dC x), .int .i64 (dF x)], .int .i64 (dE x)]) ∧ Below w.heap.size w w' := by
  unfold dE dK dC dF
  cases h : decB x
  · exact decode_no x hx h w
  · exact decode_yes x hx h w
theorem rdecode_any (x : Int) (hx : U64 x) (w : World) : Calls Try.prog 66 #[.int .u64 x] w fun e w' => e = .returned (.tuple #[.agg #[.int .i64 (dK x), .int .i64 (dC x), .int .i64 (dF x)], .int .i64 (dE x)]) ∧ Below w.heap.size w w' := by
  unfold dE dK dC dF
  cases h : decB x
  · exact rdecode_no x hx h w
  · exact rdecode_yes x hx h w
theorem decodeID_any (y : Int) (hy : U64 y) (w : World) : Calls Try.prog 50 #[.int .u64 y] w fun e w' => e = .returned (.agg #[.int .i64 (iM y), .int .i64 (iS y)]) ∧ Below w.heap.size w w' := by
  unfold iM iS
  cases h : didB y
  · exact decodeID_no y hy h w
  · exact decodeID_yes y hy h w
theorem rdecodeID_any (y : Int) (hy : U64 y) (w : World) : Calls Try.prog 67 #[.int .u64 y] w fun e w' => e = .returned (.agg #[.int .i64 (iM y), .int .i64 (iS y)]) ∧ Below w.heap.size w w' := by
  unfold iM iS
  cases h : didB y
  · exact rdecodeID_no y hy h w
  · exact rdecodeID_yes y hy h w
theorem words_any (k c f : Int) (w : World) : Calls Try.prog 42 #[.agg #[.int .i64 k, .int .i64 c, .int .i64 f]] w fun e w' => e = .returned (.int .i64 (szI k c f)) ∧ Below w.heap.size w w' := by
  unfold szI
  cases h : hvB k c f
  · exact words_no k c f h w
  · exact words_yes k c f h w
theorem rwords_any (k c f : Int) (w : World) : Calls Try.prog 69 #[.agg #[.int .i64 k, .int .i64 c, .int .i64 f]] w fun e w' => e = .returned (.int .i64 (szI k c f)) ∧ Below w.heap.size w w' := by
  unfold szI
  cases h : hvB k c f
  · exact rwords_no k c f h w
  · exact rwords_yes k c f h w

/-! ### A memory -/
structure MemAt (w : World) (bO bY : Nat) (lo ly : Int) (wo wy : List Int) (gO gY : Option Nat) : Prop where
  old : SpAt w bO 0 lo wo gO
  yng : SpAt w bY 16777216 ly wy gY
  okO : SpOk 0 lo wo
  okY : SpOk 16777216 ly wy
  lim : lo ≤ 16777216
  bb : bO ≠ bY
  gb : gO ≠ some bY
  bg : gY ≠ some bO
  gg : ∀ G, gO = some G → gY ≠ some G
theorem MemAt.below {w w' : World} {bO bY : Nat} {lo ly : Int} {wo wy : List Int} {gO gY : Option Nat} (h : MemAt w bO bY lo ly wo wy gO gY) (hb : Below w.heap.size w w') : MemAt w' bO bY lo ly wo wy gO gY :=
  ⟨h.old.below hb, h.yng.below hb, h.okO, h.okY, h.lim, h.bb, h.gb, h.bg, h.gg⟩
/-- The space of an address: its block, its base, its words. -/
def bpA (bO bY : Nat) (a : Int) : Nat := if 16777216 ≤ a then bY else bO
def bsA (a : Int) : Int := if 16777216 ≤ a then 16777216 else 0
def wsA (wo wy : List Int) (a : Int) : List Int := if 16777216 ≤ a then wy else wo
def lmA (lo ly : Int) (a : Int) : Int := if 16777216 ≤ a then ly else lo
def gpA (gO gY : Option Nat) (a : Int) : Option Nat := if 16777216 ≤ a then gY else gO
theorem MemAt.part {w : World} {bO bY : Nat} {lo ly : Int} {wo wy : List Int} {gO gY : Option Nat} (h : MemAt w bO bY lo ly wo wy gO gY) (a : Int) : SpAt w (bpA bO bY a) (bsA a) (lmA lo ly a) (wsA wo wy a) (gpA gO gY a) := by
  unfold bpA bsA lmA wsA gpA
  split
  · exact h.yng
  · exact h.old
theorem MemAt.partOk {w : World} {bO bY : Nat} {lo ly : Int} {wo wy : List Int} {gO gY : Option Nat} (h : MemAt w bO bY lo ly wo wy gO gY) (a : Int) : SpOk (bsA a) (lmA lo ly a) (wsA wo wy a) := by
  unfold bsA lmA wsA
  split
  · exact h.okY
  · exact h.okO
def LD (wo wy : List Int) (a : Int) : Int := ldW (bsA a) (wsA wo wy a) a
def LE (wo wy : List Int) (a : Int) : Int := ioE (bsA a) (wsA wo wy a) a
theorem MemAt.ldU {w : World} {bO bY : Nat} {lo ly : Int} {wo wy : List Int} {gO gY : Option Nat} (h : MemAt w bO bY lo ly wo wy gO gY) (a : Int) : U64 (LD wo wy a) := Proofs.Ytcmhgjkijegpnaa.ldU (h.partOk a) a
theorem part_any (bO bY : Nat) (a : Int) (w : World) : Calls Try.prog 47 #[.agg #[.pointer (some ⟨bO, 0, none⟩), .pointer (some ⟨bY, 0, none⟩)], .int .i64 a] w fun e w' => e = .returned (.pointer (some ⟨bpA bO bY a, 0, none⟩)) ∧ Below w.heap.size w w' := by
  unfold bpA
  split
  · go_enter Try.func47, Try.ntmps47
    go_wp2
    go_ret
    exact ⟨rfl, by (repeat (first | exact Below.refl _ _ | assumption | refine Below.drew ?_ | refine below_drewN ?_ _ | refine balloc ?_ _ | refine Below.setCell ?_ (by first | (simp; done) | (simp; omega) | omega) _ | refine bchain (by assumption) ?_))⟩
  · go_enter Try.func47, Try.ntmps47
    go_wp2
    go_ret
    exact ⟨rfl, by (repeat (first | exact Below.refl _ _ | assumption | refine Below.drew ?_ | refine below_drewN ?_ _ | refine balloc ?_ _ | refine Below.setCell ?_ (by first | (simp; done) | (simp; omega) | omega) _ | refine bchain (by assumption) ?_))⟩
set_option maxRecDepth 100000 in
set_option maxHeartbeats 1000000 in
theorem mload_any {w : World} {bO bY : Nat} {lo ly : Int} {wo wy : List Int} {gO gY : Option Nat} (hm : MemAt w bO bY lo ly wo wy gO gY) (a : Int) :
    Calls Try.prog 29 #[.agg #[.pointer (some ⟨bO, 0, none⟩), .pointer (some ⟨bY, 0, none⟩)], .int .i64 a] w fun e w' => e = .returned (.tuple #[.int .u64 (LD wo wy a), .int .i64 (LE wo wy a)]) ∧ Below w.heap.size w w' := by
  have hp := fun W (h : Below w.heap.size w W) => (hm.below h).part a
  have hk := hm.partOk a
  have hL := fun W (h : Below w.heap.size w W) => load_any (hp W h) hk a
  unfold LD LE
  clear hm hp hk
  generalize ldW (bsA a) (wsA wo wy a) a = x at *
  generalize ioE (bsA a) (wsA wo wy a) a = y at *
  have hw0 : Below w.heap.size w w := Below.refl _ _
  go_enter Try.func29, Try.ntmps29
  go_wp2_with fail
  refine (part_any _ _ _ _).mono ?_
  rintro e w1 ⟨rfl, hb1⟩
  have hB1 : Below w.heap.size w w1 := by (repeat (first | exact Below.refl _ _ | assumption | refine Below.drew ?_ | refine below_drewN ?_ _ | refine balloc ?_ _ | refine Below.setCell ?_ (by first | (simp; done) | (simp; omega) | omega) _ | refine bchain (by assumption) ?_))
  have k0 : w1.heap[w.heap.size]? = some (.cells #[.pointer (some ⟨bO, 0, none⟩), .pointer (some ⟨bY, 0, none⟩)] 29 (0, 0)) := bblock hb1 (by repeat (first | exact alloc_at _ (by simp) | refine alloc_lt _ ?_))
  have hw1 := bchain hB1 hw0
  have hz1 : w.heap.size < w1.heap.size := (Array.getElem?_eq_some_iff.1 k0).1
  clear hB1
  have k0_0 : w1.cell? ⟨w.heap.size, 0, none⟩ = some (.pointer (some ⟨bO, 0, none⟩)) := by rw [cell_of_block k0]; rfl
  have k0_1 : w1.cell? ⟨w.heap.size, 1, none⟩ = some (.pointer (some ⟨bY, 0, none⟩)) := by rw [cell_of_block k0]; rfl
  go_wp2_with fail
  refine (hL _ (by (repeat (first | exact Below.refl _ _ | assumption | refine Below.drew ?_ | refine below_drewN ?_ _ | refine balloc ?_ _ | refine Below.setCell ?_ (by first | (simp; done) | (simp; omega) | omega) _ | refine bchain (by assumption) ?_)))).mono ?_
  rintro e w2 ⟨rfl, hb2⟩
  have hB2 : Below w1.heap.size w1 w2 := by (repeat (first | exact Below.refl _ _ | assumption | refine Below.drew ?_ | refine below_drewN ?_ _ | refine balloc ?_ _ | refine Below.setCell ?_ (by first | (simp; done) | (simp; omega) | omega) _ | refine bchain (by assumption) ?_))
  have k0 := bblock hB2 k0
  have hw2 := bchain hB2 hw1
  have hz2 : w.heap.size < w2.heap.size := (Array.getElem?_eq_some_iff.1 k0).1
  clear hB2
  clear k0_0 k0_1
  have k0_0 : w2.cell? ⟨w.heap.size, 0, none⟩ = some (.pointer (some ⟨bO, 0, none⟩)) := by rw [cell_of_block k0]; rfl
  have k0_1 : w2.cell? ⟨w.heap.size, 1, none⟩ = some (.pointer (some ⟨bY, 0, none⟩)) := by rw [cell_of_block k0]; rfl
  go_wp2
  go_ret2
  exact ⟨rfl, by (repeat (first | exact Below.refl _ _ | assumption | refine Below.drew ?_ | refine below_drewN ?_ _ | refine balloc ?_ _ | refine Below.setCell ?_ (by first | (simp; done) | (simp; omega) | omega) _ | refine bchain (by assumption) ?_))⟩
/-- Is there an object at place i? -/
def obB (ws : List Int) (i : Nat) : Bool := decide (i + 2 ≤ ws.length) && decB (ws.getD i 0) && didB (ws.getD (i + 1) 0) && decide (i + (wordsI (decF (ws.getD i 0))).toNat ≤ ws.length)
theorem obB_iff {ws : List Int} {i : Nat} : obB ws i = true ↔ i + 2 ≤ ws.length ∧ decB (ws.getD i 0) = true ∧ didB (ws.getD (i + 1) 0) = true ∧ i + (wordsI (decF (ws.getD i 0))).toNat ≤ ws.length := by unfold obB; simp [and_assoc]
def hdE (bs : Int) (ws : List Int) (a : Int) : Int := if inB bs ws.length a then (if obB ws (a - bs).toNat then 0 else 11) else 2
def hdK (bs : Int) (ws : List Int) (a : Int) : Int := if hdE bs ws a = 0 then decK (ws.getD (a - bs).toNat 0) else 0
def hdC (bs : Int) (ws : List Int) (a : Int) : Int := if hdE bs ws a = 0 then decC (ws.getD (a - bs).toNat 0) else 0
def hdF (bs : Int) (ws : List Int) (a : Int) : Int := if hdE bs ws a = 0 then decF (ws.getD (a - bs).toNat 0) else 0
theorem hd_out {bs : Int} {ws : List Int} {a : Int} (h : inB bs ws.length a = false) : hdE bs ws a = 2 ∧ hdK bs ws a = 0 ∧ hdC bs ws a = 0 ∧ hdF bs ws a = 0 := by
  have e : hdE bs ws a = 2 := by unfold hdE; rw [h]; rfl
  refine ⟨e, ?_, ?_, ?_⟩ <;> (first | unfold hdK | unfold hdC | unfold hdF) <;> rw [e] <;> rfl
theorem hd_bad {bs : Int} {ws : List Int} {a : Int} (h : inB bs ws.length a = true) (hb : obB ws (a - bs).toNat = false) : hdE bs ws a = 11 ∧ hdK bs ws a = 0 ∧ hdC bs ws a = 0 ∧ hdF bs ws a = 0 := by
  have e : hdE bs ws a = 11 := by unfold hdE; rw [h, hb]; rfl
  refine ⟨e, ?_, ?_, ?_⟩ <;> (first | unfold hdK | unfold hdC | unfold hdF) <;> rw [e] <;> rfl
theorem hd_ok {bs : Int} {ws : List Int} {a : Int} (h : inB bs ws.length a = true) (hb : obB ws (a - bs).toNat = true) : hdE bs ws a = 0 ∧ hdK bs ws a = decK (ws.getD (a - bs).toNat 0) ∧ hdC bs ws a = decC (ws.getD (a - bs).toNat 0) ∧ hdF bs ws a = decF (ws.getD (a - bs).toNat 0) := by
  have e : hdE bs ws a = 0 := by unfold hdE; rw [h, hb]; rfl
  refine ⟨e, ?_, ?_, ?_⟩ <;> (first | unfold hdK | unfold hdC | unfold hdF) <;> rw [if_pos e]
end Go.Proofs.Ytcmhgjkijegpnaa
