/-
  A slice of operations of law 07 that came in, opened to its cells.
-/
import Derived.Test.YtcmhgjkijegpnaaGA
import Derived.ProofKit
import Derived.OpenShut
import Derived.Deep.Slices
import Derived.Deep.Fields
import Derived.Lib.Hide
import Derived.Deep.QuietTactic
import Derived.BigQuiet
import Derived.IntWalk
import Derived.Test.YtcmhgjkijegpnaaGH
import Derived.Test.YtcmhgjkijegpnaaGB
import Derived.Maps.AppendAt
import Derived.Test.YtcmhgjkijegpnaaGD
import Derived.Test.YtcmhgjkijegpnaaGC
import Derived.Test.YtcmhgjkijegpnaaGF
import Derived.Deep.RegionHeld3
import Derived.Deep.AppendLies
import Derived.Deep.Cut
namespace Go.Proofs.Ytcmhgjkijegpnaa
open Go.ChangeShapes Go.WideShapes Go.ChangeAt Go.RowKit Go.Deep
set_option linter.unusedSimpArgs false
set_option linter.unusedVariables false

/-- An operation that came in. -/
structure Op7 where
  kd : Int
  k : Int
  c : Int
  f : Int
  m : Int
  s : Int
  a : Int
  b : Int
  i : Int
  u : Int
  raw : Bool
instance : Inhabited Op7 := ⟨⟨0, 0, 0, 0, 0, 0, 0, 0, 0, 0, false⟩⟩
/-- The cells of an operation. -/
def OpAt (W : World) (x : Addr) (o : Op7) : Prop :=
  W.cell? (x.add 0) = some (.int .i64 o.kd) ∧ W.cell? (x.add 1) = some (.int .i64 o.k) ∧ W.cell? (x.add 2) = some (.int .i64 o.c) ∧ W.cell? (x.add 3) = some (.int .i64 o.f) ∧ W.cell? (x.add 4) = some (.int .i64 o.m) ∧ W.cell? (x.add 5) = some (.int .i64 o.s) ∧ W.cell? (x.add 6) = some (.int .i64 o.a) ∧ W.cell? (x.add 7) = some (.int .i64 o.b) ∧ W.cell? (x.add 8) = some (.int .i64 o.i) ∧ W.cell? (x.add 9) = some (.int .u64 o.u) ∧ W.cell? (x.add 10) = some (.bool o.raw) ∧ U64 o.u
/-- The operations that a slice holds: nothing where it is empty. -/
def Ops7 (w : World) (a : Option Addr) (l : List Op7) : Prop :=
  l = [] ∨ ∃ b off : Nat, a = some ⟨b, off, none⟩ ∧ b < w.heap.size ∧ ∀ i o, l[i]? = some o → OpAt w ⟨b, off + i * 11, none⟩ o
theorem list_of {α : Type} {P : Nat → α → Prop} : ∀ n : Nat, (∀ i, i < n → ∃ o, P i o) → ∃ l : List α, l.length = n ∧ ∀ i o, l[i]? = some o → P i o := by
  intro n
  induction n with
  | zero => exact fun _ => ⟨[], rfl, fun i o h => by simp at h⟩
  | succ n ih =>
    intro h
    obtain ⟨l, hl, hp⟩ := ih (fun i hi => h i (by omega))
    obtain ⟨o, ho⟩ := h n (by omega)
    refine ⟨l ++ [o], by simp [hl], fun i x hx => ?_⟩
    by_cases hi : i < n
    · exact hp i x (by rwa [List.getElem?_append_left (by omega)] at hx)
    · rw [List.getElem?_append_right (by omega)] at hx
      have : i - l.length = 0 := by
        by_cases h0 : i - l.length = 0
        · exact h0
        · rw [List.getElem?_eq_none (by simp; omega)] at hx
          cases hx
      rw [this] at hx
      simp at hx
      subst hx
      have : i = n := by omega
      subst this
      exact ho
/-- A field of one integer cell. -/
theorem int_field {H : Type} {enc : TypeId × Value → H} {P : Program} {w : World} {base fuel off m : Nat} {spare : Nat → Bool} {held : Bool} {t : TypeId} {k : IntKind} {cs : List Value} {x : Option (DataW H × List MemPlace)} {y : DataW H × List MemPlace} (ht : P.underlying t = some (.int k))
    (h : DataW.trod enc P w base spare held fuel t ((cs.drop off).take m) = x) (hm : m = 1) (hx : x = some y) : ∃ n, cs[off]? = some (.int k n) ∧ (Lit.int k n).wf = true := by
  subst hm
  obtain ⟨n, e1, _, wf⟩ := DataW.trod_int ht (h.trans hx)
  refine ⟨n, ?_, wf⟩
  have : ((cs.drop off).take 1)[0]? = some (.int k n) := by rw [e1]; rfl
  rw [List.getElem?_take_of_lt (by omega), List.getElem?_drop] at this
  simpa using this
theorem sub_field {cs : List Value} {off m j : Nat} {v : Value} (h : ((cs.drop off).take m)[j]? = some v) : cs[off + j]? = some v := by
  by_cases hj : j < m
  · rwa [List.getElem?_take_of_lt hj, List.getElem?_drop] at h
  · rw [List.getElem?_eq_none (by simp; omega)] at h
    cases h
theorem u64_wf {x : Int} (h : (Lit.int .u64 x).wf = true) : U64 x := by
  simp [Lit.wf, IntKind.min, IntKind.max, IntKind.signed, IntKind.bits] at h
  exact ⟨by omega, by omega⟩

theorem bool_field {H : Type} {enc : TypeId × Value → H} {P : Program} {w : World} {base fuel off m : Nat} {spare : Nat → Bool} {held : Bool} {t : TypeId} {cs : List Value} {x : Option (DataW H × List MemPlace)} {y : DataW H × List MemPlace} (ht : P.underlying t = some .bool)
    (h : DataW.trod enc P w base spare held fuel t ((cs.drop off).take m) = x) (hm : m = 1) (hx : x = some y) : ∃ b, cs[off]? = some (.bool b) := by
  subst hm
  obtain ⟨b, e1, _⟩ := DataW.trod_bool ht (h.trans hx)
  refine ⟨b, ?_⟩
  have : ((cs.drop off).take 1)[0]? = some (.bool b) := by rw [e1]; rfl
  rw [List.getElem?_take_of_lt (by omega), List.getElem?_drop] at this
  simpa using this
set_option maxRecDepth 100000 in
theorem open_ops7 {H : Type} {enc : TypeId × Value → H} {W : World} {v : Value} {d : DataW H} {p : List MemPlace} {r : Reach} {b0 : Nat} (hv : Value.okWide Try.prog W r b0 44 v) (h : DataW.Trod enc Try.prog W 0 (fun _ => true) true 44 v d p) :
    ∃ (a : Option Addr) (l : List Op7) (cap : Nat), v = .slice a l.length cap ∧ l.length ≤ cap ∧ cap ≤ 9223372036854775807 ∧ Ops7 W a l := by
  obtain ⟨a, len, cap, rfl⟩ := okWide_slice Try.underlying44 hv
  obtain ⟨fuel, hf⟩ := h
  rcases open_slice Try.underlying44 hf with ⟨hcs, _⟩ | ⟨x, len', cap', m, n, D, Pl, hcs, _, hl, hm, hmm, _, hi⟩
  · simp [Value.cells] at hcs
    obtain ⟨rfl, rfl, rfl⟩ := hcs
    exact ⟨none, [], 0, rfl, by simp, by omega, .inl rfl⟩
  · simp [Value.cells] at hcs
    obtain ⟨rfl, rfl, rfl⟩ := hcs
    have hC : Try.prog.cellsOf 58 = 11 := by kernel_rfl
    have hCH : Try.prog.cellsOf 23 = 3 := by kernel_rfl
    have hCI : Try.prog.cellsOf 25 = 2 := by kernel_rfl
    have hc1 : Try.prog.cellsOf 3 = 1 := by kernel_rfl
    have hc2 : Try.prog.cellsOf 4 = 1 := by kernel_rfl
    have hc3 : Try.prog.cellsOf 56 = 1 := by kernel_rfl
    simp only [if_true] at hmm
    subst hmm
    rw [hC] at hi
    have key : ∀ i, i < len → ∃ o : Op7, OpAt W (x.add (i * 11)) o := by
      intro i hil
      obtain ⟨cs, hc, ht⟩ := hi i (by omega)
      obtain ⟨_, hcl, hat⟩ := World.cells?_some hc
      obtain ⟨ys, n', _, _, _, hyl, hfl⟩ := DataW.trod_struct Try.underlying58 ht
      match ys, hyl with
      | [y0, y1, y2, y3, y4, y5, y6, y7], _ =>
        have f0 := hfl 0 _ rfl
        have f1 := hfl 1 _ rfl
        have f2 := hfl 2 _ rfl
        have f3 := hfl 3 _ rfl
        have f4 := hfl 4 _ rfl
        have f5 := hfl 5 _ rfl
        have f6 := hfl 6 _ rfl
        have f7 := hfl 7 _ rfl
        obtain ⟨kd, a0, _⟩ := int_field Try.underlying3 f0 hc1 rfl
        obtain ⟨aa, a6, _⟩ := int_field Try.underlying3 f3 hc1 rfl
        obtain ⟨bb, a7, _⟩ := int_field Try.underlying3 f4 hc1 rfl
        obtain ⟨ii, a8, _⟩ := int_field Try.underlying3 f5 hc1 rfl
        obtain ⟨uu, a9, wu⟩ := int_field Try.underlying56 f6 hc3 rfl
        obtain ⟨rr, a10⟩ := bool_field Try.underlying4 f7 hc2 rfl
        obtain ⟨zs, n1, _, _, _, hzl, hfz⟩ := DataW.trod_struct Try.underlying23 f1
        obtain ⟨is, n2, _, _, _, his, hfi⟩ := DataW.trod_struct Try.underlying25 f2
        match zs, hzl, is, his with
        | [z0, z1, z2], _, [i0, i1], _ =>
          have g0 := hfz 0 _ rfl
          have g1 := hfz 1 _ rfl
          have g2 := hfz 2 _ rfl
          have g3 := hfi 0 _ rfl
          have g4 := hfi 1 _ rfl
          obtain ⟨kk, a1, _⟩ := int_field Try.underlying3 g0 hc1 rfl
          obtain ⟨cc, a2, _⟩ := int_field Try.underlying3 g1 hc1 rfl
          obtain ⟨ff, a3, _⟩ := int_field Try.underlying3 g2 hc1 rfl
          obtain ⟨mm, a4, _⟩ := int_field Try.underlying3 g3 hc1 rfl
          obtain ⟨ss, a5, _⟩ := int_field Try.underlying3 g4 hc1 rfl
          have b1 := sub_field a1
          have b2 := sub_field a2
          have b3 := sub_field a3
          have b4 := sub_field a4
          have b5 := sub_field a5
          refine ⟨⟨kd, kk, cc, ff, mm, ss, aa, bb, ii, uu, rr⟩, ?_, ?_, ?_, ?_, ?_, ?_, ?_, ?_, ?_, ?_, ?_, u64_wf wu⟩
          · simpa [add_add] using (hat 0 (by omega)).trans a0
          · simpa [add_add] using (hat 1 (by omega)).trans b1
          · simpa [add_add] using (hat 2 (by omega)).trans b2
          · simpa [add_add] using (hat 3 (by omega)).trans b3
          · simpa [add_add] using (hat 4 (by omega)).trans b4
          · simpa [add_add] using (hat 5 (by omega)).trans b5
          · simpa [add_add] using (hat 6 (by omega)).trans a6
          · simpa [add_add] using (hat 7 (by omega)).trans a7
          · simpa [add_add] using (hat 8 (by omega)).trans a8
          · simpa [add_add] using (hat 9 (by omega)).trans a9
          · simpa [add_add] using (hat 10 (by omega)).trans a10
    obtain ⟨l, hll, hlp⟩ := list_of len key
    refine ⟨some x, l, _, by rw [hll], by omega, by unfold maxLen at hm; exact hm, ?_⟩
    by_cases h0 : len = 0
    · exact .inl (List.length_eq_zero_iff.1 (by omega))
    · have e0 := hlp 0 _ (List.getElem?_eq_getElem (by omega))
      obtain ⟨xb, xo, xs⟩ := x
      have hspot : xs = none := by simpa [Addr.add] using World.cell?_spot e0.1
      subst hspot
      refine .inr ⟨xb, xo, rfl, by simpa [Addr.add] using World.block_lt_of_cell? W _ e0.1, fun i o ho => ?_⟩
      have hq := hlp i o ho
      rw [Addr.add_lit] at hq
      exact hq
theorem OpAt.below {w w' : World} {x : Addr} {o : Op7} (h : OpAt w x o) (hb : Below w.heap.size w w') : OpAt w' x o := by
  obtain ⟨c0, c1, c2, c3, c4, c5, c6, c7, c8, c9, c10, hu⟩ := h
  exact ⟨bcellv hb c0, bcellv hb c1, bcellv hb c2, bcellv hb c3, bcellv hb c4, bcellv hb c5, bcellv hb c6, bcellv hb c7, bcellv hb c8, bcellv hb c9, bcellv hb c10, hu⟩
theorem Ops7.below {w w' : World} {a : Option Addr} {l : List Op7} (h : Ops7 w a l) (hb : Below w.heap.size w w') : Ops7 w' a l := by
  rcases h with h | ⟨b, off, rfl, hb', h⟩
  · exact .inl h
  · exact .inr ⟨b, off, rfl, Nat.lt_of_lt_of_le hb' hb.size, fun i o ho => (h i o ho).below hb⟩
theorem Ops7.get {w : World} {a : Option Addr} {l : List Op7} (h : Ops7 w a l) (i : Nat) (hi : i < l.length) : ∃ b off : Nat, a = some ⟨b, off, none⟩ ∧ b < w.heap.size ∧ OpAt w ⟨b, off + i * 11, none⟩ l[i] := by
  rcases h with h | ⟨b, off, e, hb, h⟩
  · rw [h] at hi; simp at hi
  · exact ⟨b, off, e, hb, h i _ (List.getElem?_eq_getElem hi)⟩
end Go.Proofs.Ytcmhgjkijegpnaa
namespace Go.Proofs.Ytcmhgjkijegpnaa
open Go.RowKit
set_option linter.unusedSimpArgs false
set_option linter.unusedVariables false

/-- The addresses that a world keeps: they lie in a row. -/
def LstAt (w : World) (A : Option Addr) (l : List Int) : Prop := ∀ i x, l[i]? = some x → ∃ G, A = some ⟨G, 0, none⟩ ∧ w.cell? ⟨G, i, none⟩ = some (.int .i64 x)
theorem LstAt.below {w w' : World} {A : Option Addr} {l : List Int} (h : LstAt w A l) (hb : Below w.heap.size w w') : LstAt w' A l := fun i x hx => by
  obtain ⟨G, e, hc⟩ := h i x hx
  exact ⟨G, e, bcellv hb hc⟩
/-- The address that an operation chooses. -/
def atW (raw : Bool) (l : List Int) (n : Int) : Int := if raw then n else if l = [] ∨ n < 0 then 0 else l.getD (n.toNat % l.length) 0
set_option maxRecDepth 100000 in
set_option maxHeartbeats 1000000 in
theorem wat_raw {w : World} (v0 v1 v2 v3 v4 v5 v6 v7 : Value) (kd k c f m s a b i u : Int) (A : Option Addr) (len cap : Nat) (n : Int)  :
    Calls Try.prog 21 #[.agg #[v0, v1, v2, v3, v4, v5, v6, v7, .slice A len cap], .agg #[.int .i64 kd, .int .i64 k, .int .i64 c, .int .i64 f, .int .i64 m, .int .i64 s, .int .i64 a, .int .i64 b, .int .i64 i, .int .u64 u, .bool true], .int .i64 n] w (fun e w' => e = .returned (.int .i64 n) ∧ Below w.heap.size w w') := by
  have hw0 : Below w.heap.size w w := Below.refl _ _
  go_enter Try.func21, Try.ntmps21
  go_wp2
  go_ret
  exact ⟨rfl, by (repeat (first | exact Below.refl _ _ | assumption | refine Below.drew ?_ | refine below_drewN ?_ _ | refine balloc ?_ _ | refine Below.setCell ?_ (by first | (simp; done) | (simp; omega) | omega) _ | refine bchain (by assumption) ?_))⟩
set_option maxRecDepth 100000 in
set_option maxHeartbeats 1000000 in
theorem wat_nil {w : World} (v0 v1 v2 v3 v4 v5 v6 v7 : Value) (kd k c f m s a b i u : Int) (A : Option Addr) (cap : Nat) (n : Int)  :
    Calls Try.prog 21 #[.agg #[v0, v1, v2, v3, v4, v5, v6, v7, .slice A 0 cap], .agg #[.int .i64 kd, .int .i64 k, .int .i64 c, .int .i64 f, .int .i64 m, .int .i64 s, .int .i64 a, .int .i64 b, .int .i64 i, .int .u64 u, .bool false], .int .i64 n] w (fun e w' => e = .returned (.int .i64 0) ∧ Below w.heap.size w w') := by
  have hw0 : Below w.heap.size w w := Below.refl _ _
  go_enter Try.func21, Try.ntmps21
  go_wp2
  go_ret
  exact ⟨rfl, by (repeat (first | exact Below.refl _ _ | assumption | refine Below.drew ?_ | refine below_drewN ?_ _ | refine balloc ?_ _ | refine Below.setCell ?_ (by first | (simp; done) | (simp; omega) | omega) _ | refine bchain (by assumption) ?_))⟩
set_option maxRecDepth 100000 in
set_option maxHeartbeats 1000000 in
theorem wat_neg {w : World} (v0 v1 v2 v3 v4 v5 v6 v7 : Value) (kd k c f m s a b i u : Int) (A : Option Addr) (len cap : Nat) (n : Int) (hl : 0 < len) (hn : n < 0) :
    Calls Try.prog 21 #[.agg #[v0, v1, v2, v3, v4, v5, v6, v7, .slice A len cap], .agg #[.int .i64 kd, .int .i64 k, .int .i64 c, .int .i64 f, .int .i64 m, .int .i64 s, .int .i64 a, .int .i64 b, .int .i64 i, .int .u64 u, .bool false], .int .i64 n] w (fun e w' => e = .returned (.int .i64 0) ∧ Below w.heap.size w w') := by
  have h1 : decide (n < 0) = true := by simpa using hn
  have h2 : ((len : Int) == 0) = false := by simp; omega
  have hw0 : Below w.heap.size w w := Below.refl _ _
  go_enter Try.func21, Try.ntmps21
  go_wp2
  go_ret
  exact ⟨rfl, by (repeat (first | exact Below.refl _ _ | assumption | refine Below.drew ?_ | refine below_drewN ?_ _ | refine balloc ?_ _ | refine Below.setCell ?_ (by first | (simp; done) | (simp; omega) | omega) _ | refine bchain (by assumption) ?_))⟩
set_option maxRecDepth 100000 in
set_option maxHeartbeats 1000000 in
theorem wat_get {w : World} (v0 v1 v2 v3 v4 v5 v6 v7 : Value) (kd k c f m s a b i u : Int) (G : Nat) (len cap : Nat) (n x : Int) (hl : 0 < len) (hn : 0 ≤ n) (hlc : len ≤ cap) (hc63 : cap ≤ 9223372036854775807) (hx : w.cell? ⟨G, n.toNat % len, none⟩ = some (.int .i64 x)) :
    Calls Try.prog 21 #[.agg #[v0, v1, v2, v3, v4, v5, v6, v7, .slice (some ⟨G, 0, none⟩) len cap], .agg #[.int .i64 kd, .int .i64 k, .int .i64 c, .int .i64 f, .int .i64 m, .int .i64 s, .int .i64 a, .int .i64 b, .int .i64 i, .int .u64 u, .bool false], .int .i64 n] w (fun e w' => e = .returned (.int .i64 x) ∧ Below w.heap.size w w') := by
  have h1 : decide (n < 0) = false := by simpa using hn
  have h2 : ((len : Int) == 0) = false := by simp; omega
  have hl0 : (len : Int) ≠ 0 := by omega
  have hl00 : len ≠ 0 := by omega
  have hl01 : (len == 0) = false := by simpa using hl00
  obtain ⟨q, hq⟩ : ∃ q, n.tmod (len : Int) = q := ⟨_, rfl⟩
  have hqe : q = n % (len : Int) := by rw [← hq, Int.tmod_eq_emod_of_nonneg hn]
  have hq0 : 0 ≤ q := by rw [hqe]; exact Int.emod_nonneg _ hl0
  have hq1 : q < (len : Int) := by rw [hqe]; exact Int.emod_lt_of_pos _ (by omega)
  have hq2 : q.toNat = n.toNat % len := by
    rw [hqe]
    obtain ⟨N, rfl⟩ := Int.eq_ofNat_of_zero_le hn
    rw [Int.toNat_natCast, ← Int.natCast_emod, Int.toNat_natCast]
  rw [← hq2] at hx
  have hqw : IntKind.i64.wrap q = q := IntWalk.i64_in _ (by omega)
  clear hqe hq2
  have hw0 : Below w.heap.size w w := Below.refl _ _
  go_enter Try.func21, Try.ntmps21
  have hx2 := bcellv (balloc (balloc (Below.refl w.heap.size w) (.cells #[v0, v1, v2, v3, v4, v5, v6, v7, .slice (some ⟨G, 0, none⟩) len cap] 47)) (.cells #[.int .i64 kd, .int .i64 k, .int .i64 c, .int .i64 f, .int .i64 m, .int .i64 s, .int .i64 a, .int .i64 b, .int .i64 i, .int .u64 u, .bool false] 58)) hx
  go_wp2_with fail
  go_quiet (fail)
  go_wp2
  go_ret
  exact ⟨rfl, by (repeat (first | exact Below.refl _ _ | assumption | refine Below.drew ?_ | refine below_drewN ?_ _ | refine balloc ?_ _ | refine Below.setCell ?_ (by first | (simp; done) | (simp; omega) | omega) _ | refine bchain (by assumption) ?_))⟩
theorem wat_any {w : World} (v0 v1 v2 v3 v4 v5 v6 v7 : Value) (kd k c f m s a b i u : Int) (raw : Bool) (A : Option Addr) (l : List Int) (cap : Nat) (n : Int) (hL : LstAt w A l) (hlc : l.length ≤ cap) (hc63 : cap ≤ 9223372036854775807) : Calls Try.prog 21 #[.agg #[v0, v1, v2, v3, v4, v5, v6, v7, .slice A l.length cap], .agg #[.int .i64 kd, .int .i64 k, .int .i64 c, .int .i64 f, .int .i64 m, .int .i64 s, .int .i64 a, .int .i64 b, .int .i64 i, .int .u64 u, .bool raw], .int .i64 n] w fun e w' => e = .returned (.int .i64 (atW raw l n)) ∧ Below w.heap.size w w' := by
  unfold atW
  cases raw
  · rw [if_neg (by decide)]
    by_cases h0 : l = []
    · subst h0
      rw [if_pos (.inl rfl)]
      exact wat_nil v0 v1 v2 v3 v4 v5 v6 v7 kd k c f m s a b i u A cap n
    · have hp : 0 < l.length := List.length_pos_iff.2 h0
      by_cases hn : n < 0
      · rw [if_pos (.inr hn)]
        exact wat_neg v0 v1 v2 v3 v4 v5 v6 v7 kd k c f m s a b i u A l.length cap n hp hn
      · rw [if_neg (fun h => h.elim h0 hn)]
        have hlt := Nat.mod_lt n.toNat hp
        obtain ⟨G, rfl, hc⟩ := hL (n.toNat % l.length) _ (List.getElem?_eq_getElem hlt)
        rw [List.getD_eq_getElem?_getD, List.getElem?_eq_getElem hlt]
        exact wat_get v0 v1 v2 v3 v4 v5 v6 v7 kd k c f m s a b i u G l.length cap n _ hp (by omega) hlc hc63 hc
  · rw [if_pos rfl]
    exact wat_raw v0 v1 v2 v3 v4 v5 v6 v7 kd k c f m s a b i u A l.length cap n
end Go.Proofs.Ytcmhgjkijegpnaa
namespace Go.Proofs.Ytcmhgjkijegpnaa
open Go.RowKit
set_option linter.unusedSimpArgs false
set_option linter.unusedVariables false

def ixA (wo : List Int) (a : Int) : Int := if 16777216 ≤ a then (wo.length : Int) + a - 16777216 else a
set_option maxRecDepth 100000 in
set_option maxHeartbeats 1000000 in
theorem index_lo {w : World} {bO bY : Nat} {lo ly : Int} {wo wy : List Int} {gO gY : Option Nat} (hm : MemAt w bO bY lo ly wo wy gO gY) (a : Int) (h : a < 16777216) :
    Calls Try.prog 28 #[.agg #[.pointer (some ⟨bO, 0, none⟩), .pointer (some ⟨bY, 0, none⟩)], .int .i64 a] w (fun e w' => e = .returned (.int .i64 a) ∧ Below w.heap.size w w') := by
  have hw0 : Below w.heap.size w w := Below.refl _ _
  go_enter Try.func28, Try.ntmps28
  go_wp2
  go_ret
  exact ⟨rfl, by (repeat (first | exact Below.refl _ _ | assumption | refine Below.drew ?_ | refine below_drewN ?_ _ | refine balloc ?_ _ | refine Below.setCell ?_ (by first | (simp; done) | (simp; omega) | omega) _ | refine bchain (by assumption) ?_))⟩
set_option maxRecDepth 100000 in
set_option maxHeartbeats 1000000 in
theorem index_hi {w : World} {bO bY : Nat} {lo ly : Int} {wo wy : List Int} {gO gY : Option Nat} (hm : MemAt w bO bY lo ly wo wy gO gY) (a : Int) (h : 16777216 ≤ a) (h2 : a ≤ 1099511627776) :
    Calls Try.prog 28 #[.agg #[.pointer (some ⟨bO, 0, none⟩), .pointer (some ⟨bY, 0, none⟩)], .int .i64 a] w (fun e w' => e = .returned (.int .i64 ((wo.length : Int) + a - 16777216)) ∧ Below w.heap.size w w') := by
  have hT := fun W (H : Below w.heap.size w W) => top_any (hm.below H).old hm.okO
  have h3 := hm.okO.top
  have h4 := hm.okO.lm1
  rw [show (0 : Int) + wo.length = wo.length by omega] at hT h3
  have h5 : 0 ≤ (wo.length : Int) := by omega
  generalize (wo.length : Int) = N at *
  have hw0 : Below w.heap.size w w := Below.refl _ _
  go_enter Try.func28, Try.ntmps28
  go_wp2_with fail
  refine (hT _ (by (repeat (first | exact Below.refl _ _ | assumption | refine Below.drew ?_ | refine below_drewN ?_ _ | refine balloc ?_ _ | refine Below.setCell ?_ (by first | (simp; done) | (simp; omega) | omega) _ | refine bchain (by assumption) ?_)))).mono ?_
  rintro e w1 ⟨rfl, hb1⟩
  have hB1 : Below w.heap.size w w1 := by (repeat (first | exact Below.refl _ _ | assumption | refine Below.drew ?_ | refine below_drewN ?_ _ | refine balloc ?_ _ | refine Below.setCell ?_ (by first | (simp; done) | (simp; omega) | omega) _ | refine bchain (by assumption) ?_))
  have k0 : w1.heap[w.heap.size]? = some (.cells #[.pointer (some ⟨bO, 0, none⟩), .pointer (some ⟨bY, 0, none⟩)] 29 (0, 0)) := bblock hb1 (by repeat (first | exact alloc_at _ (by simp) | refine alloc_lt _ ?_))
  have hw1 := bchain hB1 hw0
  have hp1 : w.heap.size + 1 ≤ w1.heap.size := by have := (Array.getElem?_eq_some_iff.1 k0).1; omega
  have hz_k0 : w.heap.size < w1.heap.size := (Array.getElem?_eq_some_iff.1 k0).1
  clear hB1
  have k0_0 : w1.cell? ⟨w.heap.size, 0, none⟩ = some (.pointer (some ⟨bO, 0, none⟩)) := by rw [cell_of_block k0]; rfl
  have k0_1 : w1.cell? ⟨w.heap.size, 1, none⟩ = some (.pointer (some ⟨bY, 0, none⟩)) := by rw [cell_of_block k0]; rfl
  go_wp2
  go_ret
  exact ⟨rfl, by (repeat (first | exact Below.refl _ _ | assumption | refine Below.drew ?_ | refine below_drewN ?_ _ | refine balloc ?_ _ | refine Below.setCell ?_ (by first | (simp; done) | (simp; omega) | omega) _ | refine bchain (by assumption) ?_))⟩
theorem index_any {w : World} {bO bY : Nat} {lo ly : Int} {wo wy : List Int} {gO gY : Option Nat} (hm : MemAt w bO bY lo ly wo wy gO gY) (a : Int) (h2 : a ≤ 1099511627776) : Calls Try.prog 28 #[.agg #[.pointer (some ⟨bO, 0, none⟩), .pointer (some ⟨bY, 0, none⟩)], .int .i64 a] w fun e w' => e = .returned (.int .i64 (ixA wo a)) ∧ Below w.heap.size w w' := by
  unfold ixA
  by_cases h : 16777216 ≤ a
  · rw [if_pos h]; exact index_hi hm a h h2
  · rw [if_neg h]; exact index_lo hm a (by omega)
end Go.Proofs.Ytcmhgjkijegpnaa
namespace Go.Proofs.Ytcmhgjkijegpnaa
open Go.RowKit
set_option linter.unusedSimpArgs false
set_option linter.unusedVariables false

/-- A slice of integers: its cells. -/
def WrdsV (w : World) (v : Value) (xs : List Int) : Prop :=
  ∃ (a : Option Addr) (cap : Nat), v = .slice a xs.length cap ∧ xs.length ≤ cap ∧ cap ≤ 9223372036854775807 ∧ (xs = [] ∨ ∃ b off : Nat, a = some ⟨b, off, none⟩ ∧ ∀ i x, xs[i]? = some x → w.cell? ⟨b, off + i, none⟩ = some (.int .u64 x))
theorem WrdsV.below {w w' : World} {v : Value} {xs : List Int} (h : WrdsV w v xs) (hb : Below w.heap.size w w') : WrdsV w' v xs := by
  obtain ⟨a, cap, hv, h1, h2, h3⟩ := h
  refine ⟨a, cap, hv, h1, h2, ?_⟩
  rcases h3 with h3 | ⟨b, off, ha, h3⟩
  · exact .inl h3
  · exact .inr ⟨b, off, ha, fun i x hx => bcellv hb (h3 i x hx)⟩
theorem WrdsV.of_row {w : World} {B : Nat} {v : Value} {xs : List Int} (h : w.ownsRow B 56 1 v xs.length (xs.map (Value.int .u64))) : WrdsV w v xs := by
  obtain ⟨h1, h2⟩ := h
  rcases h2 with ⟨rfl, h0⟩ | ⟨g, cap, cur, rfl, _, hh, hn, hm, hs, ht⟩
  · have : xs = [] := List.length_eq_zero_iff.1 h0
    subst this
    exact ⟨none, 0, rfl, Nat.le_refl _, by omega, .inl rfl⟩
  · refine ⟨_, cap, rfl, hn, hm, .inr ⟨g, 0, rfl, fun i x hx => ?_⟩⟩
    rw [Nat.zero_add, cell_of_block hh]
    have hi : i < xs.length := (List.getElem?_eq_some_iff.1 hx).1
    have e : (cur.toList.take (xs.length * 1))[i]? = (xs.map (Value.int .u64))[i]? := by rw [ht]
    rw [List.getElem?_take_of_lt (by omega)] at e
    rw [← Array.getElem?_toList, e, List.getElem?_map, hx]
    rfl
theorem ret_boolW {a b : Bool} (h : a = b) : Ending.returned (.bool a) = Ending.returned (.bool b) := by rw [h]
theorem pre_eqW {xs ys : List Int} {t : Nat} (h : ∀ i, i < t → xs[i]? = ys[i]?) (ht : t = xs.length) (hl : xs.length = ys.length) : xs = ys := by
  refine List.ext_getElem? fun i => ?_
  by_cases hi : i < t
  · exact h i hi
  · rw [List.getElem?_eq_none (by omega), List.getElem?_eq_none (by omega)]

set_option maxRecDepth 100000 in
set_option maxHeartbeats 1000000 in
theorem wrds_any {w : World} {v1 v2 : Value} {xs ys : List Int} (h1 : WrdsV w v1 xs) (h2 : WrdsV w v2 ys) :
    Calls Try.prog 25 #[v1, v2] w fun e w' => e = .returned (.bool (decide (xs = ys))) ∧ Below w.heap.size w w' := by
  obtain ⟨a1, c1, rfl, n1, m1, r1⟩ := h1
  obtain ⟨a2, c2, rfl, n2, m2, r2⟩ := h2
  by_cases hl : xs.length = ys.length
  · rw [← hl] at n2 ⊢
    obtain ⟨n, hn⟩ : ∃ n, n = xs.length := ⟨_, rfl⟩
    rw [← hn] at n1 n2 ⊢
    go_enter Try.func25, Try.ntmps25
    go_wp2
    go_loopw [5] (fun i wr => ∃ t : Nat, t ≤ n ∧ i = .int .i64 t ∧ (∀ j, j < t → xs[j]? = ys[j]?) ∧ Below w.heap.size w wr) (fun i _ => n - (intOf i).toNat)
    case atStart => exact ⟨0, Nat.zero_le _, rfl, fun j h => by omega, Below.refl _ _⟩
    case round =>
      obtain ⟨t, ht, rfl, hp, hbr⟩ := hrel
      by_cases hlt : t < n
      · rcases r1 with r1 | ⟨b1, o1, rfl, r1⟩
        · have h0 : xs.length = 0 := by rw [r1]; rfl
          omega
        rcases r2 with r2 | ⟨b2, o2, rfl, r2⟩
        · have h0 : ys.length = 0 := by rw [r2]; rfl
          omega
        obtain ⟨x, hx⟩ : ∃ x, xs[t]? = some x := ⟨_, List.getElem?_eq_getElem (by omega)⟩
        obtain ⟨y, hy⟩ : ∃ y, ys[t]? = some y := ⟨_, List.getElem?_eq_getElem (by omega)⟩
        have q1 : wr.cell? ⟨b1, o1 + t, none⟩ = some (.int .u64 x) := bcellv hbr (r1 t x hx)
        have q2 : wr.cell? ⟨b2, o2 + t, none⟩ = some (.int .u64 y) := bcellv hbr (r2 t y hy)
        have HX := Lib.hid hx
        have HY := Lib.hid hy
        have s1 : ((t : Int)).toNat = t := by omega
        clear r1 r2 hx hy
        by_cases hxy : x = y
        · have hb : (x != y) = false := by simp [hxy]
          go_wp2_with fail
          go_quiet (fail)
          go_wp2
          go_roundw
          case rel => exact ⟨t + 1, by omega, by go_num, fun j hj => by
            by_cases hjt : j = t
            · rw [hjt, HX.out, HY.out, hxy]
            · exact hp j (by omega), by (repeat (first | exact Below.refl _ _ | assumption | refine Below.drew ?_ | refine below_drewN ?_ _ | refine balloc ?_ _ | refine Below.setCell ?_ (by first | (simp; done) | (simp; omega) | omega) _ | refine bchain (by assumption) ?_))⟩
          case measure => simp [intOf]; omega
        · have hb : (x != y) = true := by simp [hxy]
          have hne : decide (xs = ys) = false := by
            rw [decide_eq_false_iff_not]
            intro h
            have h3 := HX.out
            rw [h, HY.out] at h3
            exact hxy (by cases h3; rfl)
          go_wp2_with fail
          go_quiet (fail)
          go_wp2
          go_ret
          exact ⟨ret_boolW hne.symm, by (repeat (first | exact Below.refl _ _ | assumption | refine Below.drew ?_ | refine below_drewN ?_ _ | refine balloc ?_ _ | refine Below.setCell ?_ (by first | (simp; done) | (simp; omega) | omega) _ | refine bchain (by assumption) ?_))⟩
      · have htn : t = n := by omega
        have he : decide (xs = ys) = true := by rw [decide_eq_true_iff]; exact pre_eqW hp (htn.trans hn) hl
        go_wp2
        go_ret
        exact ⟨ret_boolW he.symm, by (repeat (first | exact Below.refl _ _ | assumption | refine Below.drew ?_ | refine below_drewN ?_ _ | refine balloc ?_ _ | refine Below.setCell ?_ (by first | (simp; done) | (simp; omega) | omega) _ | refine bchain (by assumption) ?_))⟩
  · have he : decide (xs = ys) = false := by
      rw [decide_eq_false_iff_not]
      intro h
      exact hl (by rw [h])
    rw [he]
    clear r1 r2 he
    generalize xs.length = n at *
    generalize ys.length = m at *
    go_enter Try.func25, Try.ntmps25
    go_wp2
    go_ret
    exact ⟨rfl, by (repeat (first | exact Below.refl _ _ | assumption | refine Below.drew ?_ | refine below_drewN ?_ _ | refine balloc ?_ _ | refine Below.setCell ?_ (by first | (simp; done) | (simp; omega) | omega) _ | refine bchain (by assumption) ?_))⟩
end Go.Proofs.Ytcmhgjkijegpnaa
namespace Go.Proofs.Ytcmhgjkijegpnaa
open Go.RowKit
set_option linter.unusedSimpArgs false
set_option linter.unusedVariables false

/-- The words of both spaces, and the addresses that were allocated. -/
structure S7 where
  wo : List Int
  wy : List Int
  l : List Int
/-- One operation. -/
def step7 (lo ly : Int) (x : S7) (o : Op7) : S7 :=
  let a := atW o.raw x.l o.a
  if o.kd = 0 ∨ o.kd = 1 then
    ⟨amO lo x.wo (o.kd == 1) o.k o.c o.f o.m o.s, amY ly x.wy (o.kd == 1) o.k o.c o.f o.m o.s, if amE lo ly x.wo x.wy (o.kd == 1) o.k o.c o.f o.m o.s = 0 then x.l ++ [amA lo ly x.wo x.wy (o.kd == 1) o.k o.c o.f o.m o.s] else x.l⟩
  else if o.kd = 2 then ⟨sfO x.wo x.wy a o.i o.u, sfY x.wo x.wy a o.i o.u, x.l⟩
  else if o.kd = 3 then ⟨(tsM x.wo x.wy a o.i o.u).1, (tsM x.wo x.wy a o.i o.u).2, x.l⟩
  else if o.kd = 4 then ⟨(rrM x.wo x.wy a o.i o.u).1, (rrM x.wo x.wy a o.i o.u).2, x.l⟩
  else if o.kd = 5 then ⟨(tfM x.wo x.wy a (atW o.raw x.l o.b)).1, (tfM x.wo x.wy a (atW o.raw x.l o.b)).2, x.l⟩
  else if o.kd = 6 then ⟨stO x.wo a o.u, stY x.wy a o.u, x.l⟩
  else x
/-- Is an operation passed over? -/
def skip7 (raw : Bool) (o : Op7) : Bool := !raw && (o.raw || o.kd == 6 || (decide (o.kd < 2) && o.k == 4))
/-- All of them. -/
def run7 (lo ly : Int) (raw : Bool) (x : S7) (ops : List Op7) : S7 := ops.foldl (fun x o => if skip7 raw o then x else step7 lo ly x o) x
/-- What a world of law 07 holds: the memory, the reference with the same words, the list in a row of its own. Whatever is written lies at n0 or behind. -/
structure WIn (w : World) (n0 bO bY : Nat) (lo ly : Int) (x : S7) (aO : Option Addr) (nO cO : Nat) (aY : Option Addr) (nY cY : Nat) (lv : Value) (gO gY rO rY : Option Nat) : Prop where
  mem : MemAt w bO bY lo ly x.wo x.wy gO gY
  ref : RMem w aO nO cO aY nY cY lo ly x.wo x.wy rO rY
  lst : w.ownsRow n0 3 1 lv x.l.length (x.l.map (Value.int .i64))
  ms : ∀ k, MS bO bY gO gY k → n0 ≤ k
  rr : ∀ G, rO = some G ∨ rY = some G ∨ lv.ownBlock = some G → ¬ MS bO bY gO gY G
  rl : ∀ G, lv.ownBlock = some G → rO ≠ some G ∧ rY ≠ some G
theorem row_lt {w : World} {n0 : Nat} {e : TypeId} {sz : Nat} {v : Value} {n : Nat} {xs : List Value} (h : w.ownsRow n0 e sz v n xs) : ∀ G, v.ownBlock = some G → G < w.heap.size ∧ n0 ≤ G := by
  intro G hG
  obtain ⟨_, h2⟩ := h
  rcases h2 with ⟨rfl, _⟩ | ⟨g, cap, cur, rfl, hb, hh, _⟩
  · cases hG
  · simp only [Value.ownBlock, Option.some.injEq] at hG
    subst hG
    exact ⟨(Array.getElem?_eq_some_iff.1 hh).1, hb⟩
theorem row_keep {w w' : World} {n0 : Nat} {e : TypeId} {sz : Nat} {v : Value} {n : Nat} {xs : List Value} (h : w.ownsRow n0 e sz v n xs) (hk : ∀ G o, v.ownBlock = some G → w.heap[G]? = some o → w'.heap[G]? = some o) : w'.ownsRow n0 e sz v n xs := by
  obtain ⟨h1, h2⟩ := h
  refine ⟨h1, ?_⟩
  rcases h2 with h2 | ⟨g, cap, cur, rfl, hb, hh, h3⟩
  · exact .inl h2
  · exact .inr ⟨g, cap, cur, rfl, hb, hk g _ rfl hh, h3⟩
theorem lst_of_row {w : World} {n0 : Nat} {lv : Value} {l : List Int} (h : w.ownsRow n0 3 1 lv l.length (l.map (Value.int .i64))) : ∃ (A : Option Addr) (cap : Nat), lv = .slice A l.length cap ∧ LstAt w A l ∧ l.length ≤ cap ∧ cap ≤ 9223372036854775807 := by
  obtain ⟨h1, h2⟩ := h
  rcases h2 with ⟨rfl, h0⟩ | ⟨g, cap, cur, rfl, _, hh, hn, hm, hs, ht⟩
  · have : l = [] := List.length_eq_zero_iff.1 h0
    subst this
    exact ⟨none, 0, rfl, fun i x hx => by simp at hx, by simp, by omega⟩
  · refine ⟨some ⟨g, 0, none⟩, cap, rfl, fun i x hx => ⟨g, rfl, ?_⟩, hn, hm⟩
    have hi : i < l.length := (List.getElem?_eq_some_iff.1 hx).1
    rw [cell_of_block hh, ← Array.getElem?_toList]
    have e : (cur.toList.take (l.length * 1))[i]? = (l.map (Value.int .i64))[i]? := by rw [ht]
    rw [List.getElem?_take_of_lt (by omega)] at e
    rw [e]
    simp [hx]
/-- The cells of a world of law 07. -/
def wcs (bO bY : Nat) (lo ly : Int) (aO : Option Addr) (nO cO : Nat) (aY : Option Addr) (nY cY : Nat) (lv : Value) : Array Value := #[.pointer (some ⟨bO, 0, none⟩), .pointer (some ⟨bY, 0, none⟩), .int .i64 0, .int .i64 lo, .slice aO nO cO, .int .i64 16777216, .int .i64 ly, .slice aY nY cY, lv]
/-- A world of law 07 in block p. -/
def WAt (w : World) (n0 p : Nat) (lo ly : Int) (x : S7) : Prop :=
  ∃ (bO bY : Nat) (aO : Option Addr) (nO cO : Nat) (aY : Option Addr) (nY cY : Nat) (lv : Value) (gO gY rO rY : Option Nat), n0 ≤ p ∧ w.heap[p]? = some (.cells (wcs bO bY lo ly aO nO cO aY nY cY lv) 47 (0, 0)) ∧ WIn w n0 bO bY lo ly x aO nO cO aY nY cY lv gO gY rO rY ∧ ∀ G, MS bO bY gO gY G ∨ rO = some G ∨ rY = some G ∨ lv.ownBlock = some G → G ≠ p
theorem WIn.mods {S : Nat → Prop} {w w' : World} {n0 bO bY : Nat} {lo ly : Int} {x : S7} {aO : Option Addr} {nO cO : Nat} {aY : Option Addr} {nY cY : Nat} {lv : Value} {gO gY rO rY : Option Nat} (h : WIn w n0 bO bY lo ly x aO nO cO aY nY cY lv gO gY rO rY) (hM : Mods S w w') (hS : ∀ G, MS bO bY gO gY G ∨ rO = some G ∨ rY = some G ∨ lv.ownBlock = some G → ¬ S G) : WIn w' n0 bO bY lo ly x aO nO cO aY nY cY lv gO gY rO rY :=
  ⟨h.mem.mods hM (fun k hk => hS k (.inl hk)), ⟨h.ref.lO, h.ref.lY, h.ref.old.mods hM (fun G e => hS G (.inr (.inl e))), h.ref.yng.mods hM (fun G e => hS G (.inr (.inr (.inl e)))), h.ref.okO, h.ref.okY, h.ref.lim⟩, row_keep h.lst (fun G o e ho => mblock hM ho (hS G (.inr (.inr (.inr e))))), h.ms, h.rr, h.rl⟩
theorem WIn.below {w w' : World} {n0 bO bY : Nat} {lo ly : Int} {x : S7} {aO : Option Addr} {nO cO : Nat} {aY : Option Addr} {nY cY : Nat} {lv : Value} {gO gY rO rY : Option Nat} (h : WIn w n0 bO bY lo ly x aO nO cO aY nY cY lv gO gY rO rY) (hb : Below w.heap.size w w') : WIn w' n0 bO bY lo ly x aO nO cO aY nY cY lv gO gY rO rY :=
  h.mods (S := fun _ => False) (Mods.of_below hb) (fun _ _ h => h)
/-- The blocks of a world are there. -/
theorem WIn.lt {w : World} {n0 bO bY : Nat} {lo ly : Int} {x : S7} {aO : Option Addr} {nO cO : Nat} {aY : Option Addr} {nY cY : Nat} {lv : Value} {gO gY rO rY : Option Nat} (h : WIn w n0 bO bY lo ly x aO nO cO aY nY cY lv gO gY rO rY) : ∀ G, MS bO bY gO gY G ∨ rO = some G ∨ rY = some G ∨ lv.ownBlock = some G → G < w.heap.size := by
  rintro G (hG | hG | hG | hG)
  · by_cases hl : G < w.heap.size
    · exact hl
    · exact absurd hG (h.mem.fresh G (by omega))
  · exact h.ref.old.lt' G hG
  · exact h.ref.yng.lt' G hG
  · exact (row_lt h.lst G hG).1
/-- The reference was replaced by one in old rows or new ones, then the memory was written. -/
theorem WIn.next {w w1 w2 : World} {n0 bO bY : Nat} {lo ly : Int} {x : S7} {aO : Option Addr} {nO cO : Nat} {aY : Option Addr} {nY cY : Nat} {lv : Value} {gO gY rO rY : Option Nat} (h : WIn w n0 bO bY lo ly x aO nO cO aY nY cY lv gO gY rO rY) {wo' wy' : List Int} {aO' : Option Addr} {nO' cO' : Nat} {aY' : Option Addr} {nY' cY' : Nat} {gO' gY' rO' rY' : Option Nat} (hn : n0 ≤ w.heap.size)
    (hM : Mods (MS bO bY gO gY) w w1) (hm : MemAt w1 bO bY lo ly wo' wy' gO' gY') (hg : ∀ k, MS bO bY gO' gY' k → MS bO bY gO gY k ∨ w.heap.size ≤ k) (hr : RMem w1 aO' nO' cO' aY' nY' cY' lo ly wo' wy' rO' rY') (h1 : ∀ G, rO' = some G → rO = some G ∨ w.heap.size ≤ G) (h2 : ∀ G, rY' = some G → rY = some G ∨ w.heap.size ≤ G) (h3 : ∀ G, rO' = some G ∨ rY' = some G → MS bO bY gO' gY' G → MS bO bY gO gY G) (h4 : Mods (fun _ => False) w1 w2) : WIn w2 n0 bO bY lo ly ⟨wo', wy', x.l⟩ aO' nO' cO' aY' nY' cY' lv gO' gY' rO' rY' := by
  have hl := fun G e => h.lt G (.inr (.inr (.inr e)))
  have hfr := h.mem.fresh
  have h6 : ∀ G, rO' = some G ∨ rY' = some G ∨ lv.ownBlock = some G → ¬ MS bO bY gO' gY' G := by
    rintro G (e | e | e) hms
    · rcases h1 G e with e' | e'
      · exact h.rr G (.inl e') (h3 G (.inl e) hms)
      · exact hfr G e' (h3 G (.inl e) hms)
    · rcases h2 G e with e' | e'
      · exact h.rr G (.inr (.inl e')) (h3 G (.inr e) hms)
      · exact hfr G e' (h3 G (.inr e) hms)
    · rcases hg G hms with e' | e'
      · exact h.rr G (.inr (.inr e)) e'
      · have := hl G e; omega
  have hW : WIn w1 n0 bO bY lo ly ⟨wo', wy', x.l⟩ aO' nO' cO' aY' nY' cY' lv gO' gY' rO' rY' := ⟨hm, hr, row_keep h.lst (fun G o e ho => mblock hM ho (h.rr G (.inr (.inr e)))), fun k hk => (hg k hk).elim (h.ms k) (fun e => by omega), h6, fun G e => ⟨fun e' => by
    rcases h1 G e' with e2 | e2
    · exact (h.rl G e).1 e2
    · have := hl G e; omega, fun e' => by
    rcases h2 G e' with e2 | e2
    · exact (h.rl G e).2 e2
    · have := hl G e; omega⟩⟩
  exact hW.mods h4 (fun _ _ h => h)
end Go.Proofs.Ytcmhgjkijegpnaa
namespace Go.Proofs.Ytcmhgjkijegpnaa
open Go.RowKit
set_option linter.unusedSimpArgs false
set_option linter.unusedVariables false

theorem row_base7 {A : World} {N B : Nat} {e : TypeId} {sz : Nat} {v : Value} {n : Nat} {xs : List Value} (h : A.ownsRow N e sz v n xs) (hB : B ≤ N) : A.ownsRow B e sz v n xs := by
  obtain ⟨h1, h2⟩ := h
  refine ⟨h1, ?_⟩
  rcases h2 with h2 | ⟨g, cap, cur, e1, hb, h3⟩
  · exact .inl h2
  · exact .inr ⟨g, cap, cur, e1, by omega, h3⟩
theorem row_below7 {A B : World} {N : Nat} {e : TypeId} {sz : Nat} {v : Value} {n : Nat} {xs : List Value} (h : A.ownsRow N e sz v n xs) (hb : Below A.heap.size A B) : B.ownsRow N e sz v n xs := by
  obtain ⟨h1, h2⟩ := h
  refine ⟨h1, ?_⟩
  rcases h2 with h2 | ⟨g, cap, cur, e1, hb', hh, h3⟩
  · exact .inl h2
  · exact .inr ⟨g, cap, cur, e1, hb', bblock hb hh, h3⟩
theorem LD_old {wo wy : List Int} {t : Nat} (h : t < wo.length) (hl : (wo.length : Int) ≤ 16777216) : LD wo wy (t : Int) = wo.getD t 0 := by
  unfold LD bsA wsA
  rw [if_neg (by omega), if_neg (by omega)]
  have e : inB 0 wo.length (t : Int) = true := inB_iff.2 ⟨by omega, by omega⟩
  rw [ld_in e, show ((t : Int) - 0).toNat = t by omega]
theorem LD_yng {wo wy : List Int} {t : Nat} (h : t < wy.length) : LD wo wy (16777216 + (t : Int)) = wy.getD t 0 := by
  unfold LD bsA wsA
  rw [if_pos (by omega), if_pos (by omega)]
  have e : inB 16777216 wy.length (16777216 + (t : Int)) = true := inB_iff.2 ⟨by omega, by omega⟩
  rw [ld_in e, show (16777216 + (t : Int) - 16777216).toNat = t by omega]
theorem take_snoc {l : List Int} {t : Nat} (h : t < l.length) : l.take (t + 1) = l.take t ++ [l.getD t 0] := by
  rw [List.take_succ_eq_append_getElem h]
  simp [List.getD, h]
set_option maxRecDepth 100000 in
set_option maxHeartbeats 2000000 in
theorem words7_any {w : World} {bO bY : Nat} {lo ly : Int} {wo wy : List Int} {gO gY : Option Nat} (hm : MemAt w bO bY lo ly wo wy gO gY) :
    Calls Try.prog 19 #[.agg #[.pointer (some ⟨bO, 0, none⟩), .pointer (some ⟨bY, 0, none⟩)]] w fun e w' => ∃ v, e = .returned v ∧ WrdsV w' v (wo ++ wy) ∧ Below w.heap.size w w' := by
  obtain ⟨i0, hi, hz0, hz1, hz2⟩ := info_parts u64_info'
  have hml : maxLen = 9223372036854775807 := rfl
  have hbo := fun W (H : Below w.heap.size w W) => base_any (hm.below H).old
  have hby := fun W (H : Below w.heap.size w W) => base_any (hm.below H).yng
  have hto := fun W (H : Below w.heap.size w W) => top_any (hm.below H).old hm.okO
  have hty := fun W (H : Below w.heap.size w W) => top_any (hm.below H).yng hm.okY
  have hld := fun W (H : Below w.heap.size w W) (a : Int) => mload_any (hm.below H) a
  have l1 := hm.okO.top
  have l2 := hm.lim
  have l3 := hm.okY.top
  have l4 := hm.okY.lm1
  have l5 := hm.okO.lm1
  clear hm
  go_enter Try.func19, Try.ntmps19
  go_wp2_with fail
  have hr0 := World.ownsRow_made (w.alloc (.cells #[.pointer (some ⟨bO, 0, none⟩), .pointer (some ⟨bY, 0, none⟩)] 29)) (base := w.heap.size + 1) (e := 56) (size := 1) #[] 0 (by simp) (Nat.zero_le _) rfl
  rw [World.size_alloc] at hr0
  refine (hbo _ (by (repeat (first | exact Below.refl _ _ | assumption | refine Below.drew ?_ | refine below_drewN ?_ _ | refine balloc ?_ _ | refine Below.setCell ?_ (by first | (simp; done) | (simp; omega) | omega) _ | refine bchain (by assumption) ?_)))).mono ?_
  rintro e w1 ⟨rfl, hb1⟩
  have hr1 := row_below7 hr0 hb1
  have hB1 : Below w.heap.size w w1 := by (repeat (first | exact Below.refl _ _ | assumption | refine Below.drew ?_ | refine below_drewN ?_ _ | refine balloc ?_ _ | refine Below.setCell ?_ (by first | (simp; done) | (simp; omega) | omega) _ | refine bchain (by assumption) ?_))
  have k0 : w1.heap[w.heap.size]? = some (.cells #[.pointer (some ⟨bO, 0, none⟩), .pointer (some ⟨bY, 0, none⟩)] 29 (0, 0)) := bblock hb1 (by repeat (first | exact alloc_at _ (by simp) | refine alloc_lt _ ?_))
  clear hr0 hb1 hbo
  go_wp2_with fail
  go_loopw [3, 4] (fun p q wr => ∃ t : Nat, t ≤ wo.length ∧ q = .int .i64 (t : Int) ∧ wr.ownsRow (w.heap.size + 1) 56 1 p t ((wo.take t).map (Value.int .u64)) ∧ wr.heap[w.heap.size]? = some (.cells #[.pointer (some ⟨bO, 0, none⟩), .pointer (some ⟨bY, 0, none⟩)] 29 (0, 0)) ∧ Below w.heap.size w wr) (fun p q wr => 0 + wo.length - (intOf q).toNat)
  case atStart => exact ⟨0, Nat.zero_le _, rfl, by simpa using hr1, k0, hB1⟩
  case round =>
    clear hr1 hB1
    clear k0
    obtain ⟨t, ht, rfl, hown, k0, hbr⟩ := hrel
    have k0_0 : wr.cell? ⟨w.heap.size, 0, none⟩ = some (.pointer (some ⟨bO, 0, none⟩)) := by rw [cell_of_block k0]; rfl
    have k0_1 : wr.cell? ⟨w.heap.size, 1, none⟩ = some (.pointer (some ⟨bY, 0, none⟩)) := by rw [cell_of_block k0]; rfl
    go_wp2_with fail
    refine (hto _ hbr).mono ?_
    rintro e w2 ⟨rfl, hb2⟩
    have k0 := bblock hb2 k0
    have hown := row_below7 hown hb2
    have hB2 := bchain hb2 hbr
    clear k0_0 k0_1 hbr hb2
    have k0_0 : w2.cell? ⟨w.heap.size, 0, none⟩ = some (.pointer (some ⟨bO, 0, none⟩)) := by rw [cell_of_block k0]; rfl
    have k0_1 : w2.cell? ⟨w.heap.size, 1, none⟩ = some (.pointer (some ⟨bY, 0, none⟩)) := by rw [cell_of_block k0]; rfl
    by_cases hlt : t < wo.length
    · have hd : decide ((t : Int) < 0 + (wo.length : Int)) = true := by simpa using hlt
      have hl := hld w2 hB2 ((t : Int))
      rw [LD_old hlt (by omega)] at hl
      have hz_k0 : w.heap.size < w2.heap.size := (Array.getElem?_eq_some_iff.1 k0).1
      generalize hx : wo.getD t 0 = x at *
      have HX := Lib.hid hx
      clear hx
      have hw64 : IntKind.i64.wrap ((t : Int) + 1) = ((t + 1 : Nat) : Int) := by rw [show ((t : Int)) + 1 = ((t + 1 : Nat) : Int) by omega]; exact IntWalk.i64_in _ (by omega)
      go_wp2_with fail
      refine hl.mono ?_
      rintro e w3 ⟨rfl, hb3⟩
      have k0 := bblock hb3 k0
      have hown := row_below7 hown hb3
      have hB3 := bchain hb3 hB2
      clear k0_0 k0_1 hl hb3 hB2 hz_k0
      have k0_0 : w3.cell? ⟨w.heap.size, 0, none⟩ = some (.pointer (some ⟨bO, 0, none⟩)) := by rw [cell_of_block k0]; rfl
      have k0_1 : w3.cell? ⟨w.heap.size, 1, none⟩ = some (.pointer (some ⟨bY, 0, none⟩)) := by rw [cell_of_block k0]; rfl
      have hz_k0 : w.heap.size < w3.heap.size := (Array.getElem?_eq_some_iff.1 k0).1
      go_wp2_with (at_builtin; refine wpList_append_own _ rfl _ _ 31 rfl (w.heap.size + 1) 56 i0 (.int .u64 0) 1 8 Try.underlying31 hi hz0 hz1 hz2 rfl (by decide) _ _ _ rfl (hown.alloc _) ⟨w3.heap.size, 0, none⟩ 1 1 [.int .u64 x] rfl rfl (cell_one_new _ _ _) (by simp [Value.oneCell']) (by omega) (by omega) (by simp; omega) ?_; intro v' w4 hown' hgrow _)
      have hB4 : Below w.heap.size w w4 := (hB3.alloc (Nat.le_trans hB3.size (Nat.le_refl _)) _).grown hgrow (by simp; omega) (fun k e => by have := (hown.lt k e).1; omega)
      have k0 : w4.heap[w.heap.size]? = some (.cells #[.pointer (some ⟨bO, 0, none⟩), .pointer (some ⟨bY, 0, none⟩)] 29 (0, 0)) := (hgrow.block _ (by simp; omega) (fun e => by have := (hown.lt _ e.symm).1; omega)).trans (alloc_lt _ k0)
      go_wp2
      go_roundw
      case rel => exact ⟨t + 1, by omega, by go_num, by rw [take_snoc hlt, HX.out]; simpa only [List.map_append, List.map_cons, List.map_nil, List.append_assoc, Nat.add_assoc] using hown', k0, hB4⟩
      case measure => simp [intOf, hw64]; omega
    · have htl : t = wo.length := by omega
      subst htl
      have hd : decide ((wo.length : Int) < 0 + (wo.length : Int)) = false := by simp
      clear hlt
      rw [List.take_length] at hown
      have hz_k0 : w.heap.size < w2.heap.size := (Array.getElem?_eq_some_iff.1 k0).1
      go_wp2_with fail
      refine (hby _ hB2).mono ?_
      rintro e w5 ⟨rfl, hb5⟩
      have k0 := bblock hb5 k0
      have hr5 := row_below7 hown hb5
      have hB5 := bchain hb5 hB2
      clear k0_0 k0_1 hown hB2 hb5 hz_k0 hd hto hby
      go_wp2_with fail
      go_loopw [3, 7] (fun p q wr => ∃ t : Nat, t ≤ wy.length ∧ q = .int .i64 (16777216 + (t : Int)) ∧ wr.ownsRow (w.heap.size + 1) 56 1 p (wo.length + t) ((wo ++ wy.take t).map (Value.int .u64)) ∧ wr.heap[w.heap.size]? = some (.cells #[.pointer (some ⟨bO, 0, none⟩), .pointer (some ⟨bY, 0, none⟩)] 29 (0, 0)) ∧ Below w.heap.size w wr) (fun p q wr => 16777216 + wy.length - (intOf q).toNat)
      case atStart => exact ⟨0, Nat.zero_le _, by simp, by simpa using hr5, k0, hB5⟩
      case round =>
        clear hr5 hB5
        clear k0
        obtain ⟨t, ht, rfl, hown, k0, hbr⟩ := hrel
        have k0_0 : wr.cell? ⟨w.heap.size, 0, none⟩ = some (.pointer (some ⟨bO, 0, none⟩)) := by rw [cell_of_block k0]; rfl
        have k0_1 : wr.cell? ⟨w.heap.size, 1, none⟩ = some (.pointer (some ⟨bY, 0, none⟩)) := by rw [cell_of_block k0]; rfl
        go_wp2_with fail
        refine (hty _ hbr).mono ?_
        rintro e w2 ⟨rfl, hb2⟩
        have k0 := bblock hb2 k0
        have hown := row_below7 hown hb2
        have hB2 := bchain hb2 hbr
        clear k0_0 k0_1 hbr hb2
        have k0_0 : w2.cell? ⟨w.heap.size, 0, none⟩ = some (.pointer (some ⟨bO, 0, none⟩)) := by rw [cell_of_block k0]; rfl
        have k0_1 : w2.cell? ⟨w.heap.size, 1, none⟩ = some (.pointer (some ⟨bY, 0, none⟩)) := by rw [cell_of_block k0]; rfl
        by_cases hlt : t < wy.length
        · have hd : decide (16777216 + (t : Int) < 16777216 + (wy.length : Int)) = true := by simpa using hlt
          have hl := hld w2 hB2 (16777216 + (t : Int))
          rw [LD_yng hlt] at hl
          have hz_k0 : w.heap.size < w2.heap.size := (Array.getElem?_eq_some_iff.1 k0).1
          generalize hx : wy.getD t 0 = x at *
          have HX := Lib.hid hx
          clear hx
          have hw64 : IntKind.i64.wrap (16777216 + (t : Int) + 1) = 16777216 + ((t + 1 : Nat) : Int) := by rw [show (16777216 + (t : Int)) + 1 = 16777216 + ((t + 1 : Nat) : Int) by omega]; exact IntWalk.i64_in _ (by omega)
          go_wp2_with fail
          refine hl.mono ?_
          rintro e w3 ⟨rfl, hb3⟩
          have k0 := bblock hb3 k0
          have hown := row_below7 hown hb3
          have hB3 := bchain hb3 hB2
          clear k0_0 k0_1 hl hb3 hB2 hz_k0
          have k0_0 : w3.cell? ⟨w.heap.size, 0, none⟩ = some (.pointer (some ⟨bO, 0, none⟩)) := by rw [cell_of_block k0]; rfl
          have k0_1 : w3.cell? ⟨w.heap.size, 1, none⟩ = some (.pointer (some ⟨bY, 0, none⟩)) := by rw [cell_of_block k0]; rfl
          have hz_k0 : w.heap.size < w3.heap.size := (Array.getElem?_eq_some_iff.1 k0).1
          go_wp2_with (at_builtin; refine wpList_append_own _ rfl _ _ 31 rfl (w.heap.size + 1) 56 i0 (.int .u64 0) 1 8 Try.underlying31 hi hz0 hz1 hz2 rfl (by decide) _ _ _ rfl (hown.alloc _) ⟨w3.heap.size, 0, none⟩ 1 1 [.int .u64 x] rfl rfl (cell_one_new _ _ _) (by simp [Value.oneCell']) (by omega) (by omega) (by simp; omega) ?_; intro v' w4 hown' hgrow _)
          have hB4 : Below w.heap.size w w4 := (hB3.alloc (Nat.le_trans hB3.size (Nat.le_refl _)) _).grown hgrow (by simp; omega) (fun k e => by have := (hown.lt k e).1; omega)
          have k0 : w4.heap[w.heap.size]? = some (.cells #[.pointer (some ⟨bO, 0, none⟩), .pointer (some ⟨bY, 0, none⟩)] 29 (0, 0)) := (hgrow.block _ (by simp; omega) (fun e => by have := (hown.lt _ e.symm).1; omega)).trans (alloc_lt _ k0)
          go_wp2
          go_roundw
          case rel => exact ⟨t + 1, by omega, by go_num, by rw [take_snoc hlt, HX.out]; simpa only [List.map_append, List.map_cons, List.map_nil, List.append_assoc, Nat.add_assoc] using hown', k0, hB4⟩
          case measure => simp [intOf, hw64]; omega
        · have htl : t = wy.length := by omega
          subst htl
          have hd : decide (16777216 + (wy.length : Int) < 16777216 + (wy.length : Int)) = false := by simp
          clear hlt
          rw [List.take_length] at hown
          have hfin : WrdsV w2 _ (wo ++ wy) := WrdsV.of_row (by simpa using hown)
          go_wp2
          go_ret
          exact ⟨_, rfl, hfin, hB2⟩
end Go.Proofs.Ytcmhgjkijegpnaa
namespace Go.Proofs.Ytcmhgjkijegpnaa
open Go.RowKit
set_option linter.unusedSimpArgs false
set_option linter.unusedVariables false

theorem run_app_none {P : Program} {w : World} (base : Nat) (t ty e : TypeId) (i : TypeInfo) (size : Nat) (ht : P.underlying t = some (.slice e)) (hi : P.info? e = some i) {v : Value} {n : Nat} {xs : List Value} (hown : w.ownsRow base e size v n xs) :
    (Builtin.append_ #[t, t] ty #[v, .slice none 0 0]).run P w = .ok v w := by
  obtain ⟨_, h2⟩ := hown
  rcases h2 with ⟨rfl, rfl⟩ | ⟨g, cap, cur, rfl, _, _, hn, _⟩
  · simp [Builtin.append_, run_underlying ht, sizeOf, typeInfo, hi, Builtin.firstCells, Builtin.lenOf, storeCells]
  · simp [Builtin.append_, run_underlying ht, sizeOf, typeInfo, hi, Builtin.firstCells, Builtin.lenOf, storeCells, hn]
/-- Appending what lies elsewhere, or nothing, at a step of a region that draws. -/
theorem step_append_news {P : Program} {w : World} {ops : Array Oper} {o : Oper} {a : Act} {K : Act → World → Prop} {Q : Exit → Act → World → Prop} {E : Prop} (hgd : o.guard = none) (s x : Operand) (t : TypeId)
    (ho : o.op = .call { callee := .builtin .append, args := #[s, x], argTypes := #[t, t] })
    (base : Nat) (e : TypeId) (i : TypeInfo) (z : Value) (size bytes : Nat) (ht : P.underlying t = some (.slice e)) (hi : P.info? e = some i) (hz : i.zero = some z)
    (hsize : i.size = size) (hby : i.bytes = bytes) (hzs : z.cells.size = size) (hsz : 0 < size)
    (v : Value) (n : Nat) (xs : List Value) (hs : a.eval s = v) (hown : w.ownsRow base e size v n xs)
    (A : Option Addr) (m c : Nat) (news : List Value) (hx : a.eval x = .slice A m c) (hl : news.length = m * size) (hnews : NewsAt w A m c news) (h1 : ∀ u ∈ news, u.oneCell' = true)
    (h63 : n + m ≤ maxLen) (hbytes : (n + m) * bytes ≤ 140737488355328) (hbase : base ≤ w.heap.size)
    (h : ∀ v' w', w'.ownsRow base e size v' (n + m) (xs ++ news) → w.grownBy w' v.ownBlock → (v'.ownBlock = v.ownBlock ∨ v'.ownBlock = some w.heap.size) → K (a.put o.dst v') w') :
    if Region.wanted o (yielded ops a.tmps) = true then Oper.wp P o a w K Q else E := by
  have hw : Region.wanted o (yielded ops a.tmps) = true := by simp [Region.wanted, hgd]
  rw [if_pos hw]
  rcases hnews with ⟨rfl, rfl, rfl⟩ | ⟨ad, rfl, hn⟩
  · have h0 : news = [] := List.length_eq_zero_iff.1 (by omega)
    subst h0
    have hr := run_app_none (P := P) base t o.type e i size ht hi hown
    unfold Oper.wp execOp
    simp only [ho, resolve, invoke, builtin, Sem.run_bind, Sem.run_pure, Result.andThen_ok, List.map_toArray, List.map_cons, List.map_nil, hs, hx, hr]
    exact h v w (by simpa using hown) (grown_refl w _) (.inl rfl)
  · obtain ⟨v', w', hr, h2, h3, _, h5⟩ := run_append_own_at (P := P) w base t o.type e i z size bytes ht hi hz hsize hby hzs hsz v n xs hown ad m c news hl hn h1 h63 hbytes hbase
    unfold Oper.wp execOp
    simp only [ho, resolve, invoke, builtin, Sem.run_bind, Sem.run_pure, Result.andThen_ok, List.map_toArray, List.map_cons, List.map_nil, hs, hx, hr]
    exact h v' w' h2 h3 h5
theorem RowAt.all {w : World} {A : Option Addr} {cap : Nat} {ws : List Int} {g : Option Nat} (h : RowAt w A cap ws g) {n : Nat} (hn : ws.length = n) : NewsAt w A n cap (ws.map (Value.int .u64)) := by
  subst hn
  have := h.news (Nat.le_refl ws.length)
  rwa [List.take_length] at this
theorem row_app {w : World} {B : Nat} {e : TypeId} {sz : Nat} {v : Value} {n : Nat} {xs : List Value} (h : w.ownsRow B e sz v (0 + n) ([] ++ xs)) : w.ownsRow B e sz v n xs := by simpa using h
set_option maxRecDepth 100000 in
set_option maxHeartbeats 4000000 in
theorem same7_any {w : World} {bO bY : Nat} {lo ly : Int} {wo wy : List Int} {gO gY : Option Nat} {aO : Option Addr} {nO cO : Nat} {aY : Option Addr} {nY cY : Nat} {rO rY : Option Nat} (hm : MemAt w bO bY lo ly wo wy gO gY) (hr : RMem w aO nO cO aY nY cY lo ly wo wy rO rY) (lv : Value) :
    Calls Try.prog 45 #[.agg #[.pointer (some ⟨bO, 0, none⟩), .pointer (some ⟨bY, 0, none⟩), .int .i64 0, .int .i64 lo, .slice aO nO cO, .int .i64 16777216, .int .i64 ly, .slice aY nY cY, lv]] w fun e w' => e = .returned (.bool true) ∧ Below w.heap.size w w' := by
  obtain ⟨i0, hi, hz0, hz1, hz2⟩ := info_parts u64_info'
  have hml : maxLen = 9223372036854775807 := rfl
  have hwd := fun W (H : Below w.heap.size w W) => words7_any (hm.below H)
  have hnO := fun W (H : Below w.heap.size w W) => ((hr.below H).old.all hr.lO)
  have hnY := fun W (H : Below w.heap.size w W) => ((hr.below H).yng.all hr.lY)
  have q1 := hr.lO
  have q2 := hr.lY
  have l1 := hr.okO.top
  have l2 := hr.lim
  have l3 := hr.okY.top
  have l4 := hr.okY.lm1
  have e1 : (wo.map (Value.int .u64)).length = nO * 1 := by simp [q1]
  have e2 : (wy.map (Value.int .u64)).length = nY * 1 := by simp [q2]
  have n1 : nO ≤ 16777216 := by omega
  have n2 : nY ≤ 1099511627776 := by omega
  have f1 := u64_one wo
  have f2 := u64_one wy
  have q1 := Lib.hid q1
  have q2 := Lib.hid q2
  clear hm hr l1 l2 l3 l4
  go_enter Try.func45, Try.ntmps45
  go_wp2_with fail
  have k0 : (w.alloc (.cells #[.pointer (some ⟨bO, 0, none⟩), .pointer (some ⟨bY, 0, none⟩), .int .i64 0, .int .i64 lo, .slice aO nO cO, .int .i64 16777216, .int .i64 ly, .slice aY nY cY, lv] 47)).heap[w.heap.size]? = some (.cells #[.pointer (some ⟨bO, 0, none⟩), .pointer (some ⟨bY, 0, none⟩), .int .i64 0, .int .i64 lo, .slice aO nO cO, .int .i64 16777216, .int .i64 ly, .slice aY nY cY, lv] 47 (0, 0)) := alloc_get _ _
  obtain ⟨w1, hw1⟩ : ∃ w1, (w.alloc (.cells #[.pointer (some ⟨bO, 0, none⟩), .pointer (some ⟨bY, 0, none⟩), .int .i64 0, .int .i64 lo, .slice aO nO cO, .int .i64 16777216, .int .i64 ly, .slice aY nY cY, lv] 47)) = w1 := ⟨_, rfl⟩
  have hb1 : Below w.heap.size w w1 := by rw [← hw1]; exact balloc (Below.refl _ _) _
  have hsz1 : w1.heap.size = w.heap.size + 1 := by rw [← hw1]; simp
  rw [hw1] at k0 ⊢
  clear hw1
  have k0_0 : w1.cell? ⟨w.heap.size, 0, none⟩ = some (.pointer (some ⟨bO, 0, none⟩)) := by rw [cell_of_block k0]; rfl
  have k0_1 : w1.cell? ⟨w.heap.size, 1, none⟩ = some (.pointer (some ⟨bY, 0, none⟩)) := by rw [cell_of_block k0]; rfl
  have k0_2 : w1.cell? ⟨w.heap.size, 2, none⟩ = some (.int .i64 0) := by rw [cell_of_block k0]; rfl
  have k0_3 : w1.cell? ⟨w.heap.size, 3, none⟩ = some (.int .i64 lo) := by rw [cell_of_block k0]; rfl
  have k0_4 : w1.cell? ⟨w.heap.size, 4, none⟩ = some (.slice aO nO cO) := by rw [cell_of_block k0]; rfl
  have k0_5 : w1.cell? ⟨w.heap.size, 5, none⟩ = some (.int .i64 16777216) := by rw [cell_of_block k0]; rfl
  have k0_6 : w1.cell? ⟨w.heap.size, 6, none⟩ = some (.int .i64 ly) := by rw [cell_of_block k0]; rfl
  have k0_7 : w1.cell? ⟨w.heap.size, 7, none⟩ = some (.slice aY nY cY) := by rw [cell_of_block k0]; rfl
  have k0_8 : w1.cell? ⟨w.heap.size, 8, none⟩ = some (lv) := by rw [cell_of_block k0]; rfl
  have hr0 := World.ownsRow_made w1.drew (base := w.heap.size + 1) (e := 56) (size := 1) #[] 0 (by simp; omega) (Nat.zero_le _) rfl
  have hB0 : Below w.heap.size w (w1.drew.alloc (.cells #[] 56)) := by (repeat (first | exact Below.refl _ _ | assumption | refine Below.drew ?_ | refine below_drewN ?_ _ | refine balloc ?_ _ | refine Below.setCell ?_ (by first | (simp; done) | (simp; omega) | omega) _ | refine bchain (by assumption) ?_))
  rw [show w1.drew.heap.size = w.heap.size + 1 from hsz1] at hr0
  have hn0 := hnO _ hB0
  have kk4 := bcellv (balloc (Below.refl _ w1.drew) (.cells #[] 56)) (show w1.drew.cell? _ = _ from k0_4)
  have kk0 := bcellv (balloc (Below.refl _ w1.drew) (.cells #[] 56)) (show w1.drew.cell? _ = _ from k0_0)
  have kk1 := bcellv (balloc (Below.refl _ w1.drew) (.cells #[] 56)) (show w1.drew.cell? _ = _ from k0_1)
  have kk7 := bcellv (balloc (Below.refl _ w1.drew) (.cells #[] 56)) (show w1.drew.cell? _ = _ from k0_7)
  have key1 : ∀ w2, (w1.drew.alloc (.cells #[] 56)).grownBy w2 (some (w.heap.size + 1)) → Below w.heap.size w w2 ∧ w2.cell? ⟨w.heap.size, 0, none⟩ = some (.pointer (some ⟨bO, 0, none⟩)) ∧ w2.cell? ⟨w.heap.size, 1, none⟩ = some (.pointer (some ⟨bY, 0, none⟩)) ∧ w2.cell? ⟨w.heap.size, 4, none⟩ = some (.slice aO nO cO) ∧ w2.cell? ⟨w.heap.size, 7, none⟩ = some (.slice aY nY cY) := by
    intro w2 hg
    have hz : (w1.drew.alloc (.cells #[] 56)).heap.size = w.heap.size + 2 := by rw [World.size_alloc]; have : w1.drew.heap.size = w1.heap.size := rfl; omega
    refine ⟨hB0.grown hg (by omega) (fun k e => by cases e; omega), ?_, ?_, ?_, ?_⟩
    · exact (hg.cell_far ⟨w.heap.size, 0, none⟩ (by show w.heap.size < _; omega) (by simp)).trans kk0
    · exact (hg.cell_far ⟨w.heap.size, 1, none⟩ (by show w.heap.size < _; omega) (by simp)).trans kk1
    · exact (hg.cell_far ⟨w.heap.size, 4, none⟩ (by show w.heap.size < _; omega) (by simp)).trans kk4
    · exact (hg.cell_far ⟨w.heap.size, 7, none⟩ (by show w.heap.size < _; omega) (by simp)).trans kk7
  have key2 : ∀ w2, Below w.heap.size w w2 → ∀ (v : Value) (n : Nat) (xs : List Value), w2.ownsRow (w.heap.size + 1) 56 1 v n xs → w2.cell? ⟨w.heap.size, 0, none⟩ = some (.pointer (some ⟨bO, 0, none⟩)) → w2.cell? ⟨w.heap.size, 1, none⟩ = some (.pointer (some ⟨bY, 0, none⟩)) → w2.cell? ⟨w.heap.size, 4, none⟩ = some (.slice aO nO cO) → w2.cell? ⟨w.heap.size, 7, none⟩ = some (.slice aY nY cY) → ∀ w3, w2.grownBy w3 v.ownBlock → Below w.heap.size w w3 ∧ w3.cell? ⟨w.heap.size, 0, none⟩ = some (.pointer (some ⟨bO, 0, none⟩)) ∧ w3.cell? ⟨w.heap.size, 1, none⟩ = some (.pointer (some ⟨bY, 0, none⟩)) ∧ w3.cell? ⟨w.heap.size, 4, none⟩ = some (.slice aO nO cO) ∧ w3.cell? ⟨w.heap.size, 7, none⟩ = some (.slice aY nY cY) := by
    intro w2 hB v n xs ho c0 c1 c4 c7 w3 hg
    have hlt := World.block_lt_of_cell? w2 _ c0
    have hne : some w.heap.size ≠ v.ownBlock := fun e => by have := (ho.lt _ e.symm).1; omega
    refine ⟨hB.grown hg (Nat.le_of_lt hlt) (fun k e => by have := (ho.lt k e).1; omega), ?_, ?_, ?_, ?_⟩
    · exact (hg.cell_far ⟨w.heap.size, 0, none⟩ hlt hne).trans c0
    · exact (hg.cell_far ⟨w.heap.size, 1, none⟩ hlt hne).trans c1
    · exact (hg.cell_far ⟨w.heap.size, 4, none⟩ hlt hne).trans c4
    · exact (hg.cell_far ⟨w.heap.size, 7, none⟩ hlt hne).trans c7
  clear kk0 kk1 kk4 kk7
  go_region_held3 (fun w' => w'.cell? ⟨w.heap.size, 4, none⟩ = some (.slice aO nO cO) ∧ w'.cell? ⟨w.heap.size, 7, none⟩ = some (.slice aY nY cY)) (first | exact ⟨k0_4, k0_7⟩ | go_keep) (first
    | (refine step_append_news (by rfl) (.tmp 4) (.tmp 8) 31 (by rfl) (w.heap.size + 1) 56 i0 (.int .u64 0) 1 8 Try.underlying31 hi hz0 hz1 hz2 rfl (by decide) _ 0 [] (by rfl) hr0 aO nO cO (wo.map (Value.int .u64)) (by rfl) e1 hn0 f1 (by omega) (by omega) (by simp; omega) ?_; intro v2 w2 hown1 hg1 hat1; obtain ⟨hB1, k0_0, k0_1, k0_4, k0_7⟩ := key1 w2 hg1; have hown1 := row_app hown1)
    | (refine step_append_news (by rfl) (.tmp 9) (.tmp 13) 31 (by rfl) (w.heap.size + 1) 56 i0 (.int .u64 0) 1 8 Try.underlying31 hi hz0 hz1 hz2 rfl (by decide) v2 nO _ (by rfl) hown1 aY nY cY (wy.map (Value.int .u64)) (by rfl) e2 (hnY _ hB1) f2 (by omega) (by omega) (World.block_lt_of_cell? w2 _ k0_0) ?_; intro v3 w3 hown2 hg2 hat2; obtain ⟨hB2, k0_0, k0_1, k0_4, k0_7⟩ := key2 w2 hB1 v2 _ _ hown1 k0_0 k0_1 k0_4 k0_7 w3 hg2))
  have iv2 : WrdsV w3 v3 (wo ++ wy) := WrdsV.of_row (by rw [List.length_append, q1.out, q2.out, List.map_append]; exact hown2)
  clear hown2 hg2 hown1 hg1 hB1 key1 key2 hnO hnY hn0 hr0 hB0
  go_wp2_with fail
  refine (hwd _ (by (repeat (first | exact Below.refl _ _ | assumption | refine Below.drew ?_ | refine below_drewN ?_ _ | refine balloc ?_ _ | refine Below.setCell ?_ (by first | (simp; done) | (simp; omega) | omega) _ | refine bchain (by assumption) ?_)))).mono ?_
  rintro e w4 ⟨v4, rfl, iv4, hb4⟩
  have iv2 := iv2.below (bchain hb4 (by (repeat (first | exact Below.refl _ _ | assumption | refine Below.drew ?_ | refine below_drewN ?_ _ | refine balloc ?_ _ | refine Below.setCell ?_ (by first | (simp; done) | (simp; omega) | omega) _ | refine bchain (by assumption) ?_))))
  have hB4 : Below w.heap.size w w4 := by (repeat (first | exact Below.refl _ _ | assumption | refine Below.drew ?_ | refine below_drewN ?_ _ | refine balloc ?_ _ | refine Below.setCell ?_ (by first | (simp; done) | (simp; omega) | omega) _ | refine bchain (by assumption) ?_))
  go_wp2_with fail
  refine (wrds_any iv4 iv2).mono ?_
  rintro e w5 ⟨rfl, hb5⟩
  rw [decide_eq_true rfl]
  go_wp2
  go_ret
  exact ⟨rfl, by (repeat (first | exact Below.refl _ _ | assumption | refine Below.drew ?_ | refine below_drewN ?_ _ | refine balloc ?_ _ | refine Below.setCell ?_ (by first | (simp; done) | (simp; omega) | omega) _ | refine bchain (by assumption) ?_))⟩
end Go.Proofs.Ytcmhgjkijegpnaa
namespace Go.Proofs.Ytcmhgjkijegpnaa
open Go.RowKit
set_option linter.unusedSimpArgs false
set_option linter.unusedVariables false

theorem int7_info : (Try.prog.info? 3).map (fun i => (i.zero, i.size, i.bytes)) = some (some (.int .i64 0), 1, 8) := by kernel_rfl
theorem wat_row {w : World} (v0 v1 v2 v3 v4 v5 v6 v7 : Value) (kd k c f m s a b i u : Int) (raw : Bool) {n0 : Nat} {lv : Value} {l : List Int} (n : Int) (hL : w.ownsRow n0 3 1 lv l.length (l.map (Value.int .i64))) : Calls Try.prog 21 #[.agg #[v0, v1, v2, v3, v4, v5, v6, v7, lv], .agg #[.int .i64 kd, .int .i64 k, .int .i64 c, .int .i64 f, .int .i64 m, .int .i64 s, .int .i64 a, .int .i64 b, .int .i64 i, .int .u64 u, .bool raw], .int .i64 n] w (fun e w' => e = .returned (.int .i64 (atW raw l n)) ∧ Below w.heap.size w w') := by
  obtain ⟨A, cap, rfl, h1, h2, h3⟩ := lst_of_row hL
  exact wat_any v0 v1 v2 v3 v4 v5 v6 v7 kd k c f m s a b i u raw A l cap n h1 h2 h3
theorem set_cell_far {w : World} {p : Addr} {j i : Nat} {u v : Value} (h : w.cell? p = some v) (hn : p.block ≠ j) : (w.setCell ⟨j, i, none⟩ u).cell? p = some v :=
  (World.cell?_of_block (Below.heap_setCell w ⟨j, i, none⟩ u p.block hn)).trans h
theorem six_cell {w : World} {k i j : Nat} {v b0 b1 b2 b3 b4 b5 : Value} (h : w.cell? ⟨k, i, none⟩ = some v) (hn : k ≠ j) : ((((((w.setCell ⟨j, 0, none⟩ b0).setCell ⟨j, 1, none⟩ b1).setCell ⟨j, 2, none⟩ b2).setCell ⟨j, 3, none⟩ b3).setCell ⟨j, 4, none⟩ b4).setCell ⟨j, 5, none⟩ b5).cell? ⟨k, i, none⟩ = some v :=
  set_cell_far (set_cell_far (set_cell_far (set_cell_far (set_cell_far (set_cell_far h hn) hn) hn) hn) hn) hn
theorem six_off {w : World} {k : Nat} {T : TypeId} {x0 x1 x2 x3 x4 x5 x6 x7 x8 b0 b1 b2 b3 b4 b5 : Value} (h : w.heap[k]? = some (.cells #[x0, x1, x2, x3, x4, x5, x6, x7, x8] T (0, 0))) :
    ((((((w.setCell ⟨k, 2, none⟩ b0).setCell ⟨k, 3, none⟩ b1).setCell ⟨k, 4, none⟩ b2).setCell ⟨k, 5, none⟩ b3).setCell ⟨k, 6, none⟩ b4).setCell ⟨k, 7, none⟩ b5).heap[k]? = some (.cells #[x0, x1, b0, b1, b2, b3, b4, b5, x8] T (0, 0)) := by
  exact block_set (block_set (block_set (block_set (block_set (block_set h)))))
theorem six_off_other {w : World} {k j : Nat} {o : Obj} {b0 b1 b2 b3 b4 b5 : Value} (h : w.heap[k]? = some o) (hn : k ≠ j) : ((((((w.setCell ⟨j, 2, none⟩ b0).setCell ⟨j, 3, none⟩ b1).setCell ⟨j, 4, none⟩ b2).setCell ⟨j, 5, none⟩ b3).setCell ⟨j, 6, none⟩ b4).setCell ⟨j, 7, none⟩ b5).heap[k]? = some o :=
  set_other (set_other (set_other (set_other (set_other (set_other h hn) hn) hn) hn) hn) hn
theorem mods_at {j : Nat} {w W : World} (h : Mods (fun k => k = j) w W) (i : Nat) (v : Value) : Mods (fun k => k = j) w (W.setCell ⟨j, i, none⟩ v) := h.setCell (p := ⟨j, i, none⟩) (.inl rfl) v
theorem six_mods {w : World} {j : Nat} {b0 b1 b2 b3 b4 b5 : Value} : Mods (fun k => k = j) w ((((((w.setCell ⟨j, 0, none⟩ b0).setCell ⟨j, 1, none⟩ b1).setCell ⟨j, 2, none⟩ b2).setCell ⟨j, 3, none⟩ b3).setCell ⟨j, 4, none⟩ b4).setCell ⟨j, 5, none⟩ b5) :=
  mods_at (mods_at (mods_at (mods_at (mods_at (mods_at (Mods.refl _ w) _ _) _ _) _ _) _ _) _ _) _ _
theorem six_off_mods {w : World} {j : Nat} {b0 b1 b2 b3 b4 b5 : Value} : Mods (fun k => k = j) w ((((((w.setCell ⟨j, 2, none⟩ b0).setCell ⟨j, 3, none⟩ b1).setCell ⟨j, 4, none⟩ b2).setCell ⟨j, 5, none⟩ b3).setCell ⟨j, 6, none⟩ b4).setCell ⟨j, 7, none⟩ b5) :=
  mods_at (mods_at (mods_at (mods_at (mods_at (mods_at (Mods.refl _ w) _ _) _ _) _ _) _ _) _ _) _ _
theorem RMem.mods {S : Nat → Prop} {w w' : World} {aO : Option Addr} {nO cO : Nat} {aY : Option Addr} {nY cY : Nat} {lo ly : Int} {wo wy : List Int} {gO gY : Option Nat} (h : RMem w aO nO cO aY nY cY lo ly wo wy gO gY) (hM : Mods S w w') (hO : ∀ G, gO = some G → ¬ S G) (hY : ∀ G, gY = some G → ¬ S G) : RMem w' aO nO cO aY nY cY lo ly wo wy gO gY :=
  ⟨h.lO, h.lY, h.old.mods hM hO, h.yng.mods hM hY, h.okO, h.okY, h.lim⟩
/-- The reference was handed back (w2), laid into the world's block (w3), the memory was written (w4). -/
theorem WAt.fin {w w2 w3 w4 : World} {n0 p bO bY : Nat} {lo ly : Int} {x : S7} {aO : Option Addr} {nO cO : Nat} {aY : Option Addr} {nY cY : Nat} {lv : Value} {gO gY rO rY : Option Nat} (h : WIn w n0 bO bY lo ly x aO nO cO aY nY cY lv gO gY rO rY) (hn : n0 ≤ w.heap.size) (hp0 : n0 ≤ p) (hp1 : p < w.heap.size)
    (hsep : ∀ G, MS bO bY gO gY G ∨ rO = some G ∨ rY = some G ∨ lv.ownBlock = some G → G ≠ p) {wo' wy' : List Int} {aO' : Option Addr} {nO' cO' : Nat} {aY' : Option Addr} {nY' cY' : Nat} {rO' rY' : Option Nat}
    (hb2 : Below w.heap.size w w2) (hr : RMem w2 aO' nO' cO' aY' nY' cY' lo ly wo' wy' rO' rY') (h1 : ∀ G, rO' = some G → rO = some G ∨ w.heap.size ≤ G) (h2 : ∀ G, rY' = some G → rY = some G ∨ w.heap.size ≤ G)
    (hM3 : Mods (fun k => k = p) w2 w3) (hm4 : MemAt w4 bO bY lo ly wo' wy' gO gY) (hM4 : Mods (MS bO bY gO gY) w3 w4)
    (hp3 : w3.heap[p]? = some (.cells (wcs bO bY lo ly aO' nO' cO' aY' nY' cY' lv) 47 (0, 0))) : WAt w4 n0 p lo ly ⟨wo', wy', x.l⟩ ∧ Mods (fun k => n0 ≤ k) w w4 := by
  have hl := h.lt
  have hfr := h.mem.fresh
  have hpm : ¬ MS bO bY gO gY p := fun e => hsep p (.inl e) rfl
  have q1 : ∀ G, rO' = some G → G ≠ p ∧ ¬ MS bO bY gO gY G := fun G e => by
    rcases h1 G e with e' | e'
    · exact ⟨hsep G (.inr (.inl e')), h.rr G (.inl e')⟩
    · exact ⟨by omega, hfr G e'⟩
  have q2 : ∀ G, rY' = some G → G ≠ p ∧ ¬ MS bO bY gO gY G := fun G e => by
    rcases h2 G e with e' | e'
    · exact ⟨hsep G (.inr (.inr (.inl e'))), h.rr G (.inr (.inl e'))⟩
    · exact ⟨by omega, hfr G e'⟩
  have hr4 := (hr.mods hM3 (fun G e => (q1 G e).1) (fun G e => (q2 G e).1)).mods hM4 (fun G e => (q1 G e).2) (fun G e => (q2 G e).2)
  have hl4 : w4.ownsRow n0 3 1 lv x.l.length (x.l.map (Value.int .i64)) := row_keep h.lst (fun G o e ho => mblock hM4 (mblock hM3 (bblock hb2 ho) (hsep G (.inr (.inr (.inr e))))) (h.rr G (.inr (.inr e))))
  refine ⟨⟨bO, bY, aO', nO', cO', aY', nY', cY', lv, gO, gY, rO', rY', hp0, mblock hM4 hp3 hpm, ⟨hm4, hr4, hl4, h.ms, ?_, ?_⟩, ?_⟩, ?_⟩
  · rintro G (e | e | e)
    · exact (q1 G e).2
    · exact (q2 G e).2
    · exact h.rr G (.inr (.inr e))
  · intro G e
    have h5 := hl G (.inr (.inr (.inr e)))
    exact ⟨fun e' => (h1 G e').elim (h.rl G e).1 (fun e2 => by omega), fun e' => (h2 G e').elim (h.rl G e).2 (fun e2 => by omega)⟩
  · rintro G (e | e | e | e)
    · exact hsep G (.inl e)
    · exact (q1 G e).1
    · exact (q2 G e).1
    · exact hsep G (.inr (.inr (.inr e)))
  · refine Mods.trans (S1 := MS bO bY gO gY) (Mods.trans (S := fun k => n0 ≤ k) (S1 := fun k => k = p) (Mods.of_below hb2) hM3 (fun i hi => .inl (by omega))) hM4 (fun i hi => .inl (h.ms i hi))
/-- An object was allocated (w3), then the reference was handed back (w4), laid into the world's block, and the list was appended to (wz). -/
theorem WAt.finA {w w3 w4 wz : World} {n0 p bO bY : Nat} {lo ly : Int} {x : S7} {aO : Option Addr} {nO cO : Nat} {aY : Option Addr} {nY cY : Nat} {lv : Value} {gO gY rO rY : Option Nat} (h : WIn w n0 bO bY lo ly x aO nO cO aY nY cY lv gO gY rO rY) (hn : n0 ≤ w.heap.size) (hp0 : n0 ≤ p) (hp1 : p < w.heap.size)
    (hsep : ∀ G, MS bO bY gO gY G ∨ rO = some G ∨ rY = some G ∨ lv.ownBlock = some G → G ≠ p) {wo' wy' l' : List Int} {aO' : Option Addr} {nO' cO' : Nat} {aY' : Option Addr} {nY' cY' : Nat} {gO' gY' rO' rY' : Option Nat} {lv' : Value}
    (hM3 : Mods (MS bO bY gO gY) w w3) (hm3 : MemAt w3 bO bY lo ly wo' wy' gO' gY') (hg : ∀ k, MS bO bY gO' gY' k → MS bO bY gO gY k ∨ w.heap.size ≤ k)
    (hb4 : Below w3.heap.size w3 w4) (hr : RMem w4 aO' nO' cO' aY' nY' cY' lo ly wo' wy' rO' rY') (h1 : ∀ G, rO' = some G → rO = some G ∨ w3.heap.size ≤ G) (h2 : ∀ G, rY' = some G → rY = some G ∨ w3.heap.size ≤ G)
    (hMz : Mods (fun k => k = p ∨ lv.ownBlock = some k) w4 wz) (hl : wz.ownsRow n0 3 1 lv' l'.length (l'.map (Value.int .i64))) (h3 : ∀ G, lv'.ownBlock = some G → lv.ownBlock = some G ∨ w4.heap.size ≤ G)
    (hpz : wz.heap[p]? = some (.cells (wcs bO bY lo ly aO' nO' cO' aY' nY' cY' lv') 47 (0, 0))) : WAt wz n0 p lo ly ⟨wo', wy', l'⟩ ∧ Mods (fun k => n0 ≤ k) w wz := by
  have hlt := h.lt
  have hfr := hm3.fresh
  have s3 := hM3.size
  have s4 := hb4.size
  have q1 : ∀ G, rO' = some G → G ≠ p ∧ ¬ MS bO bY gO' gY' G ∧ lv.ownBlock ≠ some G := fun G e => by
    rcases h1 G e with e' | e'
    · have := hlt G (.inr (.inl e'))
      exact ⟨hsep G (.inr (.inl e')), fun q => (hg G q).elim (h.rr G (.inl e')) (fun q' => by omega), fun q => (h.rl G q).1 e'⟩
    · exact ⟨by omega, hfr G e', fun q => by have := hlt G (.inr (.inr (.inr q))); omega⟩
  have q2 : ∀ G, rY' = some G → G ≠ p ∧ ¬ MS bO bY gO' gY' G ∧ lv.ownBlock ≠ some G := fun G e => by
    rcases h2 G e with e' | e'
    · have := hlt G (.inr (.inr (.inl e')))
      exact ⟨hsep G (.inr (.inr (.inl e'))), fun q => (hg G q).elim (h.rr G (.inr (.inl e'))) (fun q' => by omega), fun q => (h.rl G q).2 e'⟩
    · exact ⟨by omega, hfr G e', fun q => by have := hlt G (.inr (.inr (.inr q))); omega⟩
  have q3 : ∀ G, MS bO bY gO' gY' G → G ≠ p ∧ lv.ownBlock ≠ some G ∧ n0 ≤ G := fun G e => by
    rcases hg G e with e' | e'
    · exact ⟨hsep G (.inl e'), fun q => h.rr G (.inr (.inr q)) e', h.ms G e'⟩
    · exact ⟨by omega, fun q => by have := hlt G (.inr (.inr (.inr q))); omega, by omega⟩
  have q4 : ∀ G, lv'.ownBlock = some G → G ≠ p ∧ ¬ MS bO bY gO' gY' G ∧ rO' ≠ some G ∧ rY' ≠ some G := fun G e => by
    rcases h3 G e with e' | e'
    · exact ⟨hsep G (.inr (.inr (.inr e'))), fun q => (q3 G q).2.1 e', fun q => (q1 G q).2.2 e', fun q => (q2 G q).2.2 e'⟩
    · exact ⟨by omega, hfr G (by omega), fun q => by have := hr.old.lt' G q; omega, fun q => by have := hr.yng.lt' G q; omega⟩
  refine ⟨⟨bO, bY, aO', nO', cO', aY', nY', cY', lv', gO', gY', rO', rY', hp0, hpz, ⟨(hm3.below hb4).mods hMz (fun k hk => not_or.2 ⟨(q3 k hk).1, (q3 k hk).2.1⟩), hr.mods hMz (fun G e => not_or.2 ⟨(q1 G e).1, (q1 G e).2.2⟩) (fun G e => not_or.2 ⟨(q2 G e).1, (q2 G e).2.2⟩), hl, fun k hk => (q3 k hk).2.2, ?_, fun G e => ⟨(q4 G e).2.2.1, (q4 G e).2.2.2⟩⟩, ?_⟩, ?_⟩
  · rintro G (e | e | e)
    · exact (q1 G e).2.1
    · exact (q2 G e).2.1
    · exact (q4 G e).2.1
  · rintro G (e | e | e | e)
    · exact (q3 G e).1
    · exact (q1 G e).1
    · exact (q2 G e).1
    · exact (q4 G e).1
  · refine Mods.trans (S1 := fun k => k = p ∨ lv.ownBlock = some k) (Mods.trans (S := fun k => n0 ≤ k) (S1 := fun _ => False) (hM3.mono (fun k hk => h.ms k hk)) (Mods.of_below hb4) (fun i hi => hi.elim)) hMz (fun i hi => .inl (hi.elim (fun e => by omega) (fun e => (row_lt h.lst i e).2)))
theorem mods_grown {w w' : World} {row : Option Nat} (h : w.grownBy w' row) : Mods (fun k => row = some k) w w' := ⟨h.os, h.tape, h.output, h.size, fun k hk hn => h.block k hk (fun e => hn e.symm)⟩
/-- The list is appended to. -/
theorem lst_snoc {w : World} {n0 : Nat} {lv : Value} {l : List Int} {a : Int} (h : w.ownsRow n0 3 1 lv (l.length + 1) (l.map (Value.int .i64) ++ [.int .i64 a])) : w.ownsRow n0 3 1 lv (l ++ [a]).length ((l ++ [a]).map (Value.int .i64)) := by simpa using h
/-- What an operation comes to. -/
def StP (w : World) (n0 p : Nat) (lo ly : Int) (x' : S7) (e : Ending) (w' : World) : Prop := e = .returned (.bool true) ∧ WAt w' n0 p lo ly x' ∧ Mods (fun k => n0 ≤ k) w w'
end Go.Proofs.Ytcmhgjkijegpnaa
