/-
  A slice of operations of law 13 that came in, opened to its cells.
-/
import Derived.Test.YtgipmcmmicppkaaUA
import Derived.ProofKit
import Derived.OpenShut
import Derived.Deep.Slices
import Derived.Deep.Fields
import Derived.Test.YtgipmcmmicppkaaUnD
namespace Go.Proofs.Ytgipmcmmicppkaa
open Go.ChangeShapes Go.WideShapes Go.ChangeAt Go.RowKit Go.Deep
set_option linter.unusedSimpArgs false
set_option linter.unusedVariables false

/-- An operation that came in. -/
structure Op13 where
  kd : Int
  nf : Int
  a : Int
  u : Int
  raw : Bool
instance : Inhabited Op13 := ⟨⟨0, 0, 0, 0, false⟩⟩
structure Op13.Ok (o : Op13) : Prop where
  k0 : 0 ≤ o.kd
  n0 : 0 ≤ o.nf
  n1 : o.nf < 256
  u0 : U64 o.u
/-- The cells of an operation. -/
def OpAt (W : World) (x : Addr) (o : Op13) : Prop :=
  W.cell? (x.add 0) = some (.int .u8 o.kd) ∧ W.cell? (x.add 1) = some (.int .u8 o.nf) ∧ W.cell? (x.add 2) = some (.int .i64 o.a) ∧ W.cell? (x.add 3) = some (.int .u64 o.u) ∧ W.cell? (x.add 4) = some (.bool o.raw) ∧ o.Ok
/-- The operations that a slice holds, in a block below n. -/
def Ops13 (w : World) (n : Nat) (a : Option Addr) (l : List Op13) : Prop :=
  l = [] ∨ ∃ b off : Nat, a = some ⟨b, off, none⟩ ∧ b < n ∧ ∀ i o, l[i]? = some o → OpAt w ⟨b, off + i * 5, none⟩ o
theorem list_of {α : Type} {P : Nat → α → Prop} : ∀ n : Nat, (∀ i, i < n → ∃ o, P i o) → ∃ l : List α, l.length = n ∧ ∀ i o, l[i]? = some o → P i o := by
  intro n
  induction n with
  | zero => exact fun _ => ⟨[], rfl, fun i o h => by simp at h⟩
  | succ n ih =>
    intro h
    obtain ⟨l, hl, hp⟩ := ih (fun i hi => h i (by omega))
    obtain ⟨o, ho⟩ := h n (by omega)
    refine ⟨l ++ [o], by simp [hl], fun i x hx => ?_⟩
    by_cases hi : i < n
    · exact hp i x (by rwa [List.getElem?_append_left (by omega)] at hx)
    · rw [List.getElem?_append_right (by omega)] at hx
      have : i - l.length = 0 := by
        by_cases h0 : i - l.length = 0
        · exact h0
        · rw [List.getElem?_eq_none (by simp; omega)] at hx
          cases hx
      rw [this] at hx
      simp at hx
      subst hx
      have : i = n := by omega
      subst this
      exact ho
/-- A field of one integer cell. -/
theorem int_field {H : Type} {enc : TypeId × Value → H} {P : Program} {w : World} {base fuel off m : Nat} {spare : Nat → Bool} {held : Bool} {t : TypeId} {k : IntKind} {cs : List Value} {x : Option (DataW H × List MemPlace)} {y : DataW H × List MemPlace} (ht : P.underlying t = some (.int k))
    (h : DataW.trod enc P w base spare held fuel t ((cs.drop off).take m) = x) (hm : m = 1) (hx : x = some y) : ∃ n, cs[off]? = some (.int k n) ∧ (Lit.int k n).wf = true := by
  subst hm
  obtain ⟨n, e1, _, wf⟩ := DataW.trod_int ht (h.trans hx)
  refine ⟨n, ?_, wf⟩
  have : ((cs.drop off).take 1)[0]? = some (.int k n) := by rw [e1]; rfl
  rw [List.getElem?_take_of_lt (by omega), List.getElem?_drop] at this
  simpa using this
theorem sub_field {cs : List Value} {off m j : Nat} {v : Value} (h : ((cs.drop off).take m)[j]? = some v) : cs[off + j]? = some v := by
  by_cases hj : j < m
  · rwa [List.getElem?_take_of_lt hj, List.getElem?_drop] at h
  · rw [List.getElem?_eq_none (by simp; omega)] at h
    cases h
theorem u64_wf {x : Int} (h : (Lit.int .u64 x).wf = true) : U64 x := by
  simp [Lit.wf, IntKind.min, IntKind.max, IntKind.signed, IntKind.bits] at h
  exact ⟨by omega, by omega⟩

theorem bool_field {H : Type} {enc : TypeId × Value → H} {P : Program} {w : World} {base fuel off m : Nat} {spare : Nat → Bool} {held : Bool} {t : TypeId} {cs : List Value} {x : Option (DataW H × List MemPlace)} {y : DataW H × List MemPlace} (ht : P.underlying t = some .bool)
    (h : DataW.trod enc P w base spare held fuel t ((cs.drop off).take m) = x) (hm : m = 1) (hx : x = some y) : ∃ b, cs[off]? = some (.bool b) := by
  subst hm
  obtain ⟨b, e1, _⟩ := DataW.trod_bool ht (h.trans hx)
  refine ⟨b, ?_⟩
  have : ((cs.drop off).take 1)[0]? = some (.bool b) := by rw [e1]; rfl
  rw [List.getElem?_take_of_lt (by omega), List.getElem?_drop] at this
  simpa using this
theorem u8_wf {x : Int} (h : (Lit.int .u8 x).wf = true) : 0 ≤ x ∧ x < 256 := by
  simp [Lit.wf, IntKind.min, IntKind.max, IntKind.signed, IntKind.bits] at h
  exact ⟨by omega, by omega⟩
set_option maxRecDepth 100000 in
theorem open_ops13 {H : Type} {enc : TypeId × Value → H} {W : World} {v : Value} {d : DataW H} {p : List MemPlace} {r : Reach} {b0 : Nat} (hv : Value.okWide Try.prog W r b0 55 v) (h : DataW.Trod enc Try.prog W 0 (fun _ => true) true 55 v d p) :
    ∃ (a : Option Addr) (l : List Op13) (cap : Nat), v = .slice a l.length cap ∧ l.length ≤ cap ∧ cap ≤ 9223372036854775807 ∧ Ops13 W W.heap.size a l := by
  obtain ⟨a, len, cap, rfl⟩ := okWide_slice Try.underlying55 hv
  obtain ⟨fuel, hf⟩ := h
  rcases open_slice Try.underlying55 hf with ⟨hcs, _⟩ | ⟨x, len', cap', m, n, D, Pl, hcs, _, hl, hm, hmm, _, hi⟩
  · simp [Value.cells] at hcs
    obtain ⟨rfl, rfl, rfl⟩ := hcs
    exact ⟨none, [], 0, rfl, by simp, by omega, .inl rfl⟩
  · simp [Value.cells] at hcs
    obtain ⟨rfl, rfl, rfl⟩ := hcs
    have hC : Try.prog.cellsOf 45 = 5 := by kernel_rfl
    have hc1 : Try.prog.cellsOf 3 = 1 := by kernel_rfl
    have hc2 : Try.prog.cellsOf 4 = 1 := by kernel_rfl
    have hc3 : Try.prog.cellsOf 43 = 1 := by kernel_rfl
    have hc4 : Try.prog.cellsOf 5 = 1 := by kernel_rfl
    simp only [if_true] at hmm
    subst hmm
    rw [hC] at hi
    have key : ∀ i, i < len → ∃ o : Op13, OpAt W (x.add (i * 5)) o := by
      intro i hil
      obtain ⟨cs, hc, ht⟩ := hi i (by omega)
      obtain ⟨_, hcl, hat⟩ := World.cells?_some hc
      obtain ⟨ys, n', _, _, _, hyl, hfl⟩ := DataW.trod_struct Try.underlying45 ht
      match ys, hyl with
      | [y0, y1, y2, y3, y4], _ =>
        have f0 := hfl 0 _ rfl
        have f1 := hfl 1 _ rfl
        have f2 := hfl 2 _ rfl
        have f3 := hfl 3 _ rfl
        have f4 := hfl 4 _ rfl
        obtain ⟨kd, a0, w0⟩ := int_field Try.underlying5 f0 hc4 rfl
        obtain ⟨nf, a1, w1⟩ := int_field Try.underlying5 f1 hc4 rfl
        obtain ⟨aa, a2, _⟩ := int_field Try.underlying3 f2 hc1 rfl
        obtain ⟨uu, a3, w3⟩ := int_field Try.underlying43 f3 hc3 rfl
        obtain ⟨rr, a4⟩ := bool_field Try.underlying4 f4 hc2 rfl
        refine ⟨⟨kd, nf, aa, uu, rr⟩, ?_, ?_, ?_, ?_, ?_, ⟨(u8_wf w0).1, (u8_wf w1).1, (u8_wf w1).2, u64_wf w3⟩⟩
        · simpa [add_add] using (hat 0 (by omega)).trans a0
        · simpa [add_add] using (hat 1 (by omega)).trans a1
        · simpa [add_add] using (hat 2 (by omega)).trans a2
        · simpa [add_add] using (hat 3 (by omega)).trans a3
        · simpa [add_add] using (hat 4 (by omega)).trans a4
    obtain ⟨l, hll, hlp⟩ := list_of len key
    refine ⟨some x, l, _, by rw [hll], by omega, by unfold maxLen at hm; exact hm, ?_⟩
    by_cases h0 : len = 0
    · exact .inl (List.length_eq_zero_iff.1 (by omega))
    · have e0 := hlp 0 _ (List.getElem?_eq_getElem (by omega))
      obtain ⟨xb, xo, xs⟩ := x
      have hspot : xs = none := by simpa [Addr.add] using World.cell?_spot e0.1
      subst hspot
      refine .inr ⟨xb, xo, rfl, by simpa [Addr.add] using World.block_lt_of_cell? W _ e0.1, fun i o ho => ?_⟩
      have hq := hlp i o ho
      rw [Addr.add_lit] at hq
      exact hq
theorem OpAt.mods {S : Nat → Prop} {w w' : World} {b off : Nat} {o : Op13} (h : OpAt w ⟨b, off, none⟩ o) (hM : Mods S w w') (hb : ¬ S b) : OpAt w' ⟨b, off, none⟩ o := by
  obtain ⟨c0, c1, c2, c3, c4, hu⟩ := h
  exact ⟨mcell hM c0 hb, mcell hM c1 hb, mcell hM c2 hb, mcell hM c3 hb, mcell hM c4 hb, hu⟩
theorem Ops13.mods {S : Nat → Prop} {w w' : World} {n : Nat} {a : Option Addr} {l : List Op13} (h : Ops13 w n a l) (hM : Mods S w w') (hS : ∀ k, S k → n ≤ k) : Ops13 w' n a l := by
  rcases h with h | ⟨b, off, rfl, hb', h⟩
  · exact .inl h
  · exact .inr ⟨b, off, rfl, hb', fun i o ho => (h i o ho).mods hM (fun hs => by have := hS _ hs; omega)⟩
theorem Ops13.below {w w' : World} {n : Nat} {a : Option Addr} {l : List Op13} (h : Ops13 w n a l) (hb : Below w.heap.size w w') : Ops13 w' n a l := h.mods (S := fun _ => False) (Mods.of_below hb) (fun _ h => h.elim)
theorem Ops13.get {w : World} {n : Nat} {a : Option Addr} {l : List Op13} (h : Ops13 w n a l) (i : Nat) (hi : i < l.length) : ∃ b off : Nat, a = some ⟨b, off, none⟩ ∧ b < n ∧ OpAt w ⟨b, off + i * 5, none⟩ l[i] := by
  rcases h with h | ⟨b, off, e, hb, h⟩
  · rw [h] at hi; simp at hi
  · exact ⟨b, off, e, hb, h i _ (List.getElem?_eq_getElem hi)⟩
end Go.Proofs.Ytgipmcmmicppkaa
