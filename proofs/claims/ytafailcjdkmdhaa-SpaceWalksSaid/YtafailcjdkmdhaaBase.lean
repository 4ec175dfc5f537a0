/-
  Plain lemmas of this claim's own: endings, worlds that have only grown, the arithmetic of header words and identity words. No program in sight.
-/
import Derived.WalkKit
import Derived.WalkSpells
import Derived.WalkLawsBesides
import Derived.Lib.Hide
import Derived.Deep.QuietTactic
import Derived.BigQuiet
namespace Go.Proofs.Ytafailcjdkmdhaa
open Go.RowKit
set_option linter.unusedSimpArgs false
set_option linter.unusedVariables false

theorem ret_bool {a b : Bool} (h : a = b) : Ending.returned (.bool a) = .returned (.bool b) := by rw [h]
theorem ret_int {k : IntKind} {a b : Int} (h : a = b) : Ending.returned (.int k a) = .returned (.int k b) := by rw [h]
theorem ret_two {k l : IntKind} {a b c d : Int} (h : a = b) (g : c = d) : Ending.returned (.tuple #[.int k a, .int l c]) = .returned (.tuple #[.int k b, .int l d]) := by rw [h, g]

/-- What a call that makes memory alone leaves of the old world. -/
theorem bcell {W w1 : World} (hb : Below W.heap.size W w1) : (∀ b o, b < W.heap.size → w1.cell? ⟨b, o, none⟩ = W.cell? ⟨b, o, none⟩) ∧ (∀ b o, b < W.heap.size → w1.frozen? ⟨b, o, none⟩ = W.frozen? ⟨b, o, none⟩) ∧ W.heap.size ≤ w1.heap.size :=
  ⟨fun b o h => hb.cell (p := ⟨b, o, none⟩) h, fun b o h => hb.frozen (p := ⟨b, o, none⟩) h, hb.size⟩
theorem bcellv {W w1 : World} (hb : Below W.heap.size W w1) {p : Addr} {v : Value} (h : W.cell? p = some v) : w1.cell? p = some v := (hb.cell (World.block_lt_of_cell? W p h)).trans h
theorem bchain {a W w1 : World} (h : Below W.heap.size W w1) (k : Below a.heap.size a W) : Below a.heap.size a w1 := k.trans (h.mono k.size)
theorem balloc {a W : World} (k : Below a.heap.size a W) (o : Obj) : Below a.heap.size a (W.alloc o) := k.alloc k.size o

/-! ### A region that draws its order, whose operations only read and whose callees only make memory -/
/-- x, if it has all that W has; else W. -/
noncomputable def over (W x : World) : World := by
  classical
  exact if Below W.heap.size W x then x else W
theorem over_below (W x : World) : Below W.heap.size W (over W x) := by
  unfold over
  split
  · assumption
  · exact Below.refl _ _
theorem over_of {W x : World} (h : Below W.heap.size W x) : x = over W x := by
  unfold over
  rw [if_pos h]
theorem over_cell {W : World} {p : Addr} {v : Value} (h : W.cell? p = some v) (x : World) : (over W x).cell? p = some v :=
  ((over_below W x).cell (World.block_lt_of_cell? W p h)).trans h
theorem wpQuiet_post {P : Program} {ops : Array Oper} {C : World → Prop} {Q Q' : Act → Prop} (hq : ∀ a, Q a → Q' a) : ∀ (l : List Oper) (a : Act), wpQuiet P ops C Q l a → wpQuiet P ops C Q' l a
  | [], a, h => hq a h
  | o :: l, a, h => by
    unfold wpQuiet at *
    split
    · rename_i hw
      rw [if_pos hw] at h
      exact Oper.quiet_mono (wpQuiet_post hq l) h
    · rename_i hw
      rw [if_neg hw] at h
      exact wpQuiet_post hq l _ h
theorem calls_over {P : Program} {f : FuncId} {args : Array Value} {W x : World} {v : Value}
    (h : Calls P f args (over W x) fun e w' => e = .returned v ∧ Below (over W x).heap.size (over W x) w') :
    Calls P f args (over W x) fun e w' => e = .returned v ∧ ∃ y, w' = over W y :=
  h.mono fun _ w' ⟨he, hb⟩ => ⟨he, w', over_of (bchain hb (over_below W x))⟩
theorem wp_region_over {P : Program} {id : Nat} {Q : Exit → Act → World → Prop} {a : Act} {w : World} {l : List Oper} (hm : P.follows .mixedOrders = true) (hB : Region.lexB .any l.toArray = true)
    (h : wpQuiet P l.toArray (fun w' => ∃ x, w' = over w x) (fun a' => ∀ w', Below w.heap.size w w' → Q .normal a' w') l a) : (Code.region id l.toArray true).wp P Q a w :=
  wp_region_quiet (C := fun w' => ∃ x, w' = over w x) hm hB ⟨_, over_of (Below.refl _ w).drew⟩ (by
    refine wpQuiet_post ?_ _ _ (by simpa using h)
    rintro a' ha w' ⟨x, rfl⟩
    exact ha _ (over_below w x))

/-! ### Headers -/
/-- Is the header (kind, class, fields) valid? -/
def hvB (k c f : Int) : Bool := decide ((0 ≤ k ∧ k ≤ 4) ∧ (0 ≤ c ∧ c ≤ 60 ∧ 0 ≤ f ∧ f ≤ 30) ∧ ((k = 0 ∨ k = 1) → 0 < c) ∧ (k = 2 → c = 0 ∧ f = 1))
theorem hvB_iff {k c f : Int} : hvB k c f = true ↔ ((0 ≤ k ∧ k ≤ 4) ∧ (0 ≤ c ∧ c ≤ 60 ∧ 0 ≤ f ∧ f ≤ 30) ∧ ((k = 0 ∨ k = 1) → 0 < c) ∧ (k = 2 → c = 0 ∧ f = 1)) := by unfold hvB; exact decide_eq_true_iff
theorem hvB_no {k c f : Int} : hvB k c f = false ↔ ¬ ((0 ≤ k ∧ k ≤ 4) ∧ (0 ≤ c ∧ c ≤ 60 ∧ 0 ≤ f ∧ f ≤ 30) ∧ ((k = 0 ∨ k = 1) → 0 < c) ∧ (k = 2 → c = 0 ∧ f = 1)) := by unfold hvB; exact decide_eq_false_iff_not
/-- The header word. -/
def encI (k c f : Int) : Int := 3 + 4 * k + 256 * c + 16777216 * f
/-- The size of an object. -/
def wordsI (f : Int) : Int := if f < 2 then 4 else 2 + f
theorem wordsI_bd {k c f : Int} (h : hvB k c f = true) : 4 ≤ wordsI f ∧ wordsI f ≤ 32 ∧ 2 + f ≤ wordsI f := by
  have := hvB_iff.1 h
  unfold wordsI
  split <;> omega
def decK (n : Int) : Int := n / 4 % 64
def decC (n : Int) : Int := n / 256 % 65536
def decF (n : Int) : Int := n / 16777216 % 65536
/-- Is the word a header word? -/
def decB (n : Int) : Bool := hvB (decK n) (decC n) (decF n) && encI (decK n) (decC n) (decF n) == n
theorem dec_enc {k c f : Int} (h : hvB k c f = true) : decK (encI k c f) = k ∧ decC (encI k c f) = c ∧ decF (encI k c f) = f := by
  have := hvB_iff.1 h
  unfold decK decC decF encI
  omega
theorem decB_enc {k c f : Int} (h : hvB k c f = true) : decB (encI k c f) = true := by
  obtain ⟨a, b, c⟩ := dec_enc h
  unfold decB
  rw [a, b, c, h]
  simp
theorem decB_iff {n : Int} : decB n = true ↔ hvB (decK n) (decC n) (decF n) = true ∧ encI (decK n) (decC n) (decF n) = n := by unfold decB; simp
theorem encI_bd {k c f : Int} (h : hvB k c f = true) : 3 ≤ encI k c f ∧ encI k c f ≤ 503332095 ∧ encI k c f % 4 = 3 := by
  have := hvB_iff.1 h
  unfold encI
  omega
/-- A word of 64 bits. -/
def U64 (n : Int) : Prop := 0 ≤ n ∧ n < 18446744073709551616
theorem U64.nonneg {n : Int} (h : U64 n) : 0 ≤ n := h.1
theorem U64.of {n : Int} (h0 : 0 ≤ n) (h1 : n < 9223372036854775808) : U64 n := ⟨h0, by omega⟩
theorem u64_wraps (n : Int) (h₀ : 0 ≤ n) (h₁ : n < 2 ^ 64) : IntKind.u64.wrap n = n := by
  simp [IntKind.wrap, IntKind.bits, IntKind.signed]
  omega
theorem and63 {n : Int} (h : U64 n) : bits BinOp.and IntKind.u64 (n / 4) 63 = n / 4 % 64 := by
  obtain ⟨h0, h1⟩ := h
  exact bits_mask .u64 64 (by decide) u64_wraps 6 (by decide) (n / 4) (by omega) (by omega)
theorem and16c {n : Int} (h : U64 n) : bits BinOp.and IntKind.u64 (n / 256) 65535 = n / 256 % 65536 := by
  obtain ⟨h0, h1⟩ := h
  exact bits_mask .u64 64 (by decide) u64_wraps 16 (by decide) (n / 256) (by omega) (by omega)
theorem and16f {n : Int} (h : U64 n) : bits BinOp.and IntKind.u64 (n / 16777216) 65535 = n / 16777216 % 65536 := by
  obtain ⟨h0, h1⟩ := h
  exact bits_mask .u64 64 (by decide) u64_wraps 16 (by decide) (n / 16777216) (by omega) (by omega)
theorem or_enc {k c f : Int} (h : hvB k c f = true) : bits BinOp.or IntKind.u64 (bits BinOp.or IntKind.u64 (bits BinOp.or IntKind.u64 (f * 16777216) (c * 256)) (k * 4)) 3 = encI k c f := by
  have hh := hvB_iff.1 h
  rw [bits_join .u64 64 (by decide) u64_wraps 24 (f * 16777216) (c * 256) (by omega) (by omega) (by omega) (by omega) (by omega) (by omega)]
  rw [bits_join .u64 64 (by decide) u64_wraps 8 (f * 16777216 + c * 256) (k * 4) (by omega) (by omega) (by omega) (by omega) (by omega) (by omega)]
  rw [bits_join .u64 64 (by decide) u64_wraps 2 (f * 16777216 + c * 256 + k * 4) 3 (by omega) (by omega) (by omega) (by omega) (by omega) (by omega)]
  unfold encI
  omega

theorem quo_u64 {n d : Int} (h : U64 n) (hd : 1 ≤ d) : IntKind.u64.wrap (n.tdiv d) = n / d := by
  obtain ⟨h0, h1⟩ := h
  rw [Int.tdiv_eq_ediv_of_nonneg h0]
  have a : 0 ≤ n / d := Int.ediv_nonneg h0 (by omega)
  have b : n / d ≤ n := Int.ediv_le_self d h0
  exact u64_wraps _ a (by omega)
theorem rem_u64 {n d e : Int} (h : 0 ≤ n) (hd : 1 ≤ d) : (n / d).tmod e = n / d % e := Int.tmod_eq_emod_of_nonneg (Int.ediv_nonneg h (by omega))

/-! ### Identities -/
def idB (m s : Int) : Bool := decide ((1 ≤ m ∧ m ≤ 8) ∧ 1 ≤ s ∧ s ≤ 1099511627775)
theorem idB_iff {m s : Int} : idB m s = true ↔ ((1 ≤ m ∧ m ≤ 8) ∧ 1 ≤ s ∧ s ≤ 1099511627775) := by unfold idB; exact decide_eq_true_iff
theorem idB_no {m s : Int} : idB m s = false ↔ ¬ ((1 ≤ m ∧ m ≤ 8) ∧ 1 ≤ s ∧ s ≤ 1099511627775) := by unfold idB; exact decide_eq_false_iff_not
def idI (m s : Int) : Int := m * 281474976710656 + s
def didM (n : Int) : Int := n / 281474976710656
def didS (n : Int) : Int := n % 281474976710656
def didB (n : Int) : Bool := idB (didM n) (didS n)
theorem did_id {m s : Int} (h : idB m s = true) : didM (idI m s) = m ∧ didS (idI m s) = s := by
  have := idB_iff.1 h
  unfold didM didS idI
  omega
theorem idI_bd {m s : Int} (h : idB m s = true) : 0 < idI m s ∧ idI m s < 4503599627370496 := by
  have := idB_iff.1 h
  unfold idI
  omega
theorem and48 {n : Int} (h : U64 n) : bits BinOp.and IntKind.u64 n 281474976710655 = n % 281474976710656 := by
  obtain ⟨h0, h1⟩ := h
  exact bits_mask .u64 64 (by decide) u64_wraps 48 (by decide) n (by omega) (by omega)
end Go.Proofs.Ytafailcjdkmdhaa
