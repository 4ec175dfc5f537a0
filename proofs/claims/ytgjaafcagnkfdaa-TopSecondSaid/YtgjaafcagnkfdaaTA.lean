/-
  Plain lemmas of this claim's own: endings, worlds that have only grown, the arithmetic of header words and identity words. No program in sight.
-/
import Derived.WalkKit
import Derived.WalkSpells
import Derived.WalkLawsBesides
import Derived.Lib.Hide
import Derived.Deep.QuietTactic
import Derived.BigQuiet
import Derived.Test.YtgjaafcagnkfdaaProg
import Derived.Laws.EntriesVeiled
import Derived.Deep.RegionHeld3
import Derived.Deep.RegionWith
namespace Go.Proofs.Ytgjaafcagnkfdaa
open Go.RowKit
set_option linter.unusedSimpArgs false
set_option linter.unusedVariables false

theorem ret_bool {a b : Bool} (h : a = b) : Ending.returned (.bool a) = .returned (.bool b) := by rw [h]
theorem ret_int {k : IntKind} {a b : Int} (h : a = b) : Ending.returned (.int k a) = .returned (.int k b) := by rw [h]
theorem ret_two {k l : IntKind} {a b c d : Int} (h : a = b) (g : c = d) : Ending.returned (.tuple #[.int k a, .int l c]) = .returned (.tuple #[.int k b, .int l d]) := by rw [h, g]

/-- What a call that makes memory alone leaves of the old world. -/
theorem bcell {W w1 : World} (hb : Below W.heap.size W w1) : (∀ b o, b < W.heap.size → w1.cell? ⟨b, o, none⟩ = W.cell? ⟨b, o, none⟩) ∧ (∀ b o, b < W.heap.size → w1.frozen? ⟨b, o, none⟩ = W.frozen? ⟨b, o, none⟩) ∧ W.heap.size ≤ w1.heap.size :=
  ⟨fun b o h => hb.cell (p := ⟨b, o, none⟩) h, fun b o h => hb.frozen (p := ⟨b, o, none⟩) h, hb.size⟩
theorem bcellv {W w1 : World} (hb : Below W.heap.size W w1) {p : Addr} {v : Value} (h : W.cell? p = some v) : w1.cell? p = some v := (hb.cell (World.block_lt_of_cell? W p h)).trans h
theorem bchain {a W w1 : World} (h : Below W.heap.size W w1) (k : Below a.heap.size a W) : Below a.heap.size a w1 := k.trans (h.mono k.size)
theorem balloc {a W : World} (k : Below a.heap.size a W) (o : Obj) : Below a.heap.size a (W.alloc o) := k.alloc k.size o

/-! ### A region that draws its order, whose operations only read and whose callees only make memory -/
/-- x, if it has all that W has; else W. -/
noncomputable def over (W x : World) : World := by
  classical
  exact if Below W.heap.size W x then x else W
theorem over_below (W x : World) : Below W.heap.size W (over W x) := by
  unfold over
  split
  · assumption
  · exact Below.refl _ _
theorem over_of {W x : World} (h : Below W.heap.size W x) : x = over W x := by
  unfold over
  rw [if_pos h]
theorem over_cell {W : World} {p : Addr} {v : Value} (h : W.cell? p = some v) (x : World) : (over W x).cell? p = some v :=
  ((over_below W x).cell (World.block_lt_of_cell? W p h)).trans h
theorem wpQuiet_post {P : Program} {ops : Array Oper} {C : World → Prop} {Q Q' : Act → Prop} (hq : ∀ a, Q a → Q' a) : ∀ (l : List Oper) (a : Act), wpQuiet P ops C Q l a → wpQuiet P ops C Q' l a
  | [], a, h => hq a h
  | o :: l, a, h => by
    unfold wpQuiet at *
    split
    · rename_i hw
      rw [if_pos hw] at h
      exact Oper.quiet_mono (wpQuiet_post hq l) h
    · rename_i hw
      rw [if_neg hw] at h
      exact wpQuiet_post hq l _ h
theorem calls_over {P : Program} {f : FuncId} {args : Array Value} {W x : World} {v : Value}
    (h : Calls P f args (over W x) fun e w' => e = .returned v ∧ Below (over W x).heap.size (over W x) w') :
    Calls P f args (over W x) fun e w' => e = .returned v ∧ ∃ y, w' = over W y :=
  h.mono fun _ w' ⟨he, hb⟩ => ⟨he, w', over_of (bchain hb (over_below W x))⟩
theorem wp_region_over {P : Program} {id : Nat} {Q : Exit → Act → World → Prop} {a : Act} {w : World} {l : List Oper} (hm : P.follows .mixedOrders = true) (hB : Region.lexB .any l.toArray = true)
    (h : wpQuiet P l.toArray (fun w' => ∃ x, w' = over w x) (fun a' => ∀ w', Below w.heap.size w w' → Q .normal a' w') l a) : (Code.region id l.toArray true).wp P Q a w :=
  wp_region_quiet (C := fun w' => ∃ x, w' = over w x) hm hB ⟨_, over_of (Below.refl _ w).drew⟩ (by
    refine wpQuiet_post ?_ _ _ (by simpa using h)
    rintro a' ha w' ⟨x, rfl⟩
    exact ha _ (over_below w x))

/-! ### Headers -/
/-- Is the header (kind, class, fields) valid? -/
def hvB (k c f : Int) : Bool := decide ((0 ≤ k ∧ k ≤ 4) ∧ (0 ≤ c ∧ c ≤ 60 ∧ 0 ≤ f ∧ f ≤ 30) ∧ ((k = 0 ∨ k = 1) → 0 < c) ∧ (k = 2 → c = 0 ∧ f = 1))
theorem hvB_iff {k c f : Int} : hvB k c f = true ↔ ((0 ≤ k ∧ k ≤ 4) ∧ (0 ≤ c ∧ c ≤ 60 ∧ 0 ≤ f ∧ f ≤ 30) ∧ ((k = 0 ∨ k = 1) → 0 < c) ∧ (k = 2 → c = 0 ∧ f = 1)) := by unfold hvB; exact decide_eq_true_iff
theorem hvB_no {k c f : Int} : hvB k c f = false ↔ ¬ ((0 ≤ k ∧ k ≤ 4) ∧ (0 ≤ c ∧ c ≤ 60 ∧ 0 ≤ f ∧ f ≤ 30) ∧ ((k = 0 ∨ k = 1) → 0 < c) ∧ (k = 2 → c = 0 ∧ f = 1)) := by unfold hvB; exact decide_eq_false_iff_not
/-- The header word. -/
def encI (k c f : Int) : Int := 3 + 4 * k + 256 * c + 16777216 * f
/-- The size of an object. -/
def wordsI (f : Int) : Int := if f < 2 then 4 else 2 + f
theorem wordsI_bd {k c f : Int} (h : hvB k c f = true) : 4 ≤ wordsI f ∧ wordsI f ≤ 32 ∧ 2 + f ≤ wordsI f := by
  have := hvB_iff.1 h
  unfold wordsI
  split <;> omega
def decK (n : Int) : Int := n / 4 % 64
def decC (n : Int) : Int := n / 256 % 65536
def decF (n : Int) : Int := n / 16777216 % 65536
/-- Is the word a header word? -/
def decB (n : Int) : Bool := hvB (decK n) (decC n) (decF n) && encI (decK n) (decC n) (decF n) == n
theorem dec_enc {k c f : Int} (h : hvB k c f = true) : decK (encI k c f) = k ∧ decC (encI k c f) = c ∧ decF (encI k c f) = f := by
  have := hvB_iff.1 h
  unfold decK decC decF encI
  omega
theorem decB_enc {k c f : Int} (h : hvB k c f = true) : decB (encI k c f) = true := by
  obtain ⟨a, b, c⟩ := dec_enc h
  unfold decB
  rw [a, b, c, h]
  simp
theorem decB_iff {n : Int} : decB n = true ↔ hvB (decK n) (decC n) (decF n) = true ∧ encI (decK n) (decC n) (decF n) = n := by unfold decB; simp
theorem encI_bd {k c f : Int} (h : hvB k c f = true) : 3 ≤ encI k c f ∧ encI k c f ≤ 503332095 ∧ encI k c f % 4 = 3 := by
  have := hvB_iff.1 h
  unfold encI
  omega
/-- A word of 64 bits. -/
def U64 (n : Int) : Prop := 0 ≤ n ∧ n < 18446744073709551616
theorem U64.nonneg {n : Int} (h : U64 n) : 0 ≤ n := h.1
theorem U64.of {n : Int} (h0 : 0 ≤ n) (h1 : n < 9223372036854775808) : U64 n := ⟨h0, by omega⟩
theorem u64_wraps (n : Int) (h₀ : 0 ≤ n) (h₁ : n < 2 ^ 64) : IntKind.u64.wrap n = n := by
  simp [IntKind.wrap, IntKind.bits, IntKind.signed]
  omega
theorem and63 {n : Int} (h : U64 n) : bits BinOp.and IntKind.u64 (n / 4) 63 = n / 4 % 64 := by
  obtain ⟨h0, h1⟩ := h
  exact bits_mask .u64 64 (by decide) u64_wraps 6 (by decide) (n / 4) (by omega) (by omega)
theorem and16c {n : Int} (h : U64 n) : bits BinOp.and IntKind.u64 (n / 256) 65535 = n / 256 % 65536 := by
  obtain ⟨h0, h1⟩ := h
  exact bits_mask .u64 64 (by decide) u64_wraps 16 (by decide) (n / 256) (by omega) (by omega)
theorem and16f {n : Int} (h : U64 n) : bits BinOp.and IntKind.u64 (n / 16777216) 65535 = n / 16777216 % 65536 := by
  obtain ⟨h0, h1⟩ := h
  exact bits_mask .u64 64 (by decide) u64_wraps 16 (by decide) (n / 16777216) (by omega) (by omega)
theorem or_enc {k c f : Int} (h : hvB k c f = true) : bits BinOp.or IntKind.u64 (bits BinOp.or IntKind.u64 (bits BinOp.or IntKind.u64 (f * 16777216) (c * 256)) (k * 4)) 3 = encI k c f := by
  have hh := hvB_iff.1 h
  rw [bits_join .u64 64 (by decide) u64_wraps 24 (f * 16777216) (c * 256) (by omega) (by omega) (by omega) (by omega) (by omega) (by omega)]
  rw [bits_join .u64 64 (by decide) u64_wraps 8 (f * 16777216 + c * 256) (k * 4) (by omega) (by omega) (by omega) (by omega) (by omega) (by omega)]
  rw [bits_join .u64 64 (by decide) u64_wraps 2 (f * 16777216 + c * 256 + k * 4) 3 (by omega) (by omega) (by omega) (by omega) (by omega) (by omega)]
  unfold encI
  omega

theorem quo_u64 {n d : Int} (h : U64 n) (hd : 1 ≤ d) : IntKind.u64.wrap (n.tdiv d) = n / d := by
  obtain ⟨h0, h1⟩ := h
  rw [Int.tdiv_eq_ediv_of_nonneg h0]
  have a : 0 ≤ n / d := Int.ediv_nonneg h0 (by omega)
  have b : n / d ≤ n := Int.ediv_le_self d h0
  exact u64_wraps _ a (by omega)
theorem rem_u64 {n d e : Int} (h : 0 ≤ n) (hd : 1 ≤ d) : (n / d).tmod e = n / d % e := Int.tmod_eq_emod_of_nonneg (Int.ediv_nonneg h (by omega))

/-! ### Identities -/
def idB (m s : Int) : Bool := decide ((1 ≤ m ∧ m ≤ 8) ∧ 1 ≤ s ∧ s ≤ 1099511627775)
theorem idB_iff {m s : Int} : idB m s = true ↔ ((1 ≤ m ∧ m ≤ 8) ∧ 1 ≤ s ∧ s ≤ 1099511627775) := by unfold idB; exact decide_eq_true_iff
theorem idB_no {m s : Int} : idB m s = false ↔ ¬ ((1 ≤ m ∧ m ≤ 8) ∧ 1 ≤ s ∧ s ≤ 1099511627775) := by unfold idB; exact decide_eq_false_iff_not
def idI (m s : Int) : Int := m * 281474976710656 + s
def didM (n : Int) : Int := n / 281474976710656
def didS (n : Int) : Int := n % 281474976710656
def didB (n : Int) : Bool := idB (didM n) (didS n)
theorem did_id {m s : Int} (h : idB m s = true) : didM (idI m s) = m ∧ didS (idI m s) = s := by
  have := idB_iff.1 h
  unfold didM didS idI
  omega
theorem idI_bd {m s : Int} (h : idB m s = true) : 0 < idI m s ∧ idI m s < 4503599627370496 := by
  have := idB_iff.1 h
  unfold idI
  omega
theorem and48 {n : Int} (h : U64 n) : bits BinOp.and IntKind.u64 n 281474976710655 = n % 281474976710656 := by
  obtain ⟨h0, h1⟩ := h
  exact bits_mask .u64 64 (by decide) u64_wraps 48 (by decide) n (by omega) (by omega)
end Go.Proofs.Ytgjaafcagnkfdaa
namespace Go.Proofs.Ytgjaafcagnkfdaa
open Go.RowKit
set_option linter.unusedSimpArgs false
set_option linter.unusedVariables false

/-! ### header: the small functions -/
def wthB (c f : Int) : Bool := decide (0 ≤ c ∧ c ≤ 60 ∧ 0 ≤ f ∧ f ≤ 30)

theorem within_any (k c f : Int) (w : World) :
    Calls Try.prog 65 #[.agg #[.int .i64 k, .int .i64 c, .int .i64 f]] w fun e w' => e = .returned (.bool (wthB c f)) ∧ Below w.heap.size w w' := by
  go_enter Try.func65, Try.ntmps65
  go_wp2
  all_goals (go_ret; refine ⟨ret_bool ?_, by (repeat (first | exact Below.refl _ _ | assumption | refine Below.drew ?_ | refine below_drewN ?_ _ | refine balloc ?_ _ | refine Below.setCell ?_ (by first | (simp; done) | (simp; omega) | omega) _ | refine bchain (by assumption) ?_))⟩; unfold wthB; rw [Bool.eq_iff_iff]; simp; omega)

def kindsV : Value := .agg #[.string { data := #[114, 101, 99, 111, 114, 100] }, .func (Fn.func 64) #[] #[],
  .string { data := #[97, 99, 116, 111, 114] }, .func (Fn.func 66) #[] #[],
  .string { data := #[119, 101, 97, 107] }, .func (Fn.func 67) #[] #[],
  .string { data := #[115, 116, 117, 98] }, .func (Fn.func 65) #[] #[],
  .string { data := #[102, 111, 114, 119, 97, 114, 100] }, .func (Fn.func 65) #[] #[]]
theorem kinds_any (w : World) :
    Calls Try.prog 60 #[] w fun e w' => e = .returned kindsV ∧ Below w.heap.size w w' := by
  go_enter Try.func60, Try.ntmps60
  go_wp2
  exact bodyPost_ret (v := kindsV) (by simp [results, Try.results60, go_sem, kindsV]) rfl ⟨rfl, by (repeat (first | exact Below.refl _ _ | assumption | refine Below.drew ?_ | refine below_drewN ?_ _ | refine balloc ?_ _ | refine Below.setCell ?_ (by first | (simp; done) | (simp; omega) | omega) _ | refine bchain (by assumption) ?_))⟩

theorem kinds1_any (k c f : Int) (w : World) :
    Calls Try.prog 64 #[.agg #[.int .i64 k, .int .i64 c, .int .i64 f]] w fun e w' => e = .returned (.bool (decide (0 < c) && wthB c f)) ∧ Below w.heap.size w w' := by
  go_enter Try.func64, Try.ntmps64
  go_wp2_with (go_at_call 65; refine (within_any k c f _).mono ?_; rintro e w' ⟨rfl, hb⟩)
  all_goals (go_ret; refine ⟨ret_bool ?_, by (repeat (first | exact Below.refl _ _ | assumption | refine Below.drew ?_ | refine below_drewN ?_ _ | refine balloc ?_ _ | refine Below.setCell ?_ (by first | (simp; done) | (simp; omega) | omega) _ | refine bchain (by assumption) ?_))⟩; rw [Bool.eq_iff_iff]; simp; try omega)
theorem kinds2_any (k c f : Int) (w : World) :
    Calls Try.prog 66 #[.agg #[.int .i64 k, .int .i64 c, .int .i64 f]] w fun e w' => e = .returned (.bool (decide (0 < c) && wthB c f)) ∧ Below w.heap.size w w' := by
  go_enter Try.func66, Try.ntmps66
  go_wp2_with (go_at_call 65; refine (within_any k c f _).mono ?_; rintro e w' ⟨rfl, hb⟩)
  all_goals (go_ret; refine ⟨ret_bool ?_, by (repeat (first | exact Below.refl _ _ | assumption | refine Below.drew ?_ | refine below_drewN ?_ _ | refine balloc ?_ _ | refine Below.setCell ?_ (by first | (simp; done) | (simp; omega) | omega) _ | refine bchain (by assumption) ?_))⟩; rw [Bool.eq_iff_iff]; simp; try omega)
theorem kinds3_any (k c f : Int) (w : World) :
    Calls Try.prog 67 #[.agg #[.int .i64 k, .int .i64 c, .int .i64 f]] w fun e w' => e = .returned (.bool (decide (c = 0 ∧ f = 1))) ∧ Below w.heap.size w w' := by
  go_enter Try.func67, Try.ntmps67
  go_wp2
  all_goals (go_ret; refine ⟨ret_bool ?_, by (repeat (first | exact Below.refl _ _ | assumption | refine Below.drew ?_ | refine below_drewN ?_ _ | refine balloc ?_ _ | refine Below.setCell ?_ (by first | (simp; done) | (simp; omega) | omega) _ | refine bchain (by assumption) ?_))⟩; rw [Bool.eq_iff_iff]; simp; try omega)

/-! ### header.Valid -/
theorem kinds_f (w : World) (s : ByteArray) (n : Nat) : (Instr.field 108 (.agg #[.string s, .func (Fn.func n) #[] #[]]) 1).run Try.prog w = .ok (.func (Fn.func n) #[] #[]) w := by kernel_rfl
theorem kinds_n (w : World) (s : ByteArray) (n : Nat) : (Instr.field 108 (.agg #[.string s, .func (Fn.func n) #[] #[]]) 0).run Try.prog w = .ok (.string s) w := by kernel_rfl
theorem kinds_i0 (w : World) : (Instr.index 109 kindsV (.int .i64 0)).run Try.prog w = .ok (.agg #[.string { data := #[114, 101, 99, 111, 114, 100] }, .func (Fn.func 64) #[] #[]]) w := by kernel_rfl
theorem kinds_i1 (w : World) : (Instr.index 109 kindsV (.int .i64 1)).run Try.prog w = .ok (.agg #[.string { data := #[97, 99, 116, 111, 114] }, .func (Fn.func 66) #[] #[]]) w := by kernel_rfl
theorem kinds_i2 (w : World) : (Instr.index 109 kindsV (.int .i64 2)).run Try.prog w = .ok (.agg #[.string { data := #[119, 101, 97, 107] }, .func (Fn.func 67) #[] #[]]) w := by kernel_rfl
theorem kinds_i3 (w : World) : (Instr.index 109 kindsV (.int .i64 3)).run Try.prog w = .ok (.agg #[.string { data := #[115, 116, 117, 98] }, .func (Fn.func 65) #[] #[]]) w := by kernel_rfl
theorem kinds_i4 (w : World) : (Instr.index 109 kindsV (.int .i64 4)).run Try.prog w = .ok (.agg #[.string { data := #[102, 111, 114, 119, 97, 114, 100] }, .func (Fn.func 65) #[] #[]]) w := by kernel_rfl
set_option maxRecDepth 100000 in
theorem valid_0 (c f : Int) (w : World) :
    Calls Try.prog 51 #[.agg #[.int .i64 0, .int .i64 c, .int .i64 f]] w fun e w' => e = .returned (.bool (hvB 0 c f)) ∧ Below w.heap.size w w' := by
  have i0 := kinds_i0
  have i1 := kinds_f
  go_enter Try.func51, Try.ntmps51
  go_wp2
  have h0 : ∀ x, (over (w.alloc (.cells #[.int .i64 0, .int .i64 c, .int .i64 f] 46)) x).cell? ⟨w.heap.size, 0, none⟩ = some (.int .i64 0) := over_cell (by simp)
  have h1 : ∀ x, (over (w.alloc (.cells #[.int .i64 0, .int .i64 c, .int .i64 f] 46)) x).cell? ⟨w.heap.size, 1, none⟩ = some (.int .i64 c) := over_cell (by simp)
  have h2 : ∀ x, (over (w.alloc (.cells #[.int .i64 0, .int .i64 c, .int .i64 f] 46)) x).cell? ⟨w.heap.size, 2, none⟩ = some (.int .i64 f) := over_cell (by simp)
  (refine wp_region_over (by kernel_rfl) (by kernel_rfl) ?_); (repeat (go_big_quiet_step ((first | (go_at_call 60; exact calls_over (kinds_any _)) | (go_at_call 64; exact calls_over (kinds1_any 0 c f _)))))); (refine wpQuiet_nil ?_)
  intro w2 hb2
  go_wp2
  go_ret
  refine ⟨ret_bool ?_, by (repeat (first | exact Below.refl _ _ | assumption | refine Below.drew ?_ | refine below_drewN ?_ _ | refine balloc ?_ _ | refine Below.setCell ?_ (by first | (simp; done) | (simp; omega) | omega) _ | refine bchain (by assumption) ?_))⟩
  unfold hvB
  rw [Bool.eq_iff_iff]
  simp [wthB]
  try omega
set_option maxRecDepth 100000 in
theorem valid_1 (c f : Int) (w : World) :
    Calls Try.prog 51 #[.agg #[.int .i64 1, .int .i64 c, .int .i64 f]] w fun e w' => e = .returned (.bool (hvB 1 c f)) ∧ Below w.heap.size w w' := by
  have i0 := kinds_i1
  have i1 := kinds_f
  go_enter Try.func51, Try.ntmps51
  go_wp2
  have h0 : ∀ x, (over (w.alloc (.cells #[.int .i64 1, .int .i64 c, .int .i64 f] 46)) x).cell? ⟨w.heap.size, 0, none⟩ = some (.int .i64 1) := over_cell (by simp)
  have h1 : ∀ x, (over (w.alloc (.cells #[.int .i64 1, .int .i64 c, .int .i64 f] 46)) x).cell? ⟨w.heap.size, 1, none⟩ = some (.int .i64 c) := over_cell (by simp)
  have h2 : ∀ x, (over (w.alloc (.cells #[.int .i64 1, .int .i64 c, .int .i64 f] 46)) x).cell? ⟨w.heap.size, 2, none⟩ = some (.int .i64 f) := over_cell (by simp)
  (refine wp_region_over (by kernel_rfl) (by kernel_rfl) ?_); (repeat (go_big_quiet_step ((first | (go_at_call 60; exact calls_over (kinds_any _)) | (go_at_call 66; exact calls_over (kinds2_any 1 c f _)))))); (refine wpQuiet_nil ?_)
  intro w2 hb2
  go_wp2
  go_ret
  refine ⟨ret_bool ?_, by (repeat (first | exact Below.refl _ _ | assumption | refine Below.drew ?_ | refine below_drewN ?_ _ | refine balloc ?_ _ | refine Below.setCell ?_ (by first | (simp; done) | (simp; omega) | omega) _ | refine bchain (by assumption) ?_))⟩
  unfold hvB
  rw [Bool.eq_iff_iff]
  simp [wthB]
  try omega
set_option maxRecDepth 100000 in
theorem valid_2 (c f : Int) (w : World) :
    Calls Try.prog 51 #[.agg #[.int .i64 2, .int .i64 c, .int .i64 f]] w fun e w' => e = .returned (.bool (hvB 2 c f)) ∧ Below w.heap.size w w' := by
  have i0 := kinds_i2
  have i1 := kinds_f
  go_enter Try.func51, Try.ntmps51
  go_wp2
  have h0 : ∀ x, (over (w.alloc (.cells #[.int .i64 2, .int .i64 c, .int .i64 f] 46)) x).cell? ⟨w.heap.size, 0, none⟩ = some (.int .i64 2) := over_cell (by simp)
  have h1 : ∀ x, (over (w.alloc (.cells #[.int .i64 2, .int .i64 c, .int .i64 f] 46)) x).cell? ⟨w.heap.size, 1, none⟩ = some (.int .i64 c) := over_cell (by simp)
  have h2 : ∀ x, (over (w.alloc (.cells #[.int .i64 2, .int .i64 c, .int .i64 f] 46)) x).cell? ⟨w.heap.size, 2, none⟩ = some (.int .i64 f) := over_cell (by simp)
  (refine wp_region_over (by kernel_rfl) (by kernel_rfl) ?_); (repeat (go_big_quiet_step ((first | (go_at_call 60; exact calls_over (kinds_any _)) | (go_at_call 67; exact calls_over (kinds3_any 2 c f _)))))); (refine wpQuiet_nil ?_)
  intro w2 hb2
  go_wp2
  go_ret
  refine ⟨ret_bool ?_, by (repeat (first | exact Below.refl _ _ | assumption | refine Below.drew ?_ | refine below_drewN ?_ _ | refine balloc ?_ _ | refine Below.setCell ?_ (by first | (simp; done) | (simp; omega) | omega) _ | refine bchain (by assumption) ?_))⟩
  unfold hvB
  rw [Bool.eq_iff_iff]
  simp [wthB]
  try omega
set_option maxRecDepth 100000 in
theorem valid_3 (c f : Int) (w : World) :
    Calls Try.prog 51 #[.agg #[.int .i64 3, .int .i64 c, .int .i64 f]] w fun e w' => e = .returned (.bool (hvB 3 c f)) ∧ Below w.heap.size w w' := by
  have i0 := kinds_i3
  have i1 := kinds_f
  go_enter Try.func51, Try.ntmps51
  go_wp2
  have h0 : ∀ x, (over (w.alloc (.cells #[.int .i64 3, .int .i64 c, .int .i64 f] 46)) x).cell? ⟨w.heap.size, 0, none⟩ = some (.int .i64 3) := over_cell (by simp)
  have h1 : ∀ x, (over (w.alloc (.cells #[.int .i64 3, .int .i64 c, .int .i64 f] 46)) x).cell? ⟨w.heap.size, 1, none⟩ = some (.int .i64 c) := over_cell (by simp)
  have h2 : ∀ x, (over (w.alloc (.cells #[.int .i64 3, .int .i64 c, .int .i64 f] 46)) x).cell? ⟨w.heap.size, 2, none⟩ = some (.int .i64 f) := over_cell (by simp)
  (refine wp_region_over (by kernel_rfl) (by kernel_rfl) ?_); (repeat (go_big_quiet_step ((first | (go_at_call 60; exact calls_over (kinds_any _)) | (go_at_call 65; exact calls_over (within_any 3 c f _)))))); (refine wpQuiet_nil ?_)
  intro w2 hb2
  go_wp2
  go_ret
  refine ⟨ret_bool ?_, by (repeat (first | exact Below.refl _ _ | assumption | refine Below.drew ?_ | refine below_drewN ?_ _ | refine balloc ?_ _ | refine Below.setCell ?_ (by first | (simp; done) | (simp; omega) | omega) _ | refine bchain (by assumption) ?_))⟩
  unfold hvB
  rw [Bool.eq_iff_iff]
  simp [wthB]
  try omega
set_option maxRecDepth 100000 in
theorem valid_4 (c f : Int) (w : World) :
    Calls Try.prog 51 #[.agg #[.int .i64 4, .int .i64 c, .int .i64 f]] w fun e w' => e = .returned (.bool (hvB 4 c f)) ∧ Below w.heap.size w w' := by
  have i0 := kinds_i4
  have i1 := kinds_f
  go_enter Try.func51, Try.ntmps51
  go_wp2
  have h0 : ∀ x, (over (w.alloc (.cells #[.int .i64 4, .int .i64 c, .int .i64 f] 46)) x).cell? ⟨w.heap.size, 0, none⟩ = some (.int .i64 4) := over_cell (by simp)
  have h1 : ∀ x, (over (w.alloc (.cells #[.int .i64 4, .int .i64 c, .int .i64 f] 46)) x).cell? ⟨w.heap.size, 1, none⟩ = some (.int .i64 c) := over_cell (by simp)
  have h2 : ∀ x, (over (w.alloc (.cells #[.int .i64 4, .int .i64 c, .int .i64 f] 46)) x).cell? ⟨w.heap.size, 2, none⟩ = some (.int .i64 f) := over_cell (by simp)
  (refine wp_region_over (by kernel_rfl) (by kernel_rfl) ?_); (repeat (go_big_quiet_step ((first | (go_at_call 60; exact calls_over (kinds_any _)) | (go_at_call 65; exact calls_over (within_any 4 c f _)))))); (refine wpQuiet_nil ?_)
  intro w2 hb2
  go_wp2
  go_ret
  refine ⟨ret_bool ?_, by (repeat (first | exact Below.refl _ _ | assumption | refine Below.drew ?_ | refine below_drewN ?_ _ | refine balloc ?_ _ | refine Below.setCell ?_ (by first | (simp; done) | (simp; omega) | omega) _ | refine bchain (by assumption) ?_))⟩
  unfold hvB
  rw [Bool.eq_iff_iff]
  simp [wthB]
  try omega
end Go.Proofs.Ytgjaafcagnkfdaa
namespace Go.Proofs.Ytgjaafcagnkfdaa
open Go.RowKit
set_option linter.unusedSimpArgs false
set_option linter.unusedVariables false

theorem hvB_low {k c f : Int} (h : k < 0) : hvB k c f = false := hvB_no.2 (by omega)
theorem hvB_high {k c f : Int} (h : 5 ≤ k) : hvB k c f = false := hvB_no.2 (by omega)
set_option maxRecDepth 100000 in
theorem valid_low (k c f : Int) (h : k < 0) (w : World) :
    Calls Try.prog 51 #[.agg #[.int .i64 k, .int .i64 c, .int .i64 f]] w fun e w' => e = .returned (.bool (hvB k c f)) ∧ Below w.heap.size w w' := by
  rw [hvB_low h]
  have h1 : decide (0 ≤ k) = false := by simpa using h
  go_enter Try.func51, Try.ntmps51
  go_wp2
  go_quiet (fail)
  go_wp2
  go_ret
  exact ⟨rfl, by (repeat (first | exact Below.refl _ _ | assumption | refine Below.drew ?_ | refine below_drewN ?_ _ | refine balloc ?_ _ | refine Below.setCell ?_ (by first | (simp; done) | (simp; omega) | omega) _ | refine bchain (by assumption) ?_))⟩
set_option maxRecDepth 100000 in
theorem valid_high (k c f : Int) (h : 5 ≤ k) (w : World) :
    Calls Try.prog 51 #[.agg #[.int .i64 k, .int .i64 c, .int .i64 f]] w fun e w' => e = .returned (.bool (hvB k c f)) ∧ Below w.heap.size w w' := by
  rw [hvB_high h]
  have h1 : decide (0 ≤ k) = true := by simp; omega
  have h2 : decide (k < 5) = false := by simpa using h
  go_enter Try.func51, Try.ntmps51
  go_wp2
  have h0 : ∀ x, (over (w.alloc (.cells #[.int .i64 k, .int .i64 c, .int .i64 f] 46)) x).cell? ⟨w.heap.size, 0, none⟩ = some (.int .i64 k) := over_cell (by simp)
  (refine wp_region_over (by kernel_rfl) (by kernel_rfl) ?_); (repeat (go_big_quiet_step (((go_at_call 60; exact calls_over (kinds_any _)))))); (refine wpQuiet_nil ?_)
  intro w2 hb2
  go_wp2
  go_ret
  exact ⟨rfl, by (repeat (first | exact Below.refl _ _ | assumption | refine Below.drew ?_ | refine below_drewN ?_ _ | refine balloc ?_ _ | refine Below.setCell ?_ (by first | (simp; done) | (simp; omega) | omega) _ | refine bchain (by assumption) ?_))⟩
theorem valid_any (k c f : Int) (w : World) :
    Calls Try.prog 51 #[.agg #[.int .i64 k, .int .i64 c, .int .i64 f]] w fun e w' => e = .returned (.bool (hvB k c f)) ∧ Below w.heap.size w w' := by
  by_cases h : k < 0
  · exact valid_low k c f h w
  by_cases h' : 5 ≤ k
  · exact valid_high k c f h' w
  have : k = 0 ∨ k = 1 ∨ k = 2 ∨ k = 3 ∨ k = 4 := by omega
  rcases this with rfl | rfl | rfl | rfl | rfl
  · exact valid_0 c f w
  · exact valid_1 c f w
  · exact valid_2 c f w
  · exact valid_3 c f w
  · exact valid_4 c f w

/-! ### refmeshref05.Valid -/
end Go.Proofs.Ytgjaafcagnkfdaa
namespace Go.Proofs.Ytgjaafcagnkfdaa
open Go.RowKit
set_option linter.unusedSimpArgs false
set_option linter.unusedVariables false

/-- What the walk needs of a valid header. -/
theorem hv_bd {k c f : Int} (h : hvB k c f = true) : (0 ≤ k ∧ k ≤ 4) ∧ (0 ≤ c ∧ c ≤ 60) ∧ 0 ≤ f ∧ f ≤ 30 := by
  have := hvB_iff.1 h
  omega

/-! ### header.Encode, header.Words -/
theorem encode_no (k c f : Int) (h : hvB k c f = false) (w : World) :
    Calls Try.prog 29 #[.agg #[.int .i64 k, .int .i64 c, .int .i64 f]] w fun e w' => e = .returned (.tuple #[.int .u64 0, .int .i64 1]) ∧ Below w.heap.size w w' := by
  have H := Lib.hid h
  clear h
  have hv := fun W => (valid_any k c f W)
  simp only [H.out] at hv
  go_enter Try.func29, Try.ntmps29
  go_wp2_with (go_at_call 51; refine (hv _).mono ?_; rintro e w' ⟨rfl, hb⟩; obtain ⟨hce, hfr, hsz⟩ := bcell hb)
  go_ret2
  exact ⟨rfl, by (repeat (first | exact Below.refl _ _ | assumption | refine Below.drew ?_ | refine below_drewN ?_ _ | refine balloc ?_ _ | refine Below.setCell ?_ (by first | (simp; done) | (simp; omega) | omega) _ | refine bchain (by assumption) ?_))⟩
theorem encode_yes (k c f : Int) (h : hvB k c f = true) (w : World) :
    Calls Try.prog 29 #[.agg #[.int .i64 k, .int .i64 c, .int .i64 f]] w fun e w' => e = .returned (.tuple #[.int .u64 (encI k c f), .int .i64 0]) ∧ Below w.heap.size w w' := by
  have H := Lib.hid h
  obtain ⟨⟨k0, k1⟩, ⟨c0, c1⟩, f0, f1⟩ := hv_bd h
  clear h
  have hv := fun W => (valid_any k c f W)
  simp only [H.out] at hv
  go_enter Try.func29, Try.ntmps29
  go_wp2_with (go_at_call 51; refine (hv _).mono ?_; rintro e w' ⟨rfl, hb⟩; obtain ⟨hce, hfr, hsz⟩ := bcell hb)
  go_ret2
  exact ⟨ret_two (by first | exact or_enc H.out | (unfold encI; omega)) rfl, by (repeat (first | exact Below.refl _ _ | assumption | refine Below.drew ?_ | refine below_drewN ?_ _ | refine balloc ?_ _ | refine Below.setCell ?_ (by first | (simp; done) | (simp; omega) | omega) _ | refine bchain (by assumption) ?_))⟩
theorem words_no (k c f : Int) (h : hvB k c f = false) (w : World) :
    Calls Try.prog 31 #[.agg #[.int .i64 k, .int .i64 c, .int .i64 f]] w fun e w' => e = .returned (.int .i64 0) ∧ Below w.heap.size w w' := by
  have H := Lib.hid h
  clear h
  have hv := fun W => (valid_any k c f W)
  simp only [H.out] at hv
  go_enter Try.func31, Try.ntmps31
  go_wp2_with (go_at_call 51; refine (hv _).mono ?_; rintro e w' ⟨rfl, hb⟩; obtain ⟨hce, hfr, hsz⟩ := bcell hb)
  go_ret
  exact ⟨rfl, by (repeat (first | exact Below.refl _ _ | assumption | refine Below.drew ?_ | refine below_drewN ?_ _ | refine balloc ?_ _ | refine Below.setCell ?_ (by first | (simp; done) | (simp; omega) | omega) _ | refine bchain (by assumption) ?_))⟩
theorem words_yes (k c f : Int) (h : hvB k c f = true) (w : World) :
    Calls Try.prog 31 #[.agg #[.int .i64 k, .int .i64 c, .int .i64 f]] w fun e w' => e = .returned (.int .i64 (wordsI f)) ∧ Below w.heap.size w w' := by
  have H := Lib.hid h
  obtain ⟨⟨k0, k1⟩, ⟨c0, c1⟩, f0, f1⟩ := hv_bd h
  clear h
  have hv := fun W => (valid_any k c f W)
  simp only [H.out] at hv
  go_enter Try.func31, Try.ntmps31
  go_wp2_with (go_at_call 51; refine (hv _).mono ?_; rintro e w' ⟨rfl, hb⟩; obtain ⟨hce, hfr, hsz⟩ := bcell hb)
  all_goals (go_ret; refine ⟨ret_int ?_, by (repeat (first | exact Below.refl _ _ | assumption | refine Below.drew ?_ | refine below_drewN ?_ _ | refine balloc ?_ _ | refine Below.setCell ?_ (by first | (simp; done) | (simp; omega) | omega) _ | refine bchain (by assumption) ?_))⟩; unfold wordsI; first | (split <;> omega) | omega)

/-! ### refmeshref05.Encode, refmeshref05.Words -/
end Go.Proofs.Ytgjaafcagnkfdaa
namespace Go.Proofs.Ytgjaafcagnkfdaa
open Go.RowKit
set_option linter.unusedSimpArgs false
set_option linter.unusedVariables false

theorem dec_bd (n : Int) : (0 ≤ n / 4 % 64 ∧ n / 4 % 64 < 64) ∧ (0 ≤ n / 256 % 65536 ∧ n / 256 % 65536 < 65536) ∧ 0 ≤ n / 16777216 % 65536 ∧ n / 16777216 % 65536 < 65536 := by omega
theorem decB_split {n : Int} (h : decB n = false) : hvB (n / 4 % 64) (n / 256 % 65536) (n / 16777216 % 65536) = false ∨ (hvB (n / 4 % 64) (n / 256 % 65536) (n / 16777216 % 65536) = true ∧ (encI (n / 4 % 64) (n / 256 % 65536) (n / 16777216 % 65536) != n) = true) := by
  unfold decB decK decC decF at h
  cases hh : hvB (n / 4 % 64) (n / 256 % 65536) (n / 16777216 % 65536)
  · exact .inl rfl
  · rw [hh] at h
    simp at h
    exact .inr ⟨rfl, by simpa using h⟩
theorem decB_join {n : Int} (h : decB n = true) : hvB (n / 4 % 64) (n / 256 % 65536) (n / 16777216 % 65536) = true ∧ (encI (n / 4 % 64) (n / 256 % 65536) (n / 16777216 % 65536) != n) = false := by
  unfold decB decK decC decF at h
  simpa using h

/-! ### header.Decode -/
set_option maxRecDepth 100000 in
theorem decode_yes (n : Int) (hn : U64 n) (h : decB n = true) (w : World) :
    Calls Try.prog 57 #[.int .u64 n] w fun e w' => e = .returned (.tuple #[.agg #[.int .i64 (decK n), .int .i64 (decC n), .int .i64 (decF n)], .int .i64 0]) ∧ Below w.heap.size w w' := by
  obtain ⟨h1, h2⟩ := decB_join h
  have n0 := hn.nonneg
  have a1 := and63 hn
  have a2 := and16c hn
  have a3 := and16f hn
  obtain ⟨⟨k0, k1⟩, ⟨c0, c1⟩, f0, f1⟩ := dec_bd n
  have hv := fun W => encode_yes _ _ _ h1 W
  clear hn h h1
  go_enter Try.func57, Try.ntmps57
  go_wp2_with (go_at_call 29; refine (hv _).mono ?_; rintro e w' ⟨rfl, hb⟩; obtain ⟨hce, hfr, hsz⟩ := bcell hb; have q0 : w'.cell? ⟨w.heap.size, 0, none⟩ = some (.int .i64 0) := bcellv hb (by simp [go_sem, World.cell?_alloc_past]); have q1 : w'.cell? ⟨w.heap.size, 1, none⟩ = some (.int .i64 0) := bcellv hb (by simp [go_sem, World.cell?_alloc_past]); have q2 : w'.cell? ⟨w.heap.size, 2, none⟩ = some (.int .i64 0) := bcellv hb (by simp [go_sem, World.cell?_alloc_past]))
  exact bodyPost_ret (v := .tuple #[.agg #[.int .i64 (n / 4 % 64), .int .i64 (n / 256 % 65536), .int .i64 (n / 16777216 % 65536)], .int .i64 0]) (by simp [results, Try.results57, go_sem, q0, q1, q2]) rfl ⟨rfl, by (repeat (first | exact Below.refl _ _ | assumption | refine Below.drew ?_ | refine below_drewN ?_ _ | refine balloc ?_ _ | refine Below.setCell ?_ (by first | (simp; done) | (simp; omega) | omega) _ | refine bchain (by assumption) ?_))⟩
set_option maxRecDepth 100000 in
theorem decode_no (n : Int) (hn : U64 n) (h : decB n = false) (w : World) :
    Calls Try.prog 57 #[.int .u64 n] w fun e w' => e = .returned (.tuple #[.agg #[.int .i64 0, .int .i64 0, .int .i64 0], .int .i64 11]) ∧ Below w.heap.size w w' := by
  have n0 := hn.nonneg
  have a1 := and63 hn
  have a2 := and16c hn
  have a3 := and16f hn
  obtain ⟨⟨k0, k1⟩, ⟨c0, c1⟩, f0, f1⟩ := dec_bd n
  rcases decB_split h with h1 | ⟨h1, h2⟩
  · have hv := fun W => encode_no _ _ _ h1 W
    clear hn h h1
    go_enter Try.func57, Try.ntmps57
    go_wp2_with (go_at_call 29; refine (hv _).mono ?_; rintro e w' ⟨rfl, hb⟩; obtain ⟨hce, hfr, hsz⟩ := bcell hb; have q0 : w'.cell? ⟨w.heap.size, 0, none⟩ = some (.int .i64 0) := bcellv hb (by simp [go_sem, World.cell?_alloc_past]); have q1 : w'.cell? ⟨w.heap.size, 1, none⟩ = some (.int .i64 0) := bcellv hb (by simp [go_sem, World.cell?_alloc_past]); have q2 : w'.cell? ⟨w.heap.size, 2, none⟩ = some (.int .i64 0) := bcellv hb (by simp [go_sem, World.cell?_alloc_past]))
    exact bodyPost_ret (v := .tuple #[.agg #[.int .i64 0, .int .i64 0, .int .i64 0], .int .i64 11]) (by simp [results, Try.results57, go_sem, q0, q1, q2]) rfl ⟨rfl, by (repeat (first | exact Below.refl _ _ | assumption | refine Below.drew ?_ | refine below_drewN ?_ _ | refine balloc ?_ _ | refine Below.setCell ?_ (by first | (simp; done) | (simp; omega) | omega) _ | refine bchain (by assumption) ?_))⟩
  · have hv := fun W => encode_yes _ _ _ h1 W
    clear hn h h1
    go_enter Try.func57, Try.ntmps57
    go_wp2_with (go_at_call 29; refine (hv _).mono ?_; rintro e w' ⟨rfl, hb⟩; obtain ⟨hce, hfr, hsz⟩ := bcell hb; have q0 : w'.cell? ⟨w.heap.size, 0, none⟩ = some (.int .i64 0) := bcellv hb (by simp [go_sem, World.cell?_alloc_past]); have q1 : w'.cell? ⟨w.heap.size, 1, none⟩ = some (.int .i64 0) := bcellv hb (by simp [go_sem, World.cell?_alloc_past]); have q2 : w'.cell? ⟨w.heap.size, 2, none⟩ = some (.int .i64 0) := bcellv hb (by simp [go_sem, World.cell?_alloc_past]))
    exact bodyPost_ret (v := .tuple #[.agg #[.int .i64 0, .int .i64 0, .int .i64 0], .int .i64 11]) (by simp [results, Try.results57, go_sem, q0, q1, q2]) rfl ⟨rfl, by (repeat (first | exact Below.refl _ _ | assumption | refine Below.drew ?_ | refine below_drewN ?_ _ | refine balloc ?_ _ | refine Below.setCell ?_ (by first | (simp; done) | (simp; omega) | omega) _ | refine bchain (by assumption) ?_))⟩

/-! ### refmeshref05.Decode -/
theorem u64_hi {n : Int} (h : U64 n) : n / 281474976710656 ≤ 65535 := by
  obtain ⟨h0, h1⟩ := h
  omega
theorem id_bd {m s : Int} (h : idB m s = true) : (1 ≤ m ∧ m ≤ 8) ∧ 1 ≤ s ∧ s ≤ 1099511627775 := idB_iff.1 h
theorem encodeID_yes (m s : Int) (h : idB m s = true) (w : World) :
    Calls Try.prog 30 #[.agg #[.int .i64 m, .int .i64 s]] w fun e w' => e = .returned (.tuple #[.int .u64 (idI m s), .int .i64 0]) ∧ Below w.heap.size w w' := by
  obtain ⟨⟨m0, m1⟩, s0, s1⟩ := id_bd h
  clear h
  go_enter Try.func30, Try.ntmps30
  go_wp2
  go_ret2
  exact ⟨ret_two (by unfold idI; omega) rfl, by (repeat (first | exact Below.refl _ _ | assumption | refine Below.drew ?_ | refine below_drewN ?_ _ | refine balloc ?_ _ | refine Below.setCell ?_ (by first | (simp; done) | (simp; omega) | omega) _ | refine bchain (by assumption) ?_))⟩
theorem encodeID_no (m s : Int) (h : idB m s = false) (w : World) :
    Calls Try.prog 30 #[.agg #[.int .i64 m, .int .i64 s]] w fun e w' => e = .returned (.tuple #[.int .u64 0, .int .i64 1]) ∧ Below w.heap.size w w' := by
  have h' := idB_no.1 h
  clear h
  go_enter Try.func30, Try.ntmps30
  go_wp2
  all_goals first | (exfalso; simp_all; done) | (exfalso; omega) | (go_ret2; exact ⟨rfl, by (repeat (first | exact Below.refl _ _ | assumption | refine Below.drew ?_ | refine below_drewN ?_ _ | refine balloc ?_ _ | refine Below.setCell ?_ (by first | (simp; done) | (simp; omega) | omega) _ | refine bchain (by assumption) ?_))⟩)
theorem decodeID_yes (n : Int) (hn : U64 n) (h : didB n = true) (w : World) :
    Calls Try.prog 58 #[.int .u64 n] w fun e w' => e = .returned (.agg #[.int .i64 (didM n), .int .i64 (didS n)]) ∧ Below w.heap.size w w' := by
  unfold didB at h
  unfold didM didS at *
  have n0 := hn.nonneg
  have bd := id_bd h
  have s0 : 0 ≤ n % 281474976710656 := by omega
  have s1 : n % 281474976710656 < 281474976710656 := by omega
  have m1 : n / 281474976710656 ≤ 8 := by omega
  have m0 : 0 ≤ n / 281474976710656 := by omega
  have a1 := and48 hn
  have hv := fun W => encodeID_yes _ _ h W
  clear hn h bd
  go_enter Try.func58, Try.ntmps58
  go_wp2_with (go_at_call 30; refine (hv _).mono ?_; rintro e w' ⟨rfl, hb⟩; obtain ⟨hce, hfr, hsz⟩ := bcell hb; have q0 : w'.cell? ⟨w.heap.size, 0, none⟩ = some (.int .i64 0) := bcellv hb (by simp [go_sem, World.cell?_alloc_past]); have q1 : w'.cell? ⟨w.heap.size, 1, none⟩ = some (.int .i64 0) := bcellv hb (by simp [go_sem, World.cell?_alloc_past]))
  exact bodyPost_ret (v := .agg #[.int .i64 (n / 281474976710656), .int .i64 (n % 281474976710656)]) (by simp [results, Try.results58, go_sem, q0, q1]) rfl ⟨rfl, by (repeat (first | exact Below.refl _ _ | assumption | refine Below.drew ?_ | refine below_drewN ?_ _ | refine balloc ?_ _ | refine Below.setCell ?_ (by first | (simp; done) | (simp; omega) | omega) _ | refine bchain (by assumption) ?_))⟩
theorem decodeID_no (n : Int) (hn : U64 n) (h : didB n = false) (w : World) :
    Calls Try.prog 58 #[.int .u64 n] w fun e w' => e = .returned (.agg #[.int .i64 0, .int .i64 0]) ∧ Below w.heap.size w w' := by
  unfold didB at h
  unfold didM didS at *
  have n0 := hn.nonneg
  have s0 : 0 ≤ n % 281474976710656 := by omega
  have s1 : n % 281474976710656 < 281474976710656 := by omega
  have m1 := u64_hi hn
  have m0 : 0 ≤ n / 281474976710656 := by omega
  have a1 := and48 hn
  have hv := fun W => encodeID_no _ _ h W
  clear hn h
  go_enter Try.func58, Try.ntmps58
  go_wp2_with (go_at_call 30; refine (hv _).mono ?_; rintro e w' ⟨rfl, hb⟩; obtain ⟨hce, hfr, hsz⟩ := bcell hb; have q0 : w'.cell? ⟨w.heap.size, 0, none⟩ = some (.int .i64 0) := bcellv hb (by simp [go_sem, World.cell?_alloc_past]); have q1 : w'.cell? ⟨w.heap.size, 1, none⟩ = some (.int .i64 0) := bcellv hb (by simp [go_sem, World.cell?_alloc_past]))
  exact bodyPost_ret (v := .agg #[.int .i64 0, .int .i64 0]) (by simp [results, Try.results58, go_sem, q0, q1]) rfl ⟨rfl, by (repeat (first | exact Below.refl _ _ | assumption | refine Below.drew ?_ | refine below_drewN ?_ _ | refine balloc ?_ _ | refine Below.setCell ?_ (by first | (simp; done) | (simp; omega) | omega) _ | refine bchain (by assumption) ?_))⟩

end Go.Proofs.Ytgjaafcagnkfdaa
