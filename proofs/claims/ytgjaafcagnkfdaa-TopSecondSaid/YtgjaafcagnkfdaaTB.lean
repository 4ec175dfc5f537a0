/-
  What a space of words is in memory, and what a call may change: plain predicates on worlds. No program in sight but for two type numbers.
-/
import Derived.Test.YtgjaafcagnkfdaaTA
import Derived.OwnWalk
import Derived.Test.YtgjaafcagnkfdaaProg
import Derived.Lib.Walk
import Derived.Lib.SliceRun
import Derived.Lib.AppendZerosOnto
import Derived.Deep.RegionWith
import Derived.BigRegion
import Derived.Deep.DeepCutAuto
namespace Go.Proofs.Ytgjaafcagnkfdaa
open Go.RowKit
set_option linter.unusedSimpArgs false
set_option linter.unusedVariables false

/-- w' is w with new blocks, and with writes to the blocks of S alone. -/
structure Mods (S : Nat → Prop) (w w' : World) : Prop where
  os : w'.os = w.os
  tape : w'.tape = w.tape
  output : w'.output = w.output
  size : w.heap.size ≤ w'.heap.size
  block : ∀ k, k < w.heap.size → ¬ S k → w'.heap[k]? = w.heap[k]?
theorem Mods.refl (S : Nat → Prop) (w : World) : Mods S w w := ⟨rfl, rfl, rfl, Nat.le_refl _, fun _ _ _ => rfl⟩
theorem Mods.of_below {S : Nat → Prop} {w w' : World} (h : Below w.heap.size w w') : Mods S w w' := ⟨h.os, h.tape, h.output, h.size, fun k hk _ => h.block k hk⟩
theorem Mods.below {S : Nat → Prop} {w w' : World} {B : Nat} (h : Mods S w w') (hB : B ≤ w.heap.size) (hS : ∀ k, S k → B ≤ k) : Below B w w' :=
  ⟨h.os, h.tape, h.output, h.size, fun k hk => h.block k (Nat.lt_of_lt_of_le hk hB) (fun hs => absurd (hS k hs) (by omega))⟩
theorem Mods.trans {S S1 : Nat → Prop} {a b c : World} (h : Mods S a b) (k : Mods S1 b c) (hS : ∀ i, S1 i → S i ∨ a.heap.size ≤ i) : Mods S a c :=
  ⟨k.os.trans h.os, k.tape.trans h.tape, k.output.trans h.output, Nat.le_trans h.size k.size, fun i hi hn => (k.block i (Nat.lt_of_lt_of_le hi h.size) (fun hs => (hS i hs).elim hn (by omega))).trans (h.block i hi hn)⟩
theorem Mods.mono {S S1 : Nat → Prop} {a b : World} (h : Mods S a b) (hS : ∀ i, S i → S1 i) : Mods S1 a b := ⟨h.os, h.tape, h.output, h.size, fun i hi hn => h.block i hi (fun hs => hn (hS i hs))⟩
theorem Mods.drew {S : Nat → Prop} {a w : World} (h : Mods S a w) : Mods S a w.drew := ⟨h.os, h.tape, h.output, h.size, h.block⟩
theorem Mods.drewN {S : Nat → Prop} {a w : World} (h : Mods S a w) (n : Nat) : Mods S a (w.drewN n) := ⟨h.os, h.tape, h.output, h.size, h.block⟩
theorem Mods.alloc {S : Nat → Prop} {a w : World} (h : Mods S a w) (o : Obj) : Mods S a (w.alloc o) :=
  ⟨h.os, h.tape, h.output, Nat.le_trans h.size (by simp), fun i hi hn => (Below.heap_alloc w o i (Nat.lt_of_lt_of_le hi h.size)).trans (h.block i hi hn)⟩
theorem Mods.setCell {S : Nat → Prop} {a w : World} (h : Mods S a w) {p : Addr} (hp : S p.block ∨ a.heap.size ≤ p.block) (u : Value) : Mods S a (w.setCell p u) :=
  ⟨h.os, h.tape, h.output, by simpa using h.size, fun i hi hn => (Below.heap_setCell w p u i (by rintro rfl; exact hp.elim hn (by omega))).trans (h.block i hi hn)⟩
theorem Mods.chain {S : Nat → Prop} {a W w1 : World} (h : Below W.heap.size W w1) (k : Mods S a W) : Mods S a w1 := k.trans (Mods.of_below (S := fun _ => False) h) (fun _ hf => hf.elim)

/-- A block that is there, behind a call that makes memory alone. -/
theorem bblock {W w1 : World} (hb : Below W.heap.size W w1) {k : Nat} {o : Obj} (h : W.heap[k]? = some o) : w1.heap[k]? = some o := by
  have hlt : k < W.heap.size := (Array.getElem?_eq_some_iff.1 h).1
  exact (hb.block k hlt).trans h
theorem mblock {S : Nat → Prop} {W w1 : World} (hb : Mods S W w1) {k : Nat} {o : Obj} (h : W.heap[k]? = some o) (hn : ¬ S k) : w1.heap[k]? = some o := by
  have hlt : k < W.heap.size := (Array.getElem?_eq_some_iff.1 h).1
  exact (hb.block k hlt hn).trans h
theorem mcell {S : Nat → Prop} {W w1 : World} (hm : Mods S W w1) {p : Addr} {v : Value} (h : W.cell? p = some v) (hn : ¬ S p.block) : w1.cell? p = some v := by
  have hlt := World.block_lt_of_cell? W p h
  exact (World.cell?_of_block (w := W) (hm.block p.block hlt hn)).trans h
theorem cell_of_block {w : World} {b : Nat} {cs : Array Value} {t : TypeId} (h : w.heap[b]? = some (.cells cs t (0, 0))) (i : Nat) : w.cell? ⟨b, i, none⟩ = cs[i]? := by simp [World.cell?, h]
theorem frozen_of_block {w : World} {b : Nat} {cs : Array Value} {t : TypeId} (h : w.heap[b]? = some (.cells cs t (0, 0))) (i : Nat) : w.frozen? ⟨b, i, none⟩ = false := by simp [World.frozen?, h]

/-- The words of a slice: its row lies in block g; a slice without capacity owns nothing. -/
def RowAt (w : World) (a : Option Addr) (cap : Nat) (ws : List Int) (g : Option Nat) : Prop :=
  ws.length ≤ cap ∧ cap ≤ 9223372036854775807 ∧
  ((g = none ∧ cap = 0) ∨ ∃ (G : Nat) (cur : Array Value), g = some G ∧ a = some ⟨G, 0, none⟩ ∧ w.heap[G]? = some (.cells cur 49 (0, 0)) ∧ cur.size = cap ∧ cur.toList.take ws.length = ws.map (Value.int .u64))
/-- A space: its base, its limit, its words. -/
def SpAt (w : World) (b : Nat) (bs lm : Int) (ws : List Int) (g : Option Nat) : Prop :=
  ∃ (a : Option Addr) (cap : Nat), w.heap[b]? = some (.cells #[.int .i64 bs, .int .i64 lm, .slice a ws.length cap] 69 (0, 0)) ∧ RowAt w a cap ws g ∧ g ≠ some b
/-- The numbers of a space in bounds. -/
structure SpOk (bs lm : Int) (ws : List Int) : Prop where
  b0 : 0 ≤ bs
  top : bs + ws.length ≤ lm
  lm1 : lm ≤ 1099511627776
  u64 : ∀ x ∈ ws, U64 x
def SpS (b : Nat) (g : Option Nat) : Nat → Prop := fun k => k = b ∨ g = some k

theorem RowAt.keep {w w' : World} {a : Option Addr} {cap : Nat} {ws : List Int} {g : Option Nat} (h : RowAt w a cap ws g) (hk : ∀ G o, g = some G → w.heap[G]? = some o → w'.heap[G]? = some o) : RowAt w' a cap ws g := by
  obtain ⟨h1, h2, h3⟩ := h
  refine ⟨h1, h2, ?_⟩
  rcases h3 with h3 | ⟨G, cur, rfl, ha, hh, hs, ht⟩
  · exact .inl h3
  · exact .inr ⟨G, cur, rfl, ha, hk G _ rfl hh, hs, ht⟩
theorem SpAt.keep {w w' : World} {b : Nat} {bs lm : Int} {ws : List Int} {g : Option Nat} (h : SpAt w b bs lm ws g) (hb : ∀ o, w.heap[b]? = some o → w'.heap[b]? = some o) (hk : ∀ G o, g = some G → w.heap[G]? = some o → w'.heap[G]? = some o) : SpAt w' b bs lm ws g := by
  obtain ⟨a, cap, h1, h2, h3⟩ := h
  exact ⟨a, cap, hb _ h1, h2.keep hk, h3⟩
theorem SpAt.below {w w' : World} {b : Nat} {bs lm : Int} {ws : List Int} {g : Option Nat} (h : SpAt w b bs lm ws g) (hb : Below w.heap.size w w') : SpAt w' b bs lm ws g :=
  h.keep (fun _ => bblock hb) (fun _ _ _ => bblock hb)
theorem SpAt.mods {S : Nat → Prop} {w w' : World} {b : Nat} {bs lm : Int} {ws : List Int} {g : Option Nat} (h : SpAt w b bs lm ws g) (hm : Mods S w w') (hb : ¬ S b) (hg : ∀ G, g = some G → ¬ S G) : SpAt w' b bs lm ws g :=
  h.keep (fun _ ho => mblock hm ho hb) (fun _ _ e ho => mblock hm ho (hg _ e))
theorem SpAt.lt {w : World} {b : Nat} {bs lm : Int} {ws : List Int} {g : Option Nat} (h : SpAt w b bs lm ws g) : b < w.heap.size := by
  obtain ⟨a, cap, h1, h2, h3⟩ := h
  exact (Array.getElem?_eq_some_iff.1 h1).1
theorem SpAt.glt {w : World} {b : Nat} {bs lm : Int} {ws : List Int} {g : Option Nat} (h : SpAt w b bs lm ws g) : ∀ G, g = some G → G < w.heap.size := by
  rintro G rfl
  obtain ⟨a, cap, h1, ⟨_, _, h2⟩, h3⟩ := h
  rcases h2 with ⟨h, _⟩ | ⟨G', cur, e, _, hh, _⟩
  · cases h
  · cases e
    exact (Array.getElem?_eq_some_iff.1 hh).1
/-- The cells that a walk reads. -/
theorem SpAt.cells {w : World} {b : Nat} {bs lm : Int} {ws : List Int} {g : Option Nat} (h : SpAt w b bs lm ws g) :
    ∃ (a : Option Addr) (cap : Nat), w.cell? ⟨b, 0, none⟩ = some (.int .i64 bs) ∧ w.cell? ⟨b, 1, none⟩ = some (.int .i64 lm) ∧ w.cell? ⟨b, 2, none⟩ = some (.slice a ws.length cap) ∧ RowAt w a cap ws g := by
  obtain ⟨a, cap, h1, h2, h3⟩ := h
  exact ⟨a, cap, by rw [cell_of_block h1]; rfl, by rw [cell_of_block h1]; rfl, by rw [cell_of_block h1]; rfl, h2⟩
/-- A word of a row that is not empty. -/
theorem RowAt.word {w : World} {a : Option Addr} {cap : Nat} {ws : List Int} {g : Option Nat} (h : RowAt w a cap ws g) {i : Nat} (hi : i < ws.length) :
    ∃ G : Nat, g = some G ∧ a = some ⟨G, 0, none⟩ ∧ w.cell? ⟨G, i, none⟩ = some (.int .u64 (ws.getD i 0)) ∧ w.frozen? ⟨G, i, none⟩ = false := by
  obtain ⟨h1, h2, h3⟩ := h
  rcases h3 with ⟨_, h3⟩ | ⟨G, cur, rfl, ha, hh, hs, ht⟩
  · omega
  · refine ⟨G, rfl, ha, ?_, frozen_of_block hh i⟩
    rw [cell_of_block hh]
    have e : (cur.toList.take ws.length)[i]? = (ws.map (Value.int .u64))[i]? := by rw [ht]
    rw [List.getElem?_take_of_lt hi] at e
    rw [← Array.getElem?_toList, e]
    simp [List.getD, hi]

/-! ### Writing a row from a place on -/
def wrow (cur : Array Value) (o : Nat) : List Value → Array Value
  | [] => cur
  | v :: vs => wrow (cur.setIfInBounds o v) (o + 1) vs
theorem wrow_size (vs : List Value) : ∀ (cur : Array Value) (o : Nat), (wrow cur o vs).size = cur.size := by
  induction vs with
  | nil => intro cur o; rfl
  | cons v vs ih => intro cur o; simp [wrow, ih]
theorem wrow_list (vs : List Value) : ∀ (cur : Array Value) (o : Nat), o + vs.length ≤ cur.size → (wrow cur o vs).toList = cur.toList.take o ++ vs ++ cur.toList.drop (o + vs.length) := by
  induction vs with
  | nil => intro cur o h; simp [wrow]
  | cons v vs ih =>
    intro cur o h
    simp only [List.length_cons] at h
    rw [wrow, ih _ _ (by simp; omega)]
    simp only [Array.toList_setIfInBounds, List.length_cons]
    have e1 : (cur.toList.set o v).take (o + 1) = cur.toList.take o ++ [v] := by
      rw [List.take_succ_eq_append_getElem (by simp; omega)]
      simp [List.take_set_of_le]
    rw [e1, List.drop_set_of_lt (by omega), show o + 1 + vs.length = o + (vs.length + 1) by omega]
    simp
theorem setCells_heap (b : Nat) (t : TypeId) (vs : List Value) : ∀ (o : Nat) (w : World) (cur : Array Value), w.heap[b]? = some (.cells cur t (0, 0)) → (w.setCells b o vs).heap[b]? = some (.cells (wrow cur o vs) t (0, 0)) := by
  induction vs with
  | nil => intro o w cur h; exact h
  | cons v vs ih =>
    intro o w cur h
    exact ih (o + 1) _ _ (heap_setCell_same w b o cur t v h)
theorem setCells_mods {S : Nat → Prop} {a : World} (b : Nat) (hb : S b ∨ a.heap.size ≤ b) (vs : List Value) : ∀ (o : Nat) (w : World), Mods S a w → Mods S a (w.setCells b o vs) := by
  induction vs with
  | nil => intro o w h; exact h
  | cons v vs ih => intro o w h; exact ih (o + 1) _ (h.setCell (p := ⟨b, o, none⟩) hb v)
theorem setCells_other (b : Nat) (vs : List Value) {k : Nat} (hk : k ≠ b) : ∀ (o : Nat) (w : World), (w.setCells b o vs).heap[k]? = w.heap[k]? := by
  induction vs with
  | nil => intro o w; rfl
  | cons v vs ih => intro o w; exact (ih (o + 1) _).trans (heap_setCell_other w _ k v hk)
end Go.Proofs.Ytgjaafcagnkfdaa
namespace Go.Proofs.Ytgjaafcagnkfdaa
open Go.RowKit
set_option linter.unusedSimpArgs false
set_option linter.unusedVariables false

theorem alloc3 {w : World} {a a' b b' : Int} {v : Value} {T : TypeId} (h : a = a') (g : b = b') : w.alloc (.cells #[.int .i64 a, .int .i64 b, v] T) = w.alloc (.cells #[.int .i64 a', .int .i64 b', v] T) := by rw [h, g]
def newLm (bs lm : Int) : Int := max (min lm (max (max bs 0) 4294967296)) (max bs 0)
theorem new_any (bs lm : Int) (w : World) :
    Calls Try.prog 28 #[.int .i64 bs, .int .i64 lm] w fun e w' => e = .returned (.pointer (some ⟨w.heap.size, 0, none⟩)) ∧ w.alloc (.cells #[.int .i64 (max bs 0), .int .i64 (newLm bs lm), .slice none 0 0] 69) = w' := by
  go_enter Try.func28, Try.ntmps28
  go_wp2
  all_goals (go_ret; exact ⟨rfl, alloc3 (by omega) (by unfold newLm; first | omega | (split at * <;> omega))⟩)
theorem base_any {w : World} {b : Nat} {bs lm : Int} {ws : List Int} {g : Option Nat} (h : SpAt w b bs lm ws g) :
    Calls Try.prog 10 #[.pointer (some ⟨b, 0, none⟩)] w fun e w' => e = .returned (.int .i64 bs) ∧ Below w.heap.size w w' := by
  obtain ⟨a, cap, c0, c1, c2, hr⟩ := h.cells
  clear h hr
  go_enter Try.func10, Try.ntmps10
  go_wp2
  go_ret
  exact ⟨rfl, by (repeat (first | exact Below.refl _ _ | assumption | refine Below.drew ?_ | refine below_drewN ?_ _ | refine balloc ?_ _ | refine Below.setCell ?_ (by first | (simp; done) | (simp; omega) | omega) _ | refine bchain (by assumption) ?_))⟩
theorem top_any {w : World} {b : Nat} {bs lm : Int} {ws : List Int} {g : Option Nat} (h : SpAt w b bs lm ws g) (hk : SpOk bs lm ws) :
    Calls Try.prog 9 #[.pointer (some ⟨b, 0, none⟩)] w fun e w' => e = .returned (.int .i64 (bs + ws.length)) ∧ Below w.heap.size w w' := by
  obtain ⟨a, cap, c0, c1, c2, hr⟩ := h.cells
  obtain ⟨b0, b1, b2, _⟩ := hk
  clear h hr
  have l0 : (0 : Int) ≤ (ws.length : Int) := by omega
  generalize (ws.length) = n at *
  go_enter Try.func9, Try.ntmps9
  go_wp2
  go_quiet (fail)
  go_wp2
  go_ret
  exact ⟨rfl, by (repeat (first | exact Below.refl _ _ | assumption | refine Below.drew ?_ | refine below_drewN ?_ _ | refine balloc ?_ _ | refine Below.setCell ?_ (by first | (simp; done) | (simp; omega) | omega) _ | refine bchain (by assumption) ?_))⟩
def inB (bs : Int) (n : Nat) (a : Int) : Bool := decide (bs ≤ a ∧ a < bs + n)
theorem contains_any {w : World} {b : Nat} {bs lm : Int} {ws : List Int} {g : Option Nat} (h : SpAt w b bs lm ws g) (hk : SpOk bs lm ws) (x : Int) :
    Calls Try.prog 34 #[.pointer (some ⟨b, 0, none⟩), .int .i64 x] w fun e w' => e = .returned (.bool (inB bs ws.length x)) ∧ Below w.heap.size w w' := by
  have ht := fun (W : World) (H : SpAt W b bs lm ws g) => top_any H hk
  obtain ⟨a, cap, c0, c1, c2, hr⟩ := h.cells
  go_enter Try.func34, Try.ntmps34
  go_wp2_with (go_at_call 9; refine (ht _ h).mono ?_; rintro e wz ⟨rfl, hz⟩)
  all_goals (go_ret; refine ⟨ret_bool ?_, by (repeat (first | exact Below.refl _ _ | assumption | refine Below.drew ?_ | refine below_drewN ?_ _ | refine balloc ?_ _ | refine Below.setCell ?_ (by first | (simp; done) | (simp; omega) | omega) _ | refine bchain (by assumption) ?_))⟩; unfold inB; rw [Bool.eq_iff_iff]; simp; try omega)

theorem inB_iff {bs : Int} {n : Nat} {a : Int} : inB bs n a = true ↔ bs ≤ a ∧ a < bs + n := by unfold inB; simp
theorem load_no {w : World} {b : Nat} {bs lm : Int} {ws : List Int} {g : Option Nat} (h : SpAt w b bs lm ws g) (hk : SpOk bs lm ws) (x : Int) (hx : inB bs ws.length x = false) :
    Calls Try.prog 49 #[.pointer (some ⟨b, 0, none⟩), .int .i64 x] w fun e w' => e = .returned (.tuple #[.int .u64 0, .int .i64 2]) ∧ Below w.heap.size w w' := by
  have hc := contains_any h hk x
  rw [hx] at hc
  clear hx h
  go_enter Try.func49, Try.ntmps49
  go_wp2_with (go_at_call 34; refine hc.mono ?_; rintro e wz ⟨rfl, hz⟩)
  go_ret2
  exact ⟨rfl, by (repeat (first | exact Below.refl _ _ | assumption | refine Below.drew ?_ | refine below_drewN ?_ _ | refine balloc ?_ _ | refine Below.setCell ?_ (by first | (simp; done) | (simp; omega) | omega) _ | refine bchain (by assumption) ?_))⟩
theorem load_yes {w : World} {b : Nat} {bs lm : Int} {ws : List Int} {g : Option Nat} (h : SpAt w b bs lm ws g) (hk : SpOk bs lm ws) (i : Nat) (hi : i < ws.length) :
    Calls Try.prog 49 #[.pointer (some ⟨b, 0, none⟩), .int .i64 (bs + i)] w fun e w' => e = .returned (.tuple #[.int .u64 (ws.getD i 0), .int .i64 0]) ∧ Below w.heap.size w w' := by
  have hc := contains_any h hk (bs + i)
  rw [inB_iff.2 ⟨by omega, by omega⟩] at hc
  obtain ⟨b0, b1, b2, _⟩ := hk
  have l0 : (0 : Int) ≤ (i : Int) := by omega
  have l1 : (i : Int) < (ws.length : Int) := by omega
  go_enter Try.func49, Try.ntmps49
  go_wp2_with fail
  refine hc.mono ?_
  rintro e w1 ⟨rfl, hb1⟩
  obtain ⟨a, cap, c0, c1, c2, hr⟩ := (h.below hb1).cells
  obtain ⟨G, rfl, rfl, q, _⟩ := hr.word hi
  clear h hc hr
  generalize ws.length = n at *
  generalize hx : ws.getD i 0 = x at *
  have HX := Lib.hid hx
  clear hx
  go_wp2_with fail
  have s1 : IntKind.i64.wrap (bs + (i : Int) - bs) = (i : Int) := by rw [show bs + (i : Int) - bs = (i : Int) by omega]; exact IntWalk.i64_in _ (by omega)
  have s2 : ((i : Int)).toNat = i := by omega
  go_quiet (fail)
  clear s1 s2
  go_wp2
  go_ret2
  exact ⟨ret_two HX.out.symm rfl, by (repeat (first | exact Below.refl _ _ | assumption | refine Below.drew ?_ | refine below_drewN ?_ _ | refine balloc ?_ _ | refine Below.setCell ?_ (by first | (simp; done) | (simp; omega) | omega) _ | refine bchain (by assumption) ?_))⟩
theorem store_no {w : World} {b : Nat} {bs lm : Int} {ws : List Int} {g : Option Nat} (h : SpAt w b bs lm ws g) (hk : SpOk bs lm ws) (x u : Int) (hx : inB bs ws.length x = false) :
    Calls Try.prog 50 #[.pointer (some ⟨b, 0, none⟩), .int .i64 x, .int .u64 u] w fun e w' => e = .returned (.int .i64 2) ∧ Below w.heap.size w w' := by
  have hc := contains_any h hk x
  rw [hx] at hc
  clear hx h
  go_enter Try.func50, Try.ntmps50
  go_wp2_with (go_at_call 34; refine hc.mono ?_; rintro e wz ⟨rfl, hz⟩)
  go_ret
  exact ⟨rfl, by (repeat (first | exact Below.refl _ _ | assumption | refine Below.drew ?_ | refine below_drewN ?_ _ | refine balloc ?_ _ | refine Below.setCell ?_ (by first | (simp; done) | (simp; omega) | omega) _ | refine bchain (by assumption) ?_))⟩
theorem take_set {cur : Array Value} {ws : List Int} {i : Nat} (hi : i < ws.length) (u : Int) (h : cur.toList.take ws.length = ws.map (Value.int .u64)) : (cur.setIfInBounds i (.int .u64 u)).toList.take (ws.set i u).length = (ws.set i u).map (Value.int .u64) := by
  rw [Array.toList_setIfInBounds, List.length_set, List.take_set, h, List.map_set]
theorem store_yes {w : World} {b : Nat} {bs lm : Int} {ws : List Int} {g : Option Nat} (h : SpAt w b bs lm ws g) (hk : SpOk bs lm ws) (i : Nat) (hi : i < ws.length) (u : Int) :
    Calls Try.prog 50 #[.pointer (some ⟨b, 0, none⟩), .int .i64 (bs + i), .int .u64 u] w fun e w' => e = .returned (.int .i64 0) ∧ SpAt w' b bs lm (ws.set i u) g ∧ Mods (fun k => g = some k) w w' := by
  have hc := contains_any h hk (bs + i)
  rw [inB_iff.2 ⟨by omega, by omega⟩] at hc
  obtain ⟨b0, b1, b2, _⟩ := hk
  have l0 : (0 : Int) ≤ (i : Int) := by omega
  have l1 : (i : Int) < (ws.length : Int) := by omega
  go_enter Try.func50, Try.ntmps50
  go_wp2_with fail
  refine hc.mono ?_
  rintro e w1 ⟨rfl, hb1⟩
  have h1 := h.below hb1
  have hG := h.glt
  obtain ⟨a, cap, c0, c1, c2, hr⟩ := h1.cells
  obtain ⟨G, rfl, rfl, q, q'⟩ := hr.word hi
  have hgl := hG G rfl
  have hfin : ∀ n, SpAt (w1.drewN n |>.setCell ⟨G, i, none⟩ (.int .u64 u)) b bs lm (ws.set i u) (some G) := by
    intro n
    obtain ⟨a', cap', e1, ⟨e2, e3, e4⟩, e5⟩ := h1
    rcases e4 with ⟨e4, _⟩ | ⟨G', cur, f1, f2, f3, f4, f5⟩
    · cases e4
    · cases f1
      have hne : b ≠ G := fun e => e5 (by rw [e])
      refine ⟨a', cap', ?_, ⟨by simpa using e2, e3, .inr ⟨G, cur.setIfInBounds i (.int .u64 u), rfl, f2, ?_, by simpa using f4, take_set hi u f5⟩⟩, e5⟩
      · rw [heap_setCell_other _ _ _ _ (by simpa using hne)]
        simpa using e1
      · exact heap_setCell_same (w1.drewN n) G i cur _ _ (by simpa using f3)
  have HF := Lib.hid hfin
  clear h hc hr h1 hG hfin
  generalize ws.length = n at *
  generalize ws.getD i 0 = x at *
  go_wp2_with fail
  have s2 : (bs + (i : Int) - bs).toNat = i := by omega
  go_region
  all_goals
    clear s2
    go_wp2
    go_ret
    exact ⟨rfl, HF.out 1, by (repeat (first | exact Mods.refl _ _ | assumption | refine Mods.drew ?_ | refine Mods.drewN ?_ _ | refine Mods.alloc ?_ _ | refine Mods.setCell ?_ (by first | exact .inl rfl | exact .inl (.inl rfl) | exact .inl (.inr rfl) | (right; simp; done) | (right; simp; omega)) _ | refine Mods.chain (by assumption) ?_))⟩
end Go.Proofs.Ytgjaafcagnkfdaa
namespace Go.Proofs.Ytgjaafcagnkfdaa
open Go.RowKit
set_option linter.unusedSimpArgs false
set_option linter.unusedVariables false

theorem u64_info : (Try.prog.info? 49).map (fun i => (i.zero, i.size, i.bytes)) = some (some (.int .u64 0), 1, 8) := by kernel_rfl
theorem grow_room (base : Option Addr) (l c n : Nat) (w : World) (hlc : l ≤ c) (hc63 : c ≤ 9223372036854775807) (hroom : l + n ≤ c) :
    Calls Try.prog 32 #[.slice base l c, .int .i64 n] w fun e w' => e = .returned (.slice base l c) ∧ w = w' := by
  have h1 : ¬ ((n : Int) < 0) := by omega
  have h2 : wrap64 ((c : Int) - (l : Int)) = (c : Int) - (l : Int) := by unfold wrap64; omega
  have h3 : wrap64 ((n : Int) - ((c : Int) - (l : Int))) = (n : Int) - ((c : Int) - (l : Int)) := by unfold wrap64; omega
  have h4 : ¬ ((n : Int) - ((c : Int) - (l : Int)) > 0) := by omega
  go_enter Try.func32, Try.ntmps32
  go_wp2
  go_ret
  exact ⟨rfl, rfl⟩
set_option maxHeartbeats 4000000 in
set_option maxRecDepth 100000 in
theorem grow_grow (base : Option Addr) (l c n : Nat) (cs : List Value) (w : World) (hlc : l ≤ c) (hroom : c < l + n) (hbig : (l + n) * 8 ≤ 140737488355328)
    (hcl : cs.length = c) (hnil : base = none → c = 0) (hcs : ∀ a, base = some a → ∀ j v, cs[j]? = some v → w.cell? (a.add j) = some v) :
    Calls Try.prog 32 #[.slice base l c, .int .i64 n] w fun e w' => ∃ (C : Nat) (zs : Array Value), l + n ≤ C ∧ C ≤ 9223372036854775807 ∧ (cs.toArray ++ zs).size = C ∧ e = .returned (.slice (some ⟨w.heap.size, 0, none⟩) l C) ∧ w' = w.drew.alloc (.cells (cs.toArray ++ zs) 49) := by
  obtain ⟨i0, hi0, hz0, hs0, hby⟩ := info_parts u64_info
  have h1 : ¬ ((n : Int) < 0) := by omega
  have h2 : wrap64 ((c : Int) - (l : Int)) = (c : Int) - (l : Int) := by unfold wrap64; omega
  have h3 : wrap64 ((n : Int) - ((c : Int) - (l : Int))) = (n : Int) - ((c : Int) - (l : Int)) := by unfold wrap64; omega
  have h4 : (n : Int) - ((c : Int) - (l : Int)) > 0 := by omega
  have hck : c + (l + n - c) = l + n := by omega
  have hold : (Builtin.firstCells i0.size c (.slice base c c)).run Try.prog w.drew = .ok cs.toArray w.drew := by
    cases base with
    | none =>
      have h0 := hnil rfl
      subst h0
      have hc0 : cs = [] := List.length_eq_zero_iff.1 (by simpa using hcl)
      rw [hc0]
      exact run_firstCells_none w.drew i0.size 0 0 0
    | some a => exact run_firstCells_some w.drew i0.size c a c c cs (by rw [hs0]; simpa using hcl) (fun j v hj => hcs a rfl j v hj)
  obtain ⟨zs, hzs⟩ : ∃ zs : Array Value, zs = Builtin.zeroCells (Value.int .u64 0).cells (l + n - c) ++ Builtin.zeroCells (Value.int .u64 0).cells (grownCap w (l + n) c 49 - (l + n)) := ⟨_, rfl⟩
  have hrz : ∀ ty, (Builtin.append_ #[28, 3] ty #[.slice base c c, .int .i64 ((n : Int) - ((c : Int) - (l : Int)))]).run Try.prog w =
      .ok (.slice (some ⟨w.heap.size, 0, none⟩) (l + n) (grownCap w (l + n) c 49)) (w.drew.alloc (.cells (cs.toArray ++ zs) 49)) := fun ty => by
    have h := Lib.run_append_grow_zeros w 28 3 ty 49 i0 (.int .u64 0) .i64 .i64 Try.underlying28 Try.underlying3 hi0 hz0 base c c cs hold (l + n - c) (by omega) (by omega) (by omega) (by omega)
      (by rw [hby]; omega)
      (by rw [hck, hby]; exact growslice_fits hroom hbig)
    rw [hck] at h
    rw [show (n : Int) - ((c : Int) - (l : Int)) = ((l + n - c : Nat) : Int) by omega, hzs, ← Array.append_assoc]
    exact h
  have hGn : l + n ≤ grownCap w (l + n) c 49 := grownCap_ge w _ _ _
  have hG63 : grownCap w (l + n) c 49 ≤ 9223372036854775807 := by
    have := grownCap_le_maxLen w (l + n) c 49 (by unfold maxLen; omega)
    unfold maxLen at this
    omega
  have hsz : (cs.toArray ++ zs).size = grownCap w (l + n) c 49 := by
    rw [hzs]
    simp [Builtin.zeroCells, hcl, Value.cells]
    omega
  have HF : Hid (∃ (C : Nat) (zs' : Array Value), l + n ≤ C ∧ C ≤ 9223372036854775807 ∧ (cs.toArray ++ zs').size = C ∧ C = grownCap w (l + n) c 49 ∧ zs' = zs) := ⟨_, zs, hGn, hG63, hsz, rfl, rfl⟩
  generalize hG : grownCap w (l + n) c 49 = C at *
  clear hG hold hck hzs hcs hcl hnil hi0 hz0 hs0 hby hsz
  cases base with
  | none =>
    go_enter Try.func32, Try.ntmps32
    go_wp2_with (at_builtin; refine Lib.wpList_append_run _ rfl _ _ _ _ rfl _ _ rfl rfl _ _ (hrz _) ?_)
    all_goals (go_ret; obtain ⟨C', zs', a1, a2, a3, rfl, rfl⟩ := HF.out; exact ⟨_, a1, a2, _, by simpa using a3, rfl, rfl⟩)
  | some a =>
    obtain ⟨ab, ao, asp⟩ := a
    go_enter Try.func32, Try.ntmps32
    go_wp2_with (at_builtin; refine Lib.wpList_append_run _ rfl _ _ _ _ rfl _ _ rfl rfl _ _ (hrz _) ?_)
    all_goals (go_ret; obtain ⟨C', zs', a1, a2, a3, rfl, rfl⟩ := HF.out; exact ⟨_, a1, a2, _, by simpa using a3, rfl, rfl⟩)
end Go.Proofs.Ytgjaafcagnkfdaa
namespace Go.Proofs.Ytgjaafcagnkfdaa
open Go.RowKit
set_option linter.unusedSimpArgs false
set_option linter.unusedVariables false

set_option maxRecDepth 100000 in
theorem alloc_badH (b : Nat) (k c f m s : Int) (h : hvB k c f = false) (w : World) :
    Calls Try.prog 13 #[.pointer (some ⟨b, 0, none⟩), .agg #[.int .i64 k, .int .i64 c, .int .i64 f], .agg #[.int .i64 m, .int .i64 s]] w fun e w' => e = .returned (.tuple #[.int .i64 0, .int .i64 1]) ∧ Below w.heap.size w w' := by
  have h1 := fun W => encode_no k c f h W
  clear h
  go_enter Try.func13, Try.ntmps13
  go_wp2_with (first | (go_at_call 29; refine (h1 _).mono ?_; rintro e wz ⟨rfl, hz⟩))
  go_ret2
  exact ⟨rfl, by (repeat (first | exact Below.refl _ _ | assumption | refine Below.drew ?_ | refine below_drewN ?_ _ | refine balloc ?_ _ | refine Below.setCell ?_ (by first | (simp; done) | (simp; omega) | omega) _ | refine bchain (by assumption) ?_))⟩
set_option maxRecDepth 100000 in
theorem alloc_badI (b : Nat) (k c f m s : Int) (h : hvB k c f = true) (g : idB m s = false) (w : World) :
    Calls Try.prog 13 #[.pointer (some ⟨b, 0, none⟩), .agg #[.int .i64 k, .int .i64 c, .int .i64 f], .agg #[.int .i64 m, .int .i64 s]] w fun e w' => e = .returned (.tuple #[.int .i64 0, .int .i64 1]) ∧ Below w.heap.size w w' := by
  have h1 := fun W => encode_yes k c f h W
  have h2 := fun W => encodeID_no m s g W
  generalize encI k c f = x at *
  clear h g
  go_enter Try.func13, Try.ntmps13
  go_wp2_with fail
  refine (h1 _).mono ?_
  rintro e w1 ⟨rfl, hb1⟩
  have q0 : w1.cell? ⟨w.heap.size + 1, 0, none⟩ = some (.int .i64 m) := bcellv hb1 (by simp [go_sem])
  have q1 : w1.cell? ⟨w.heap.size + 1, 1, none⟩ = some (.int .i64 s) := bcellv hb1 (by simp [go_sem])
  go_wp2_with (first | (go_at_call 30; refine (h2 _).mono ?_; rintro e wz ⟨rfl, hz⟩))
  go_ret2
  exact ⟨rfl, by (repeat (first | exact Below.refl _ _ | assumption | refine Below.drew ?_ | refine below_drewN ?_ _ | refine balloc ?_ _ | refine Below.setCell ?_ (by first | (simp; done) | (simp; omega) | omega) _ | refine bchain (by assumption) ?_))⟩
theorem over_sp {W : World} {b : Nat} {bs lm : Int} {ws : List Int} {g : Option Nat} (h : SpAt W b bs lm ws g) (x : World) : SpAt (over W x) b bs lm ws g := h.below (over_below W x)
set_option maxRecDepth 100000 in
set_option maxHeartbeats 1000000 in
theorem alloc_full {w : World} {b : Nat} {bs lm : Int} {ws : List Int} {g : Option Nat} (hs : SpAt w b bs lm ws g) (hk : SpOk bs lm ws) (k c f m s : Int) (h : hvB k c f = true) (hi : idB m s = true) (hf : lm < bs + ws.length + wordsI f) :
    Calls Try.prog 13 #[.pointer (some ⟨b, 0, none⟩), .agg #[.int .i64 k, .int .i64 c, .int .i64 f], .agg #[.int .i64 m, .int .i64 s]] w fun e w' => e = .returned (.tuple #[.int .i64 0, .int .i64 8]) ∧ Below w.heap.size w w' := by
  have h1 := fun W => encode_yes k c f h W
  have h2 := fun W => encodeID_yes m s hi W
  have h3 := fun W => words_yes k c f h W
  have h4 := fun (W : World) (H : SpAt W b bs lm ws g) => top_any H hk
  obtain ⟨y0, y1, y2⟩ := wordsI_bd h
  obtain ⟨b0, b1, b2, _⟩ := hk
  generalize encI k c f = x at *
  generalize idI m s = z at *
  generalize wordsI f = y at *
  clear h hi
  have hs0 := (hs.below (balloc (balloc (Below.refl _ _) (.cells #[.int .i64 k, .int .i64 c, .int .i64 f] 46)) (.cells #[.int .i64 m, .int .i64 s] 48)))
  go_enter Try.func13, Try.ntmps13
  go_wp2_with fail
  refine (h1 _).mono ?_
  rintro e w1 ⟨rfl, hb1⟩
  have p0 : w1.cell? ⟨w.heap.size, 0, none⟩ = some (.int .i64 k) := bcellv hb1 (by simp [go_sem])
  have p1 : w1.cell? ⟨w.heap.size, 1, none⟩ = some (.int .i64 c) := bcellv hb1 (by simp [go_sem])
  have p2 : w1.cell? ⟨w.heap.size, 2, none⟩ = some (.int .i64 f) := bcellv hb1 (by simp [go_sem])
  have q0 : w1.cell? ⟨w.heap.size + 1, 0, none⟩ = some (.int .i64 m) := bcellv hb1 (by simp [go_sem])
  have q1 : w1.cell? ⟨w.heap.size + 1, 1, none⟩ = some (.int .i64 s) := bcellv hb1 (by simp [go_sem])
  have hs1 := hs0.below hb1
  go_wp2_with fail
  refine (h2 _).mono ?_
  rintro e w2 ⟨rfl, hb2⟩
  have p0 := bcellv hb2 p0
  have p1 := bcellv hb2 p1
  have p2 := bcellv hb2 p2
  have hs2 := hs1.below hb2
  clear hs hs0 hs1 q0 q1
  go_wp2_with fail
  have o0 : ∀ x, (over w2 x).cell? ⟨w.heap.size, 0, none⟩ = some (.int .i64 k) := over_cell p0
  have o1 : ∀ x, (over w2 x).cell? ⟨w.heap.size, 1, none⟩ = some (.int .i64 c) := over_cell p1
  have o2 : ∀ x, (over w2 x).cell? ⟨w.heap.size, 2, none⟩ = some (.int .i64 f) := over_cell p2
  (refine wp_region_over (by kernel_rfl) (by kernel_rfl) ?_); (repeat (go_big_quiet_step ((first | (go_at_call 9; exact calls_over (h4 _ (over_sp hs2 _))) | (go_at_call 31; exact calls_over (h3 _)))))); (refine wpQuiet_nil ?_)
  intro w3 hb3
  clear o0 o1 o2
  obtain ⟨a, cap, c0, c1, c2, hr⟩ := (hs2.below hb3).cells
  go_wp2
  go_ret2
  exact ⟨rfl, by (repeat (first | exact Below.refl _ _ | assumption | refine Below.drew ?_ | refine below_drewN ?_ _ | refine balloc ?_ _ | refine Below.setCell ?_ (by first | (simp; done) | (simp; omega) | omega) _ | refine bchain (by assumption) ?_))⟩
end Go.Proofs.Ytgjaafcagnkfdaa
namespace Go.Proofs.Ytgjaafcagnkfdaa
open Go.RowKit
set_option linter.unusedSimpArgs false
set_option linter.unusedVariables false

def newObj (k c f m s : Int) : List Int := encI k c f :: idI m s :: List.replicate ((wordsI f).toNat - 2) 0
def MidOk (w : World) (b : Nat) (bs lm : Int) (ws : List Int) (g : Option Nat) (y : Nat) (W : World) : Prop :=
  ∃ (G C : Nat) (cur : Array Value), W.heap[b]? = some (.cells #[.int .i64 bs, .int .i64 lm, .slice (some ⟨G, 0, none⟩) (ws.length + y) C] 69 (0, 0)) ∧ W.heap[G]? = some (.cells cur 49 (0, 0)) ∧ cur.size = C ∧ ws.length + y ≤ C ∧ C ≤ 9223372036854775807 ∧
    cur.toList.take ws.length = ws.map (Value.int .u64) ∧ G ≠ b ∧ Mods (SpS b g) w W ∧ (g = some G ∨ w.heap.size ≤ G)
def AllocOk (w : World) (b : Nat) (bs lm : Int) (ws : List Int) (g : Option Nat) (k c f m s : Int) (e : Ending) (w' : World) : Prop :=
  e = .returned (.tuple #[.int .i64 (bs + ws.length), .int .i64 0]) ∧ ∃ g', SpAt w' b bs lm (ws ++ newObj k c f m s) g' ∧ Mods (SpS b g) w w' ∧ ∀ G, g' = some G → g = some G ∨ w.heap.size ≤ G

theorem mid_room {w w3 : World} {b : Nat} {bs lm : Int} {ws : List Int} {G cap y : Nat} {cur : Array Value} (hb : Below w.heap.size w w3) (hG : G < w.heap.size) (hbl : b < w.heap.size) (hne : G ≠ b)
    (e3 : w3.heap[b]? = some (.cells #[.int .i64 bs, .int .i64 lm, .slice (some ⟨G, 0, none⟩) ws.length cap] 69 (0, 0))) (rh3 : w3.heap[G]? = some (.cells cur 49 (0, 0))) (rs : cur.size = cap) (hcp : ws.length + y ≤ cap) (r2 : cap ≤ 9223372036854775807) (rt : cur.toList.take ws.length = ws.map (Value.int .u64)) (n : Nat) :
    MidOk w b bs lm ws (some G) y ((w3.drewN n).setCell ⟨b, 2, none⟩ (.slice (some ⟨G, 0, none⟩) (ws.length + y) cap)) := by
  refine ⟨G, cap, cur, ?_, ?_, rs, hcp, r2, rt, hne, ?_, .inl rfl⟩
  · exact heap_setCell_same (w3.drewN n) b 2 _ _ _ e3
  · exact (heap_setCell_other _ _ _ _ hne).trans rh3
  · exact ((Mods.of_below hb).drewN n).setCell (.inl (.inl rfl)) _
theorem alloc_get (W : World) (o : Obj) : (W.alloc o).heap[W.heap.size]? = some o := by
  show (W.heap.push o)[W.heap.size]? = some o
  simp
theorem mid_grow {w w3 : World} {b : Nat} {bs lm : Int} {ws : List Int} {g : Option Nat} {a : Option Addr} {C cap y : Nat} {cs : List Value} {zs : Array Value} (hb : Below w.heap.size w w3) (hbl : b < w.heap.size)
    (e3 : w3.heap[b]? = some (.cells #[.int .i64 bs, .int .i64 lm, .slice a ws.length cap] 69 (0, 0))) (hsz : (cs.toArray ++ zs).size = C) (hcp : ws.length + y ≤ C) (r2 : C ≤ 9223372036854775807) (hl : ws.length ≤ cs.length) (rt : cs.take ws.length = ws.map (Value.int .u64)) (n : Nat) :
    MidOk w b bs lm ws g y (((w3.setCell ⟨b, 2, none⟩ (.slice (some ⟨w3.heap.size, 0, none⟩) (ws.length + y) C)).alloc (.cells (cs.toArray ++ zs) 49)).drewN n) := by
  have hbl3 : b < w3.heap.size := (Array.getElem?_eq_some_iff.1 e3).1
  have hne : w3.heap.size ≠ b := by omega
  refine ⟨w3.heap.size, C, cs.toArray ++ zs, ?_, ?_, hsz, hcp, r2, ?_, hne, ?_, .inr hb.size⟩
  · refine (Below.heap_alloc _ _ _ (by simpa using hbl3)).trans ?_
    exact heap_setCell_same _ b 2 #[.int .i64 bs, .int .i64 lm, .slice a ws.length cap] _ _ e3
  · have hz : (w3.setCell ⟨b, 2, none⟩ (.slice (some ⟨w3.heap.size, 0, none⟩) (ws.length + y) C)).heap.size = w3.heap.size := by simp
    have ha := alloc_get (w3.setCell ⟨b, 2, none⟩ (.slice (some ⟨w3.heap.size, 0, none⟩) (ws.length + y) C)) (.cells (cs.toArray ++ zs) 49)
    rw [hz] at ha
    exact ha
  · rw [Array.toList_append, List.take_append_of_le_length (by simpa using hl)]
    exact rt
  · exact (((Mods.of_below hb).setCell (.inl (.inl rfl)) _).alloc _).drewN n
theorem take_new {cur : Array Value} {ws : List Int} {x z : Int} {y : Nat} (hy : 2 ≤ y) (h : ws.length + y ≤ cur.size) (ht : cur.toList.take ws.length = ws.map (Value.int .u64)) :
    (((wrow cur ws.length (List.replicate y (.int .u64 0))).setIfInBounds ws.length (.int .u64 x)).setIfInBounds (ws.length + 1) (.int .u64 z)).toList.take (ws ++ x :: z :: List.replicate (y - 2) 0).length = (ws ++ x :: z :: List.replicate (y - 2) 0).map (Value.int .u64) := by
  obtain ⟨t, rfl⟩ : ∃ t, y = t + 2 := ⟨y - 2, by omega⟩
  have hl : (cur.toList.take ws.length).length = ws.length := by simp; omega
  rw [Array.toList_setIfInBounds, Array.toList_setIfInBounds, wrow_list _ _ _ (by simpa using h)]
  rw [List.append_assoc, List.set_append_right _ _ (by omega), hl, Nat.sub_self]
  rw [List.set_append_right _ _ (by omega), hl, Nat.add_sub_cancel_left]
  simp only [List.replicate_succ, List.cons_append, List.set_cons_zero, List.set_cons_succ]
  rw [ht]
  generalize List.drop _ cur.toList = D
  have e : ws.map (Value.int .u64) ++ Value.int .u64 x :: Value.int .u64 z :: (List.replicate t (Value.int .u64 0) ++ D) = (ws ++ x :: z :: List.replicate (t + 2 - 2) 0).map (Value.int .u64) ++ D := by simp
  rw [e, List.take_append_of_le_length (by simp), List.take_of_length_le (by simp)]
theorem alloc_fin {w wc : World} {b : Nat} {bs lm : Int} {ws : List Int} {g : Option Nat} {y G C : Nat} {cur : Array Value} {k c f m s x z : Int}
    (m1 : wc.heap[b]? = some (.cells #[.int .i64 bs, .int .i64 lm, .slice (some ⟨G, 0, none⟩) (ws.length + y) C] 69 (0, 0))) (m2 : wc.heap[G]? = some (.cells cur 49 (0, 0))) (m3 : cur.size = C) (m4 : ws.length + y ≤ C) (m5 : C ≤ 9223372036854775807)
    (m6 : cur.toList.take ws.length = ws.map (Value.int .u64)) (m7 : G ≠ b) (m8 : Mods (SpS b g) w wc) (m9 : g = some G ∨ w.heap.size ≤ G) (hy2 : 2 ≤ y) (hy : wordsI f = (y : Int)) (hx : encI k c f = x) (hz : idI m s = z) (n : Nat) :
    AllocOk w b bs lm ws g k c f m s (.returned (.tuple #[.int .i64 (bs + ws.length), .int .i64 0])) ((((wc.drewN n).setCells G ws.length (List.replicate y (.int .u64 0))).setCell ⟨G, ws.length, none⟩ (.int .u64 x)).setCell ⟨G, ws.length + 1, none⟩ (.int .u64 z)) := by
  have hG : SpS b g G ∨ w.heap.size ≤ G := by
    rcases m9 with h | h
    · exact .inl (.inr h)
    · exact .inr h
  have e : newObj k c f m s = x :: z :: List.replicate (y - 2) 0 := by unfold newObj; rw [hx, hz, hy]; simp
  refine ⟨rfl, some G, ?_, ?_, ?_⟩
  · rw [e]
    refine ⟨some ⟨G, 0, none⟩, C, ?_, ⟨by simp; omega, m5, .inr ⟨G, _, rfl, rfl, heap_setCell_same _ G _ _ _ _ (heap_setCell_same _ G _ _ _ _ (setCells_heap G _ _ _ _ _ (show (wc.drewN n).heap[G]? = _ from m2))), ?_, ?_⟩⟩, fun h => m7 (by cases h; rfl)⟩
    · rw [heap_setCell_other _ _ _ _ (Ne.symm m7), heap_setCell_other _ _ _ _ (Ne.symm m7), setCells_other G _ (Ne.symm m7)]
      have : (ws ++ x :: z :: List.replicate (y - 2) 0).length = ws.length + y := by simp; omega
      rw [this]
      exact m1
    · simp [wrow_size, m3]
    · exact take_new hy2 (by rw [m3]; exact m4) m6
  · exact ((setCells_mods G hG _ _ _ (m8.drewN n)).setCell hG _).setCell hG _
  · rintro G' h
    cases h
    exact m9
set_option maxRecDepth 100000 in
set_option maxHeartbeats 2000000 in
theorem alloc_room {w : World} {b : Nat} {bs lm : Int} {ws : List Int} {g : Option Nat} (hs : SpAt w b bs lm ws g) (hk : SpOk bs lm ws) (k c f m s : Int) (h : hvB k c f = true) (hi : idB m s = true) (hf : bs + ws.length + wordsI f ≤ lm) (hcap : ∀ a cap, w.heap[b]? = some (.cells #[.int .i64 bs, .int .i64 lm, .slice a ws.length cap] 69 (0, 0)) → ws.length + (wordsI f).toNat ≤ cap) :
    Calls Try.prog 13 #[.pointer (some ⟨b, 0, none⟩), .agg #[.int .i64 k, .int .i64 c, .int .i64 f], .agg #[.int .i64 m, .int .i64 s]] w (AllocOk w b bs lm ws g k c f m s) := by
  have h1 := fun W => encode_yes k c f h W
  have h2 := fun W => encodeID_yes m s hi W
  have h3 := fun W => words_yes k c f h W
  have h4 := fun (W : World) (H : SpAt W b bs lm ws g) => top_any H hk
  obtain ⟨y0, y1, y2⟩ := wordsI_bd h
  obtain ⟨b0, b1, b2, _⟩ := hk
  obtain ⟨y, hy⟩ : ∃ y : Nat, wordsI f = (y : Int) := ⟨(wordsI f).toNat, by omega⟩
  rw [hy] at h3 y0 y1 y2 hf
  have HY := Lib.hid hy
  generalize hx : encI k c f = x at *
  have HX := Lib.hid hx
  generalize hz : idI m s = z at *
  have HZ := Lib.hid hz
  clear h hi hy hx hz
  have hs0 := (hs.below (balloc (balloc (Below.refl _ _) (.cells #[.int .i64 k, .int .i64 c, .int .i64 f] 46)) (.cells #[.int .i64 m, .int .i64 s] 48)))
  go_enter Try.func13, Try.ntmps13
  go_wp2_with fail
  refine (h1 _).mono ?_
  rintro e w1 ⟨rfl, hb1⟩
  have p0 : w1.cell? ⟨w.heap.size, 0, none⟩ = some (.int .i64 k) := bcellv hb1 (by simp [go_sem])
  have p1 : w1.cell? ⟨w.heap.size, 1, none⟩ = some (.int .i64 c) := bcellv hb1 (by simp [go_sem])
  have p2 : w1.cell? ⟨w.heap.size, 2, none⟩ = some (.int .i64 f) := bcellv hb1 (by simp [go_sem])
  have q0 : w1.cell? ⟨w.heap.size + 1, 0, none⟩ = some (.int .i64 m) := bcellv hb1 (by simp [go_sem])
  have q1 : w1.cell? ⟨w.heap.size + 1, 1, none⟩ = some (.int .i64 s) := bcellv hb1 (by simp [go_sem])
  have hs1 := hs0.below hb1
  go_wp2_with fail
  refine (h2 _).mono ?_
  rintro e w2 ⟨rfl, hb2⟩
  have p0 := bcellv hb2 p0
  have p1 := bcellv hb2 p1
  have p2 := bcellv hb2 p2
  have hs2 := hs1.below hb2
  clear hs0 hs1 q0 q1
  go_wp2_with fail
  have o0 : ∀ x, (over w2 x).cell? ⟨w.heap.size, 0, none⟩ = some (.int .i64 k) := over_cell p0
  have o1 : ∀ x, (over w2 x).cell? ⟨w.heap.size, 1, none⟩ = some (.int .i64 c) := over_cell p1
  have o2 : ∀ x, (over w2 x).cell? ⟨w.heap.size, 2, none⟩ = some (.int .i64 f) := over_cell p2
  (refine wp_region_over (by kernel_rfl) (by kernel_rfl) ?_); (repeat (go_big_quiet_step ((first | (go_at_call 9; exact calls_over (h4 _ (over_sp hs2 _))) | (go_at_call 31; exact calls_over (h3 _)))))); (refine wpQuiet_nil ?_)
  intro w3 hb3
  clear o0 o1 o2 p0 p1 p2
  have hs3 := hs2.below hb3
  have hb : Below w.heap.size w w3 := by (repeat (first | exact Below.refl _ _ | assumption | refine Below.drew ?_ | refine below_drewN ?_ _ | refine balloc ?_ _ | refine Below.setCell ?_ (by first | (simp; done) | (simp; omega) | omega) _ | refine bchain (by assumption) ?_))
  clear hb1 hb2 hb3 hs2 h1 h2 h3 h4
  have hs' := hs
  obtain ⟨a, cap, e1, ⟨r1, r2, r3⟩, e5⟩ := hs'
  have hcp := hcap a cap e1
  rw [HY.out] at hcp
  simp only [Int.toNat_natCast] at hcp
  clear hcap
  have e3 := bblock hb e1
  have c0 : w3.cell? ⟨b, 0, none⟩ = some (.int .i64 bs) := by rw [cell_of_block e3]; rfl
  have c1 : w3.cell? ⟨b, 1, none⟩ = some (.int .i64 lm) := by rw [cell_of_block e3]; rfl
  have c2 : w3.cell? ⟨b, 2, none⟩ = some (.slice a ws.length cap) := by rw [cell_of_block e3]; rfl
  have f2 : w3.frozen? ⟨b, 2, none⟩ = false := frozen_of_block e3 2
  have l0 : (0 : Int) ≤ (ws.length : Int) := by omega
  go_upto_region 10 with (fail)
  go_cut [11] (fun t11 W => t11 = .int .i64 (bs + ws.length) ∧ MidOk w b bs lm ws g y W)
  case first =>
    have s1 : IntKind.i64.wrap ((ws.length : Int) + (y : Int)) = (ws.length : Int) + (y : Int) := IntWalk.i64_in _ (by omega)
    have s2 : ((ws.length : Int) + (y : Int)).toNat = ws.length + y := by omega
    have s3 : (0 : Int) ≤ (ws.length : Int) + (y : Int) := by omega
    rcases r3 with ⟨_, r3⟩ | ⟨G, cur, rfl, rfl, rh, rs, rt⟩
    · exfalso; omega
    have cp0 : 0 < cap := by omega
    have s4 : (ws.length : Int) + (y : Int) ≤ (cap : Int) := by omega
    have rh3 := bblock hb rh
    go_region_with (go_at_call 32; refine (grow_room _ ws.length cap y _ (by omega) (by omega) (by omega)).mono ?_; rintro e wg ⟨rfl, rfl⟩)
    all_goals
      go_wp2_with fail
      go_meet
      exact ⟨rfl, mid_room hb (by have := hs.glt G rfl; exact this) hs.lt (fun h => e5 (by rw [h])) e3 rh3 rs hcp r2 rt 1⟩
  case rest =>
    obtain ⟨rfl, G', C, cur', m1, m2, m3, m4, m5, m6, m7, m8, m9⟩ := hcut
    have HFin := Lib.hid (fun n => alloc_fin (k := k) (c := c) (f := f) (m := m) (s := s) (x := x) (z := z) m1 m2 m3 m4 m5 m6 m7 m8 m9 (by omega) HY.out HX.out HZ.out n)
    have k0 : wc.cell? ⟨b, 0, none⟩ = some (.int .i64 bs) := by rw [cell_of_block m1]; rfl
    have k2 : wc.cell? ⟨b, 2, none⟩ = some (.slice (some ⟨G', 0, none⟩) (ws.length + y) C) := by rw [cell_of_block m1]; rfl
    have hcl : ∀ (n : Nat) (ty : TypeId), (Builtin.clear_ #[28] ty #[.slice (some ⟨G', ws.length, none⟩) y (C - ws.length)]).run Try.prog (wc.drewN n) = .ok (.tuple #[]) ((wc.drewN n).setCells G' ws.length (List.replicate y (.int .u64 0))) := fun n ty =>
      Lib.run_clear_slice (wc.drewN n) 28 49 ty (.int .u64 0) Try.underlying28 (fun w => by kernel_rfl) rfl rfl G' ws.length y (C - ws.length) (by omega)
        (fun j hj => by rw [cell_of_block (show (wc.drewN n).heap[G']? = _ from m2)]; simp; omega) (fun j _ => frozen_of_block (show (wc.drewN n).heap[G']? = _ from m2) _)
    have t1 : ∀ n, ((wc.drewN n).setCells G' ws.length (List.replicate y (.int .u64 0))).heap[G']? = some (.cells (wrow cur' ws.length (List.replicate y (.int .u64 0))) 49 (0, 0)) := fun n => setCells_heap G' _ _ _ _ _ (show (wc.drewN n).heap[G']? = _ from m2)
    have v1 : ∀ n, (((wc.drewN n).setCells G' ws.length (List.replicate y (.int .u64 0))).cell? ⟨G', ws.length, none⟩).isSome = true := fun n => by rw [cell_of_block (t1 n)]; simp [wrow_size]; omega
    have v2 : ∀ n, (((wc.drewN n).setCells G' ws.length (List.replicate y (.int .u64 0))).cell? ⟨G', ws.length + 1, none⟩).isSome = true := fun n => by rw [cell_of_block (t1 n)]; simp [wrow_size]; omega
    have v3 : ∀ n i, ((wc.drewN n).setCells G' ws.length (List.replicate y (.int .u64 0))).frozen? ⟨G', i, none⟩ = false := fun n i => frozen_of_block (t1 n) i
    clear t1 m1 m2 m3 m6 m7 m8 m9 e1 e3 e5 c0 c1 c2 f2 r3 hs hs3 hb
    have s1 : IntKind.i64.wrap (bs + (ws.length : Int) - bs) = (ws.length : Int) := by rw [show bs + (ws.length : Int) - bs = (ws.length : Int) by omega]; exact IntWalk.i64_in _ (by omega)
    have s3 : ((ws.length : Int)).toNat = ws.length := by omega
    have s4 : (ws.length : Int) ≤ ((ws.length + y : Nat) : Int) := by omega
    have s5 : C ≠ ws.length := by omega
    have s6 : ws.length + y - ws.length = y := by omega
    have s7 : (0 : Int) < (y : Int) := by omega
    have s8 : (1 : Int) < (y : Int) := by omega
    go_wp2_with fail
    go_quiet (fail)
    clear s1 s3
    obtain ⟨v, hv⟩ := Option.isSome_iff_exists.1 (v1 nq)
    obtain ⟨u, hu⟩ := Option.isSome_iff_exists.1 (v2 nq)
    go_wp2
    go_ret2
    exact HFin.out nq
set_option maxRecDepth 100000 in
set_option maxHeartbeats 2000000 in
theorem alloc_grow {w : World} {b : Nat} {bs lm : Int} {ws : List Int} {g : Option Nat} (hs : SpAt w b bs lm ws g) (hk : SpOk bs lm ws) (k c f m s : Int) (h : hvB k c f = true) (hi : idB m s = true) (hf : bs + ws.length + wordsI f ≤ lm) (hcap : ∀ a cap, w.heap[b]? = some (.cells #[.int .i64 bs, .int .i64 lm, .slice a ws.length cap] 69 (0, 0)) → cap < ws.length + (wordsI f).toNat) :
    Calls Try.prog 13 #[.pointer (some ⟨b, 0, none⟩), .agg #[.int .i64 k, .int .i64 c, .int .i64 f], .agg #[.int .i64 m, .int .i64 s]] w (AllocOk w b bs lm ws g k c f m s) := by
  have h1 := fun W => encode_yes k c f h W
  have h2 := fun W => encodeID_yes m s hi W
  have h3 := fun W => words_yes k c f h W
  have h4 := fun (W : World) (H : SpAt W b bs lm ws g) => top_any H hk
  obtain ⟨y0, y1, y2⟩ := wordsI_bd h
  obtain ⟨b0, b1, b2, _⟩ := hk
  obtain ⟨y, hy⟩ : ∃ y : Nat, wordsI f = (y : Int) := ⟨(wordsI f).toNat, by omega⟩
  rw [hy] at h3 y0 y1 y2 hf
  have HY := Lib.hid hy
  generalize hx : encI k c f = x at *
  have HX := Lib.hid hx
  generalize hz : idI m s = z at *
  have HZ := Lib.hid hz
  clear h hi hy hx hz
  have hs0 := (hs.below (balloc (balloc (Below.refl _ _) (.cells #[.int .i64 k, .int .i64 c, .int .i64 f] 46)) (.cells #[.int .i64 m, .int .i64 s] 48)))
  go_enter Try.func13, Try.ntmps13
  go_wp2_with fail
  refine (h1 _).mono ?_
  rintro e w1 ⟨rfl, hb1⟩
  have p0 : w1.cell? ⟨w.heap.size, 0, none⟩ = some (.int .i64 k) := bcellv hb1 (by simp [go_sem])
  have p1 : w1.cell? ⟨w.heap.size, 1, none⟩ = some (.int .i64 c) := bcellv hb1 (by simp [go_sem])
  have p2 : w1.cell? ⟨w.heap.size, 2, none⟩ = some (.int .i64 f) := bcellv hb1 (by simp [go_sem])
  have q0 : w1.cell? ⟨w.heap.size + 1, 0, none⟩ = some (.int .i64 m) := bcellv hb1 (by simp [go_sem])
  have q1 : w1.cell? ⟨w.heap.size + 1, 1, none⟩ = some (.int .i64 s) := bcellv hb1 (by simp [go_sem])
  have hs1 := hs0.below hb1
  go_wp2_with fail
  refine (h2 _).mono ?_
  rintro e w2 ⟨rfl, hb2⟩
  have p0 := bcellv hb2 p0
  have p1 := bcellv hb2 p1
  have p2 := bcellv hb2 p2
  have hs2 := hs1.below hb2
  clear hs0 hs1 q0 q1
  go_wp2_with fail
  have o0 : ∀ x, (over w2 x).cell? ⟨w.heap.size, 0, none⟩ = some (.int .i64 k) := over_cell p0
  have o1 : ∀ x, (over w2 x).cell? ⟨w.heap.size, 1, none⟩ = some (.int .i64 c) := over_cell p1
  have o2 : ∀ x, (over w2 x).cell? ⟨w.heap.size, 2, none⟩ = some (.int .i64 f) := over_cell p2
  (refine wp_region_over (by kernel_rfl) (by kernel_rfl) ?_); (repeat (go_big_quiet_step ((first | (go_at_call 9; exact calls_over (h4 _ (over_sp hs2 _))) | (go_at_call 31; exact calls_over (h3 _)))))); (refine wpQuiet_nil ?_)
  intro w3 hb3
  clear o0 o1 o2 p0 p1 p2
  have hs3 := hs2.below hb3
  have hb : Below w.heap.size w w3 := by (repeat (first | exact Below.refl _ _ | assumption | refine Below.drew ?_ | refine below_drewN ?_ _ | refine balloc ?_ _ | refine Below.setCell ?_ (by first | (simp; done) | (simp; omega) | omega) _ | refine bchain (by assumption) ?_))
  clear hb1 hb2 hb3 hs2 h1 h2 h3 h4
  have hs' := hs
  obtain ⟨a, cap, e1, ⟨r1, r2, r3⟩, e5⟩ := hs'
  have hcp := hcap a cap e1
  rw [HY.out] at hcp
  simp only [Int.toNat_natCast] at hcp
  clear hcap
  have e3 := bblock hb e1
  have c0 : w3.cell? ⟨b, 0, none⟩ = some (.int .i64 bs) := by rw [cell_of_block e3]; rfl
  have c1 : w3.cell? ⟨b, 1, none⟩ = some (.int .i64 lm) := by rw [cell_of_block e3]; rfl
  have c2 : w3.cell? ⟨b, 2, none⟩ = some (.slice a ws.length cap) := by rw [cell_of_block e3]; rfl
  have f2 : w3.frozen? ⟨b, 2, none⟩ = false := frozen_of_block e3 2
  have l0 : (0 : Int) ≤ (ws.length : Int) := by omega
  go_upto_region 10 with (fail)
  go_cut [11] (fun t11 W => t11 = .int .i64 (bs + ws.length) ∧ MidOk w b bs lm ws g y W)
  case first =>
    have s1 : IntKind.i64.wrap ((ws.length : Int) + (y : Int)) = (ws.length : Int) + (y : Int) := IntWalk.i64_in _ (by omega)
    have s2 : ((ws.length : Int) + (y : Int)).toNat = ws.length + y := by omega
    have s3 : (0 : Int) ≤ (ws.length : Int) + (y : Int) := by omega
    have hcs : ∃ cs : List Value, cs.length = cap ∧ (a = none → cap = 0) ∧ (∀ ad, a = some ad → ∀ j v, cs[j]? = some v → w3.cell? (ad.add j) = some v) ∧ cs.take ws.length = ws.map (Value.int .u64) := by
      rcases r3 with ⟨_, r3⟩ | ⟨G, cur, rfl, rfl, rh, rs, rt⟩
      · have h0 : ws = [] := List.length_eq_zero_iff.1 (by omega)
        exact ⟨[], by simp [r3], fun _ => r3, fun _ _ j v h => by simp at h, by simp [h0]⟩
      · refine ⟨cur.toList, by simpa using rs, (fun h => by cases h), ?_, rt⟩
        rintro ad h j v hj
        cases h
        rw [Addr.add_lit, Nat.zero_add, cell_of_block (bblock hb rh)]
        simpa using hj
    obtain ⟨cs, d1, d2, d3, d4⟩ := hcs
    have D1 := Lib.hid d1
    have D3 := Lib.hid d3
    have D4 := Lib.hid d4
    clear d1 d3 d4 r3
    have hbl3 : b < w3.heap.size := hs3.lt
    go_region_with (go_at_call 32; refine (grow_grow a ws.length cap y cs _ (by omega) (by omega) (by omega) D1.out d2 (by exact fun ad had j v hj => D3.out ad had j v hj)).mono ?_; rintro e wg ⟨C, zs, z1, z2, z3, rfl, rfl⟩; have z4 : (ws.length : Int) + (y : Int) ≤ (C : Int) := (by omega); have Z3 := Lib.hid z3; clear z3)
    all_goals
      go_wp2_with fail
      go_meet
      exact ⟨rfl, mid_grow hb hs.lt e3 (by assumption : Hid _).out (by assumption) (by assumption) (by rw [D1.out]; exact r1) D4.out 2⟩
  case rest =>
    obtain ⟨rfl, G', C, cur', m1, m2, m3, m4, m5, m6, m7, m8, m9⟩ := hcut
    have HFin := Lib.hid (fun n => alloc_fin (k := k) (c := c) (f := f) (m := m) (s := s) (x := x) (z := z) m1 m2 m3 m4 m5 m6 m7 m8 m9 (by omega) HY.out HX.out HZ.out n)
    have k0 : wc.cell? ⟨b, 0, none⟩ = some (.int .i64 bs) := by rw [cell_of_block m1]; rfl
    have k2 : wc.cell? ⟨b, 2, none⟩ = some (.slice (some ⟨G', 0, none⟩) (ws.length + y) C) := by rw [cell_of_block m1]; rfl
    have hcl : ∀ (n : Nat) (ty : TypeId), (Builtin.clear_ #[28] ty #[.slice (some ⟨G', ws.length, none⟩) y (C - ws.length)]).run Try.prog (wc.drewN n) = .ok (.tuple #[]) ((wc.drewN n).setCells G' ws.length (List.replicate y (.int .u64 0))) := fun n ty =>
      Lib.run_clear_slice (wc.drewN n) 28 49 ty (.int .u64 0) Try.underlying28 (fun w => by kernel_rfl) rfl rfl G' ws.length y (C - ws.length) (by omega)
        (fun j hj => by rw [cell_of_block (show (wc.drewN n).heap[G']? = _ from m2)]; simp; omega) (fun j _ => frozen_of_block (show (wc.drewN n).heap[G']? = _ from m2) _)
    have t1 : ∀ n, ((wc.drewN n).setCells G' ws.length (List.replicate y (.int .u64 0))).heap[G']? = some (.cells (wrow cur' ws.length (List.replicate y (.int .u64 0))) 49 (0, 0)) := fun n => setCells_heap G' _ _ _ _ _ (show (wc.drewN n).heap[G']? = _ from m2)
    have v1 : ∀ n, (((wc.drewN n).setCells G' ws.length (List.replicate y (.int .u64 0))).cell? ⟨G', ws.length, none⟩).isSome = true := fun n => by rw [cell_of_block (t1 n)]; simp [wrow_size]; omega
    have v2 : ∀ n, (((wc.drewN n).setCells G' ws.length (List.replicate y (.int .u64 0))).cell? ⟨G', ws.length + 1, none⟩).isSome = true := fun n => by rw [cell_of_block (t1 n)]; simp [wrow_size]; omega
    have v3 : ∀ n i, ((wc.drewN n).setCells G' ws.length (List.replicate y (.int .u64 0))).frozen? ⟨G', i, none⟩ = false := fun n i => frozen_of_block (t1 n) i
    clear t1 m1 m2 m3 m6 m7 m8 m9 e1 e3 e5 c0 c1 c2 f2 r3 hs hs3 hb
    have s1 : IntKind.i64.wrap (bs + (ws.length : Int) - bs) = (ws.length : Int) := by rw [show bs + (ws.length : Int) - bs = (ws.length : Int) by omega]; exact IntWalk.i64_in _ (by omega)
    have s3 : ((ws.length : Int)).toNat = ws.length := by omega
    have s4 : (ws.length : Int) ≤ ((ws.length + y : Nat) : Int) := by omega
    have s5 : C ≠ ws.length := by omega
    have s6 : ws.length + y - ws.length = y := by omega
    have s7 : (0 : Int) < (y : Int) := by omega
    have s8 : (1 : Int) < (y : Int) := by omega
    go_wp2_with fail
    go_quiet (fail)
    clear s1 s3
    obtain ⟨v, hv⟩ := Option.isSome_iff_exists.1 (v1 nq)
    obtain ⟨u, hu⟩ := Option.isSome_iff_exists.1 (v2 nq)
    go_wp2
    go_ret2
    exact HFin.out nq
end Go.Proofs.Ytgjaafcagnkfdaa
namespace Go.Proofs.Ytgjaafcagnkfdaa
open Go.RowKit
set_option linter.unusedSimpArgs false
set_option linter.unusedVariables false

theorem alloc_ok {w : World} {b : Nat} {bs lm : Int} {ws : List Int} {g : Option Nat} (hs : SpAt w b bs lm ws g) (hk : SpOk bs lm ws) (k c f m s : Int) (h : hvB k c f = true) (hi : idB m s = true) (hf : bs + ws.length + wordsI f ≤ lm) :
    Calls Try.prog 13 #[.pointer (some ⟨b, 0, none⟩), .agg #[.int .i64 k, .int .i64 c, .int .i64 f], .agg #[.int .i64 m, .int .i64 s]] w (AllocOk w b bs lm ws g k c f m s) := by
  have hs' := hs
  obtain ⟨a, cap, e1, _⟩ := hs'
  by_cases hc : ws.length + (wordsI f).toNat ≤ cap
  · refine alloc_room hs hk k c f m s h hi hf (fun a' cap' e => ?_)
    rw [e1] at e
    simp only [Option.some.injEq, Obj.cells.injEq, Array.mk.injEq, List.cons.injEq, Value.slice.injEq] at e
    omega
  · refine alloc_grow hs hk k c f m s h hi hf (fun a' cap' e => ?_)
    rw [e1] at e
    simp only [Option.some.injEq, Obj.cells.injEq, Array.mk.injEq, List.cons.injEq, Value.slice.injEq] at e
    omega
theorem newObj_len {k c f m s : Int} (h : hvB k c f = true) : ((newObj k c f m s).length : Int) = wordsI f := by
  have := wordsI_bd h
  unfold newObj
  simp
  omega
theorem newObj_u64 {k c f m s : Int} (h : hvB k c f = true) (hi : idB m s = true) : ∀ x ∈ newObj k c f m s, U64 x := by
  have h1 := encI_bd h
  have h2 := idI_bd hi
  intro x hx
  unfold newObj at hx
  simp only [List.mem_cons, List.mem_replicate] at hx
  rcases hx with rfl | rfl | ⟨_, rfl⟩ <;> exact U64.of (by omega) (by omega)
theorem SpOk.grow {bs lm : Int} {ws : List Int} (hk : SpOk bs lm ws) {k c f m s : Int} (h : hvB k c f = true) (hi : idB m s = true) (hf : bs + ws.length + wordsI f ≤ lm) : SpOk bs lm (ws ++ newObj k c f m s) := by
  obtain ⟨b0, b1, b2, b3⟩ := hk
  refine ⟨b0, ?_, b2, ?_⟩
  · rw [List.length_append, Int.natCast_add, newObj_len h]
    omega
  · intro x hx
    rcases List.mem_append.1 hx with hx | hx
    · exact b3 x hx
    · exact newObj_u64 h hi x hx
/-- A new space, as a space in memory. -/
theorem sp_new (w : World) (bs lm : Int) : SpAt (w.alloc (.cells #[.int .i64 bs, .int .i64 lm, .slice none 0 0] 69)) w.heap.size bs lm [] none :=
  ⟨none, 0, alloc_get _ _, ⟨by simp, by omega, .inl ⟨rfl, rfl⟩⟩, by simp⟩

theorem not_sps {b k : Nat} {g : Option Nat} (h1 : k ≠ b) (h2 : ∀ G, g = some G → k ≠ G) : ¬ SpS b g k := by
  rintro (h | h)
  · exact h1 h
  · exact h2 _ h rfl
theorem sps_ge {b B : Nat} {g : Option Nat} (h1 : B ≤ b) (h2 : ∀ G, g = some G → B ≤ G) : ∀ k, SpS b g k → B ≤ k := by
  rintro k (rfl | h)
  · exact h1
  · exact h2 _ h
theorem later {B n : Nat} {g g' : Option Nat} (hg : ∀ G, g' = some G → g = some G ∨ n ≤ G) (h : ∀ G, g = some G → B ≤ G) (hB : B ≤ n) : ∀ G, g' = some G → B ≤ G := fun G e => by
  rcases hg G e with h' | h'
  · exact h G h'
  · omega
theorem none_ge {B : Nat} : ∀ G, (none : Option Nat) = some G → B ≤ G := fun G h => by cases h

end Go.Proofs.Ytgjaafcagnkfdaa
