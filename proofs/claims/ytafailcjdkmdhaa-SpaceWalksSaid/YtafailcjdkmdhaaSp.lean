/-
  What a space of words is in memory, and what a call may change: plain predicates on worlds. No program in sight but for two type numbers.
-/
import Derived.Test.YtafailcjdkmdhaaBase
import Derived.OwnWalk
namespace Go.Proofs.Ytafailcjdkmdhaa
open Go.RowKit
set_option linter.unusedSimpArgs false
set_option linter.unusedVariables false

/-- w' is w with new blocks, and with writes to the blocks of S alone. -/
structure Mods (S : Nat → Prop) (w w' : World) : Prop where
  os : w'.os = w.os
  tape : w'.tape = w.tape
  output : w'.output = w.output
  size : w.heap.size ≤ w'.heap.size
  block : ∀ k, k < w.heap.size → ¬ S k → w'.heap[k]? = w.heap[k]?
theorem Mods.refl (S : Nat → Prop) (w : World) : Mods S w w := ⟨rfl, rfl, rfl, Nat.le_refl _, fun _ _ _ => rfl⟩
theorem Mods.of_below {S : Nat → Prop} {w w' : World} (h : Below w.heap.size w w') : Mods S w w' := ⟨h.os, h.tape, h.output, h.size, fun k hk _ => h.block k hk⟩
theorem Mods.below {S : Nat → Prop} {w w' : World} {B : Nat} (h : Mods S w w') (hB : B ≤ w.heap.size) (hS : ∀ k, S k → B ≤ k) : Below B w w' :=
  ⟨h.os, h.tape, h.output, h.size, fun k hk => h.block k (Nat.lt_of_lt_of_le hk hB) (fun hs => absurd (hS k hs) (by omega))⟩
theorem Mods.trans {S S1 : Nat → Prop} {a b c : World} (h : Mods S a b) (k : Mods S1 b c) (hS : ∀ i, S1 i → S i ∨ a.heap.size ≤ i) : Mods S a c :=
  ⟨k.os.trans h.os, k.tape.trans h.tape, k.output.trans h.output, Nat.le_trans h.size k.size, fun i hi hn => (k.block i (Nat.lt_of_lt_of_le hi h.size) (fun hs => (hS i hs).elim hn (by omega))).trans (h.block i hi hn)⟩
theorem Mods.mono {S S1 : Nat → Prop} {a b : World} (h : Mods S a b) (hS : ∀ i, S i → S1 i) : Mods S1 a b := ⟨h.os, h.tape, h.output, h.size, fun i hi hn => h.block i hi (fun hs => hn (hS i hs))⟩
theorem Mods.drew {S : Nat → Prop} {a w : World} (h : Mods S a w) : Mods S a w.drew := ⟨h.os, h.tape, h.output, h.size, h.block⟩
theorem Mods.drewN {S : Nat → Prop} {a w : World} (h : Mods S a w) (n : Nat) : Mods S a (w.drewN n) := ⟨h.os, h.tape, h.output, h.size, h.block⟩
theorem Mods.alloc {S : Nat → Prop} {a w : World} (h : Mods S a w) (o : Obj) : Mods S a (w.alloc o) :=
  ⟨h.os, h.tape, h.output, Nat.le_trans h.size (by simp), fun i hi hn => (Below.heap_alloc w o i (Nat.lt_of_lt_of_le hi h.size)).trans (h.block i hi hn)⟩
theorem Mods.setCell {S : Nat → Prop} {a w : World} (h : Mods S a w) {p : Addr} (hp : S p.block ∨ a.heap.size ≤ p.block) (u : Value) : Mods S a (w.setCell p u) :=
  ⟨h.os, h.tape, h.output, by simpa using h.size, fun i hi hn => (Below.heap_setCell w p u i (by rintro rfl; exact hp.elim hn (by omega))).trans (h.block i hi hn)⟩
theorem Mods.chain {S : Nat → Prop} {a W w1 : World} (h : Below W.heap.size W w1) (k : Mods S a W) : Mods S a w1 := k.trans (Mods.of_below (S := fun _ => False) h) (fun _ hf => hf.elim)

/-- A block that is there, behind a call that makes memory alone. -/
theorem bblock {W w1 : World} (hb : Below W.heap.size W w1) {k : Nat} {o : Obj} (h : W.heap[k]? = some o) : w1.heap[k]? = some o := by
  have hlt : k < W.heap.size := (Array.getElem?_eq_some_iff.1 h).1
  exact (hb.block k hlt).trans h
theorem mblock {S : Nat → Prop} {W w1 : World} (hb : Mods S W w1) {k : Nat} {o : Obj} (h : W.heap[k]? = some o) (hn : ¬ S k) : w1.heap[k]? = some o := by
  have hlt : k < W.heap.size := (Array.getElem?_eq_some_iff.1 h).1
  exact (hb.block k hlt hn).trans h
theorem mcell {S : Nat → Prop} {W w1 : World} (hm : Mods S W w1) {p : Addr} {v : Value} (h : W.cell? p = some v) (hn : ¬ S p.block) : w1.cell? p = some v := by
  have hlt := World.block_lt_of_cell? W p h
  exact (World.cell?_of_block (w := W) (hm.block p.block hlt hn)).trans h
theorem cell_of_block {w : World} {b : Nat} {cs : Array Value} {t : TypeId} (h : w.heap[b]? = some (.cells cs t (0, 0))) (i : Nat) : w.cell? ⟨b, i, none⟩ = cs[i]? := by simp [World.cell?, h]
theorem frozen_of_block {w : World} {b : Nat} {cs : Array Value} {t : TypeId} (h : w.heap[b]? = some (.cells cs t (0, 0))) (i : Nat) : w.frozen? ⟨b, i, none⟩ = false := by simp [World.frozen?, h]

/-- The words of a slice: its row lies in block g; a slice without capacity owns nothing. -/
def RowAt (w : World) (a : Option Addr) (cap : Nat) (ws : List Int) (g : Option Nat) : Prop :=
  ws.length ≤ cap ∧ cap ≤ 9223372036854775807 ∧
  ((g = none ∧ cap = 0) ∨ ∃ (G : Nat) (cur : Array Value), g = some G ∧ a = some ⟨G, 0, none⟩ ∧ w.heap[G]? = some (.cells cur 32 (0, 0)) ∧ cur.size = cap ∧ cur.toList.take ws.length = ws.map (Value.int .u64))
/-- A space: its base, its limit, its words. -/
def SpAt (w : World) (b : Nat) (bs lm : Int) (ws : List Int) (g : Option Nat) : Prop :=
  ∃ (a : Option Addr) (cap : Nat), w.heap[b]? = some (.cells #[.int .i64 bs, .int .i64 lm, .slice a ws.length cap] 71 (0, 0)) ∧ RowAt w a cap ws g ∧ g ≠ some b
/-- The numbers of a space in bounds. -/
structure SpOk (bs lm : Int) (ws : List Int) : Prop where
  b0 : 0 ≤ bs
  top : bs + ws.length ≤ lm
  lm1 : lm ≤ 1099511627776
  u64 : ∀ x ∈ ws, U64 x
def SpS (b : Nat) (g : Option Nat) : Nat → Prop := fun k => k = b ∨ g = some k

theorem RowAt.keep {w w' : World} {a : Option Addr} {cap : Nat} {ws : List Int} {g : Option Nat} (h : RowAt w a cap ws g) (hk : ∀ G o, g = some G → w.heap[G]? = some o → w'.heap[G]? = some o) : RowAt w' a cap ws g := by
  obtain ⟨h1, h2, h3⟩ := h
  refine ⟨h1, h2, ?_⟩
  rcases h3 with h3 | ⟨G, cur, rfl, ha, hh, hs, ht⟩
  · exact .inl h3
  · exact .inr ⟨G, cur, rfl, ha, hk G _ rfl hh, hs, ht⟩
theorem SpAt.keep {w w' : World} {b : Nat} {bs lm : Int} {ws : List Int} {g : Option Nat} (h : SpAt w b bs lm ws g) (hb : ∀ o, w.heap[b]? = some o → w'.heap[b]? = some o) (hk : ∀ G o, g = some G → w.heap[G]? = some o → w'.heap[G]? = some o) : SpAt w' b bs lm ws g := by
  obtain ⟨a, cap, h1, h2, h3⟩ := h
  exact ⟨a, cap, hb _ h1, h2.keep hk, h3⟩
theorem SpAt.below {w w' : World} {b : Nat} {bs lm : Int} {ws : List Int} {g : Option Nat} (h : SpAt w b bs lm ws g) (hb : Below w.heap.size w w') : SpAt w' b bs lm ws g :=
  h.keep (fun _ => bblock hb) (fun _ _ _ => bblock hb)
theorem SpAt.mods {S : Nat → Prop} {w w' : World} {b : Nat} {bs lm : Int} {ws : List Int} {g : Option Nat} (h : SpAt w b bs lm ws g) (hm : Mods S w w') (hb : ¬ S b) (hg : ∀ G, g = some G → ¬ S G) : SpAt w' b bs lm ws g :=
  h.keep (fun _ ho => mblock hm ho hb) (fun _ _ e ho => mblock hm ho (hg _ e))
theorem SpAt.lt {w : World} {b : Nat} {bs lm : Int} {ws : List Int} {g : Option Nat} (h : SpAt w b bs lm ws g) : b < w.heap.size := by
  obtain ⟨a, cap, h1, h2, h3⟩ := h
  exact (Array.getElem?_eq_some_iff.1 h1).1
theorem SpAt.glt {w : World} {b : Nat} {bs lm : Int} {ws : List Int} {g : Option Nat} (h : SpAt w b bs lm ws g) : ∀ G, g = some G → G < w.heap.size := by
  rintro G rfl
  obtain ⟨a, cap, h1, ⟨_, _, h2⟩, h3⟩ := h
  rcases h2 with ⟨h, _⟩ | ⟨G', cur, e, _, hh, _⟩
  · cases h
  · cases e
    exact (Array.getElem?_eq_some_iff.1 hh).1
/-- The cells that a walk reads. -/
theorem SpAt.cells {w : World} {b : Nat} {bs lm : Int} {ws : List Int} {g : Option Nat} (h : SpAt w b bs lm ws g) :
    ∃ (a : Option Addr) (cap : Nat), w.cell? ⟨b, 0, none⟩ = some (.int .i64 bs) ∧ w.cell? ⟨b, 1, none⟩ = some (.int .i64 lm) ∧ w.cell? ⟨b, 2, none⟩ = some (.slice a ws.length cap) ∧ RowAt w a cap ws g := by
  obtain ⟨a, cap, h1, h2, h3⟩ := h
  exact ⟨a, cap, by rw [cell_of_block h1]; rfl, by rw [cell_of_block h1]; rfl, by rw [cell_of_block h1]; rfl, h2⟩
/-- A word of a row that is not empty. -/
theorem RowAt.word {w : World} {a : Option Addr} {cap : Nat} {ws : List Int} {g : Option Nat} (h : RowAt w a cap ws g) {i : Nat} (hi : i < ws.length) :
    ∃ G : Nat, g = some G ∧ a = some ⟨G, 0, none⟩ ∧ w.cell? ⟨G, i, none⟩ = some (.int .u64 (ws.getD i 0)) ∧ w.frozen? ⟨G, i, none⟩ = false := by
  obtain ⟨h1, h2, h3⟩ := h
  rcases h3 with ⟨_, h3⟩ | ⟨G, cur, rfl, ha, hh, hs, ht⟩
  · omega
  · refine ⟨G, rfl, ha, ?_, frozen_of_block hh i⟩
    rw [cell_of_block hh]
    have e : (cur.toList.take ws.length)[i]? = (ws.map (Value.int .u64))[i]? := by rw [ht]
    rw [List.getElem?_take_of_lt hi] at e
    rw [← Array.getElem?_toList, e]
    simp [List.getD, hi]

/-! ### Writing a row from a place on -/
def wrow (cur : Array Value) (o : Nat) : List Value → Array Value
  | [] => cur
  | v :: vs => wrow (cur.setIfInBounds o v) (o + 1) vs
theorem wrow_size (vs : List Value) : ∀ (cur : Array Value) (o : Nat), (wrow cur o vs).size = cur.size := by
  induction vs with
  | nil => intro cur o; rfl
  | cons v vs ih => intro cur o; simp [wrow, ih]
theorem wrow_list (vs : List Value) : ∀ (cur : Array Value) (o : Nat), o + vs.length ≤ cur.size → (wrow cur o vs).toList = cur.toList.take o ++ vs ++ cur.toList.drop (o + vs.length) := by
  induction vs with
  | nil => intro cur o h; simp [wrow]
  | cons v vs ih =>
    intro cur o h
    simp only [List.length_cons] at h
    rw [wrow, ih _ _ (by simp; omega)]
    simp only [Array.toList_setIfInBounds, List.length_cons]
    have e1 : (cur.toList.set o v).take (o + 1) = cur.toList.take o ++ [v] := by
      rw [List.take_succ_eq_append_getElem (by simp; omega)]
      simp [List.take_set_of_le]
    rw [e1, List.drop_set_of_lt (by omega), show o + 1 + vs.length = o + (vs.length + 1) by omega]
    simp
theorem setCells_heap (b : Nat) (t : TypeId) (vs : List Value) : ∀ (o : Nat) (w : World) (cur : Array Value), w.heap[b]? = some (.cells cur t (0, 0)) → (w.setCells b o vs).heap[b]? = some (.cells (wrow cur o vs) t (0, 0)) := by
  induction vs with
  | nil => intro o w cur h; exact h
  | cons v vs ih =>
    intro o w cur h
    exact ih (o + 1) _ _ (heap_setCell_same w b o cur t v h)
theorem setCells_mods {S : Nat → Prop} {a : World} (b : Nat) (hb : S b ∨ a.heap.size ≤ b) (vs : List Value) : ∀ (o : Nat) (w : World), Mods S a w → Mods S a (w.setCells b o vs) := by
  induction vs with
  | nil => intro o w h; exact h
  | cons v vs ih => intro o w h; exact ih (o + 1) _ (h.setCell (p := ⟨b, o, none⟩) hb v)
theorem setCells_other (b : Nat) (vs : List Value) {k : Nat} (hk : k ≠ b) : ∀ (o : Nat) (w : World), (w.setCells b o vs).heap[k]? = w.heap[k]? := by
  induction vs with
  | nil => intro o w; rfl
  | cons v vs ih => intro o w; exact (ih (o + 1) _).trans (heap_setCell_other w _ k v hk)
end Go.Proofs.Ytafailcjdkmdhaa
