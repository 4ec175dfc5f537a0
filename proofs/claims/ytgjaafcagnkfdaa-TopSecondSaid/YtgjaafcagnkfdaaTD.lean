/-
  refmeshref06.Ints: two slices of integers.
-/
import Derived.Test.YtgjaafcagnkfdaaTB
import Derived.BigQuiet
import Derived.Test.YtgjaafcagnkfdaaTC
import Derived.Maps.AppendAt
import Derived.RangeFuncBox
import Derived.WalkSpells
namespace Go.Proofs.Ytgjaafcagnkfdaa
open Go.RowKit
set_option linter.unusedSimpArgs false
set_option linter.unusedVariables false

/-- A slice of integers: its cells. -/
def IntsV (w : World) (v : Value) (xs : List Int) : Prop :=
  ∃ (a : Option Addr) (cap : Nat), v = .slice a xs.length cap ∧ xs.length ≤ cap ∧ cap ≤ 9223372036854775807 ∧ (xs = [] ∨ ∃ b off : Nat, a = some ⟨b, off, none⟩ ∧ ∀ i x, xs[i]? = some x → w.cell? ⟨b, off + i, none⟩ = some (.int .i64 x))
theorem IntsV.below {w w' : World} {v : Value} {xs : List Int} (h : IntsV w v xs) (hb : Below w.heap.size w w') : IntsV w' v xs := by
  obtain ⟨a, cap, hv, h1, h2, h3⟩ := h
  refine ⟨a, cap, hv, h1, h2, ?_⟩
  rcases h3 with h3 | ⟨b, off, ha, h3⟩
  · exact .inl h3
  · exact .inr ⟨b, off, ha, fun i x hx => bcellv hb (h3 i x hx)⟩
theorem IntsV.of_row {w : World} {B : Nat} {v : Value} {xs : List Int} (h : w.ownsRow B 3 1 v xs.length (xs.map (Value.int .i64))) : IntsV w v xs := by
  obtain ⟨h1, h2⟩ := h
  rcases h2 with ⟨rfl, h0⟩ | ⟨g, cap, cur, rfl, _, hh, hn, hm, hs, ht⟩
  · have : xs = [] := List.length_eq_zero_iff.1 h0
    subst this
    exact ⟨none, 0, rfl, Nat.le_refl _, by omega, .inl rfl⟩
  · refine ⟨_, cap, rfl, hn, hm, .inr ⟨g, 0, rfl, fun i x hx => ?_⟩⟩
    rw [Nat.zero_add, cell_of_block hh]
    have hi : i < xs.length := (List.getElem?_eq_some_iff.1 hx).1
    have e : (cur.toList.take (xs.length * 1))[i]? = (xs.map (Value.int .i64))[i]? := by rw [ht]
    rw [List.getElem?_take_of_lt (by omega)] at e
    rw [← Array.getElem?_toList, e, List.getElem?_map, hx]
    rfl
theorem pre_eq {xs ys : List Int} {t : Nat} (h : ∀ i, i < t → xs[i]? = ys[i]?) (ht : t = xs.length) (hl : xs.length = ys.length) : xs = ys := by
  refine List.ext_getElem? fun i => ?_
  by_cases hi : i < t
  · exact h i hi
  · rw [List.getElem?_eq_none (by omega), List.getElem?_eq_none (by omega)]

end Go.Proofs.Ytgjaafcagnkfdaa
namespace Go.Proofs.Ytgjaafcagnkfdaa
open Go.RowKit
set_option linter.unusedSimpArgs false
set_option linter.unusedVariables false

/-- A space of the reference, as a value. -/
def MdAt (w : World) (v : Value) (bs lm : Int) (ws : List Int) (g : Option Nat) : Prop :=
  ∃ (a : Option Addr) (cap : Nat), v = .agg #[.int .i64 bs, .int .i64 lm, .slice a ws.length cap] ∧ RowAt w a cap ws g
theorem MdAt.below {w w' : World} {v : Value} {bs lm : Int} {ws : List Int} {g : Option Nat} (h : MdAt w v bs lm ws g) (hb : Below w.heap.size w w') : MdAt w' v bs lm ws g := by
  obtain ⟨a, cap, hv, hr⟩ := h
  exact ⟨a, cap, hv, hr.keep (fun _ _ _ => bblock hb)⟩
theorem MdAt.mods {S : Nat → Prop} {w w' : World} {v : Value} {bs lm : Int} {ws : List Int} {g : Option Nat} (h : MdAt w v bs lm ws g) (hb : Mods S w w') (hg : ∀ G, g = some G → ¬ S G) : MdAt w' v bs lm ws g := by
  obtain ⟨a, cap, hv, hr⟩ := h
  exact ⟨a, cap, hv, hr.keep (fun _ _ e ho => mblock hb ho (hg _ e))⟩
end Go.Proofs.Ytgjaafcagnkfdaa
namespace Go.Proofs.Ytgjaafcagnkfdaa
open Go.RowKit
set_option linter.unusedSimpArgs false
set_option linter.unusedVariables false

theorem szB_false {ws : List Int} {i : Nat} (h : ¬ (i + 2 ≤ ws.length ∧ decB (ws.getD i 0) = true ∧ didB (ws.getD (i + 1) 0) = true ∧ i + (wordsI (decF (ws.getD i 0))).toNat ≤ ws.length)) : szB ws i = false := by
  rw [Bool.eq_false_iff]
  exact fun hh => h (szB_iff.1 hh)
theorem two_ret {v v' : Value} {x y : Int} (h : v = v') (g : x = y) : Ending.returned (.tuple #[v, .int .i64 x]) = .returned (.tuple #[v', .int .i64 y]) := by rw [h, g]

theorem row_below {A B : World} {N : Nat} {e : TypeId} {sz : Nat} {v : Value} {n : Nat} {xs : List Value} (h : A.ownsRow N e sz v n xs) (hb : Below A.heap.size A B) : B.ownsRow N e sz v n xs := by
  refine h.kept (grown_of hb) ?_
  cases hvb : v.ownBlock with
  | none => exact .inl rfl
  | some x => exact .inr (by simp)
theorem row_base {A : World} {N B : Nat} {e : TypeId} {sz : Nat} {v : Value} {n : Nat} {xs : List Value} (h : A.ownsRow N e sz v n xs) (hB : B ≤ N) : A.ownsRow B e sz v n xs := by
  obtain ⟨h1, h2⟩ := h
  refine ⟨h1, ?_⟩
  rcases h2 with h2 | ⟨g, c, cur, hv, hg, h3⟩
  · exact .inl h2
  · exact .inr ⟨g, c, cur, hv, Nat.le_trans hB hg, h3⟩
end Go.Proofs.Ytgjaafcagnkfdaa
namespace Go.Proofs.Ytgjaafcagnkfdaa
open Go.RowKit
set_option linter.unusedSimpArgs false
set_option linter.unusedVariables false

theorem row_cells {w : World} {a : Option Addr} {cap : Nat} {ws : List Int} {G : Nat} (h : RowAt w a cap ws (some G)) : ∀ (j : Nat) (u : Value), (ws.map (Value.int .u64))[j]? = some u → w.cell? ((⟨G, 0, none⟩ : Addr).add j) = some u := by
  intro j u hj
  obtain ⟨_, _, h3⟩ := h
  rcases h3 with ⟨h3, _⟩ | ⟨G', cur, e, _, hh, hs, ht⟩
  · cases h3
  · cases e
    rw [Addr.add_lit, Nat.zero_add, cell_of_block hh]
    have hlt : j < ws.length := by
      have := (List.getElem?_eq_some_iff.1 hj).1
      simpa using this
    rw [← ht, List.getElem?_take_of_lt hlt] at hj
    rw [← Array.getElem?_toList]
    exact hj
/-- An owned row of words, as a row. -/
theorem RowAt.of_row {w : World} {B : Nat} {v : Value} {ws : List Int} (h : w.ownsRow B 49 1 v ws.length (ws.map (Value.int .u64))) :
    ∃ (a : Option Addr) (cap : Nat) (g : Option Nat), v = .slice a ws.length cap ∧ RowAt w a cap ws g ∧ ∀ G, g = some G → B ≤ G := by
  obtain ⟨h1, h2⟩ := h
  rcases h2 with ⟨rfl, h0⟩ | ⟨g, cap, cur, rfl, hg, hh, hn, hm, hs, ht⟩
  · have : ws = [] := List.length_eq_zero_iff.1 h0
    subst this
    exact ⟨none, 0, none, rfl, ⟨by simp, by omega, .inl ⟨rfl, rfl⟩⟩, fun G h => by cases h⟩
  · refine ⟨_, cap, some g, rfl, ⟨hn, hm, .inr ⟨g, cur, rfl, rfl, hh, by omega, by rw [Nat.mul_one] at ht; exact ht⟩⟩, fun G h => by cases h; exact hg⟩
theorem u64_info' : (Try.prog.info? 49).map (fun i => (i.zero, i.size, i.bytes)) = some (some (.int .u64 0), 1, 8) := by kernel_rfl

theorem RowAt.set {w : World} {a : Option Addr} {cap : Nat} {ws : List Int} {G i : Nat} (h : RowAt w a cap ws (some G)) (hi : i < ws.length) (u : Int) : RowAt (w.setCell ⟨G, i, none⟩ (.int .u64 u)) a cap (ws.set i u) (some G) := by
  obtain ⟨e2, e3, e4⟩ := h
  rcases e4 with ⟨e4, _⟩ | ⟨G', cur, f1, f2, f3, f4, f5⟩
  · cases e4
  · cases f1
    exact ⟨by simpa using e2, e3, .inr ⟨G, cur.setIfInBounds i (.int .u64 u), rfl, f2, heap_setCell_same w G i cur _ _ f3, by simpa using f4, take_set hi u f5⟩⟩
theorem RowAt.other {w : World} {a : Option Addr} {cap : Nat} {ws : List Int} {G : Nat} (h : RowAt w a cap ws (some G)) (p : Addr) (u : Value) (hp : G ≠ p.block) : RowAt (w.setCell p u) a cap ws (some G) :=
  h.keep (fun G' o e ho => by cases e; exact (heap_setCell_other _ _ _ _ hp).trans ho)

end Go.Proofs.Ytgjaafcagnkfdaa
namespace Go.Proofs.Ytgjaafcagnkfdaa
open Go.RowKit
set_option linter.unusedSimpArgs false
set_option linter.unusedVariables false

/-- append of a nil slice to an empty one: nothing happens. -/
theorem run_append_none {P : Program} (t ty e : TypeId) (i : TypeInfo) (ht : P.underlying t = some (.slice e)) (hi : P.info? e = some i) (g : Nat) (w : World) :
    (Builtin.append_ #[t, t] ty #[.slice (some ⟨g, 0, none⟩) 0 0, .slice none 0 0]).run P w = .ok (.slice (some ⟨g, 0, none⟩) 0 0) w := by
  simp [Builtin.append_, run_underlying ht, sizeOf, typeInfo, hi, Builtin.firstCells, Builtin.lenOf, storeCells]
theorem wpList_append_none {P : Program} {ops : Array Oper} {rest : List Oper} {o : Oper} {a : Act} {w : World} {Q : Exit → Act → World → Prop} (hgd : o.guard = none) (s x : Operand) (t : TypeId)
    (ho : o.op = .call { callee := .builtin .append, args := #[s, x], argTypes := #[t, t] }) (e : TypeId) (i : TypeInfo) (ht : P.underlying t = some (.slice e)) (hi : P.info? e = some i)
    (g : Nat) (hs : a.eval s = .slice (some ⟨g, 0, none⟩) 0 0) (hx : a.eval x = .slice none 0 0) (h : wpList P ops Q rest (a.put o.dst (.slice (some ⟨g, 0, none⟩) 0 0)) w) : wpList P ops Q (o :: rest) a w :=
  wpList_plain hgd fun K hK => by
    have hr := run_append_none (P := P) t o.type e i ht hi g w
    unfold Oper.wp execOp
    simp only [ho, resolve, invoke, builtin, Sem.run_bind, Sem.run_pure, Result.andThen_ok, List.map_toArray, List.map_cons, List.map_nil, hs, hx, hr]
    exact hK _ _ h
end Go.Proofs.Ytgjaafcagnkfdaa
namespace Go.Proofs.Ytgjaafcagnkfdaa
open Go.RowKit
set_option linter.unusedSimpArgs false
set_option linter.unusedVariables false

theorem alloc_at {w : World} (o : Obj) {k : Nat} (h : k = w.heap.size) : (w.alloc o).heap[k]? = some o := by
  subst h
  exact alloc_get w o
theorem alloc_lt {w : World} (o : Obj) {k : Nat} {x : Obj} (h : w.heap[k]? = some x) : (w.alloc o).heap[k]? = some x := bblock (balloc (Below.refl _ _) o) h
theorem grown_refl (w : World) (r : Option Nat) : w.grownBy w r := ⟨rfl, rfl, rfl, Nat.le_refl _, fun _ _ _ => rfl⟩
/-- append of a nil slice to an empty one: nothing happens. -/
theorem run_append_nil {P : Program} (t ty e : TypeId) (i : TypeInfo) (ht : P.underlying t = some (.slice e)) (hi : P.info? e = some i) (g : Nat) (w : World) :
    (Builtin.append_ #[t, t] ty #[.slice (some ⟨g, 0, none⟩) 0 0, .slice none 0 0]).run P w = .ok (.slice (some ⟨g, 0, none⟩) 0 0) w := by
  simp [Builtin.append_, run_underlying ht, sizeOf, typeInfo, hi, Builtin.firstCells, Builtin.lenOf, storeCells]
theorem wpList_append_nil {P : Program} {ops : Array Oper} {rest : List Oper} {o : Oper} {a : Act} {w : World} {Q : Exit → Act → World → Prop} (hgd : o.guard = none) (s x : Operand) (t : TypeId)
    (ho : o.op = .call { callee := .builtin .append, args := #[s, x], argTypes := #[t, t] }) (e : TypeId) (i : TypeInfo) (ht : P.underlying t = some (.slice e)) (hi : P.info? e = some i)
    (g : Nat) (hs : a.eval s = .slice (some ⟨g, 0, none⟩) 0 0) (hx : a.eval x = .slice none 0 0) (h : wpList P ops Q rest (a.put o.dst (.slice (some ⟨g, 0, none⟩) 0 0)) w) : wpList P ops Q (o :: rest) a w :=
  wpList_plain hgd fun K hK => by
    have hr := run_append_nil (P := P) t o.type e i ht hi g w
    unfold Oper.wp execOp
    simp only [ho, resolve, invoke, builtin, Sem.run_bind, Sem.run_pure, Result.andThen_ok, List.map_toArray, List.map_cons, List.map_nil, hs, hx, hr]
    exact hK _ _ h
/-- What is to be appended lies there, or is nil. -/
def NewsAt (w : World) (A : Option Addr) (m c : Nat) (news : List Value) : Prop := (A = none ∧ m = 0 ∧ c = 0) ∨ ∃ ad, A = some ad ∧ ∀ j u, news[j]? = some u → w.cell? (ad.add j) = some u
theorem NewsAt.below {w w' : World} {A : Option Addr} {m c : Nat} {news : List Value} (h : NewsAt w A m c news) (hb : Below w.heap.size w w') : NewsAt w' A m c news := by
  rcases h with h | ⟨ad, hA, h⟩
  · exact .inl h
  · exact .inr ⟨ad, hA, fun j u hj => bcellv hb (h j u hj)⟩
theorem wpList_append_fresh {P : Program} {w : World} {ops : Array Oper} {rest : List Oper} {o : Oper} {a : Act} {Q : Exit → Act → World → Prop} (hgd : o.guard = none) (s x : Operand) (t : TypeId)
    (ho : o.op = .call { callee := .builtin .append, args := #[s, x], argTypes := #[t, t] })
    (base : Nat) (e : TypeId) (i : TypeInfo) (z : Value) (size bytes : Nat) (ht : P.underlying t = some (.slice e)) (hi : P.info? e = some i) (hz : i.zero = some z)
    (hsize : i.size = size) (hby : i.bytes = bytes) (hzs : z.cells.size = size) (hsz : 0 < size)
    (g : Nat) (hs : a.eval s = .slice (some ⟨g, 0, none⟩) 0 0) (hown : w.ownsRow base e size (.slice (some ⟨g, 0, none⟩) 0 0) 0 [])
    (A : Option Addr) (m c : Nat) (news : List Value) (hx : a.eval x = .slice A m c) (hl : news.length = m * size) (hnews : NewsAt w A m c news) (h1 : ∀ u ∈ news, u.oneCell' = true)
    (h63 : m ≤ maxLen) (hbytes : m * bytes ≤ 140737488355328) (hbase : base ≤ w.heap.size)
    (h : ∀ (g' c' : Nat) (w' : World), w'.ownsRow base e size (.slice (some ⟨g', 0, none⟩) m c') m news → w.grownBy w' (some g) → wpList P ops Q rest (a.put o.dst (.slice (some ⟨g', 0, none⟩) m c')) w') : wpList P ops Q (o :: rest) a w := by
  rcases hnews with ⟨rfl, rfl, rfl⟩ | ⟨ad, rfl, hn⟩
  · have h0 : news = [] := List.length_eq_zero_iff.1 (by omega)
    subst h0
    exact wpList_append_nil hgd s x t ho e i ht hi g hs hx (h g 0 w hown (grown_refl w _))
  · refine wpList_append_own w hgd s x t ho base e i z size bytes ht hi hz hsize hby hzs hsz _ 0 [] hs hown ad m c news hx hl hn h1 (by omega) (by rw [Nat.zero_add]; exact hbytes) hbase fun v' w' ho' hg' hnil => ?_
    simp only [Nat.zero_add, List.nil_append] at ho'
    have hv : v' ≠ .slice none 0 0 := fun e => by have := (hnil.1 e).1; cases this
    obtain ⟨_, h2⟩ := id ho'
    rcases h2 with ⟨h2, _⟩ | ⟨g', cap, cur, rfl, _⟩
    · exact absurd h2 hv
    · exact h g' cap w' ho' hg'
/-- The words of a row, as what is to be appended. -/
theorem RowAt.news {w : World} {A : Option Addr} {cap : Nat} {ws : List Int} {g : Option Nat} (h : RowAt w A cap ws g) {t : Nat} (ht : t ≤ ws.length) : NewsAt w A t cap ((ws.take t).map (Value.int .u64)) := by
  have h' := h
  obtain ⟨e1, _, e3⟩ := h
  rcases e3 with ⟨_, e3⟩ | ⟨G, _, rfl, e3, _⟩
  · cases A with
    | none => exact .inl ⟨rfl, by omega, e3⟩
    | some ad =>
      refine .inr ⟨ad, rfl, fun j u hj => ?_⟩
      have h0 : ws = [] := List.length_eq_zero_iff.1 (by omega)
      rw [h0] at hj
      simp at hj
  · cases e3
    refine .inr ⟨_, rfl, fun j u hj => row_cells h' j u ?_⟩
    rw [List.map_take] at hj
    have := (List.getElem?_eq_some_iff.1 hj).1
    rw [List.length_take] at this
    rwa [List.getElem?_take_of_lt (by omega)] at hj
theorem RowAt.apart {w : World} {a : Option Addr} {cap : Nat} {ws : List Int} {g : Option Nat} (h : RowAt w a cap ws g) (p : Addr) (u : Value) (hp : ∀ G, g = some G → G ≠ p.block) : RowAt (w.setCell p u) a cap ws g :=
  h.keep (fun G o e ho => (heap_setCell_other _ _ _ _ (hp G e)).trans ho)
/-- Two words that were just laid. -/
theorem two_new (W : World) (x z : Value) (t : TypeId) : ∀ j u, [x, z][j]? = some u → (W.alloc (.cells #[x, z] t)).cell? ((⟨W.heap.size, 0, none⟩ : Addr).add j) = some u := by
  intro j u hj
  rw [Addr.add_lit, Nat.zero_add, cell_of_block (alloc_get _ _)]
  simpa using hj
theorem u64_one (ws : List Int) : ∀ u ∈ ws.map (Value.int .u64), u.oneCell' = true := by
  intro u hu
  obtain ⟨y, _, rfl⟩ := List.mem_map.1 hu
  rfl
end Go.Proofs.Ytgjaafcagnkfdaa
namespace Go.Proofs.Ytgjaafcagnkfdaa
open Go.RowKit
set_option linter.unusedSimpArgs false
set_option linter.unusedVariables false

/-- A space of the reference that was just made, and stands within what is handed back. -/
def MadeAt (w : World) (mk : Value → Value) (bs lm : Int) (ws : List Int) (e : Ending) (w' : World) : Prop :=
  ∃ v' g', e = .returned (mk v') ∧ MdAt w' v' bs lm ws g' ∧ (∀ G, g' = some G → w.heap.size ≤ G) ∧ Below w.heap.size w w'
end Go.Proofs.Ytgjaafcagnkfdaa
namespace Go.Proofs.Ytgjaafcagnkfdaa
open Go.RowKit
set_option linter.unusedSimpArgs false
set_option linter.unusedVariables false

theorem okT_iff {bs : Int} {ws : List Int} {x : Int} : okT bs ws x ↔ (x = bs + ws.length ∧ bs + (stopAt ws 0 : Nat) = x) ∨ x ∈ objA bs ws := by
  unfold okT seqL hitT objA
  constructor
  · rintro ⟨y, hy, h1, h2⟩
    rcases List.mem_append.1 hy with hy | hy
    · obtain ⟨j, hj, rfl⟩ := List.mem_map.1 hy
      exact .inr (List.mem_map.2 ⟨j, hj, h1⟩)
    · rw [List.mem_singleton] at hy
      subst hy
      rcases h2 with h2 | h2
      · cases h2
      · exact .inl ⟨h2, h1⟩
  · rintro (⟨h1, h2⟩ | h)
    · exact ⟨_, List.mem_append.2 (.inr (List.mem_singleton.2 rfl)), h2, .inr h1⟩
    · obtain ⟨j, hj, h1⟩ := List.mem_map.1 h
      exact ⟨(bs + (j : Int), true), List.mem_append.2 (.inl (List.mem_map.2 ⟨j, hj, rfl⟩)), h1, .inl rfl⟩
theorem okT_bd {bs : Int} {ws : List Int} {x : Int} (h : okT bs ws x) : bs ≤ x ∧ x ≤ bs + ws.length := by
  obtain ⟨y, hy, h1, _⟩ := h
  have := seqL_bd hy
  omega
theorem take_mem {zs : List Int} {x z : Int} {t : Nat} (h : zs[t]? = some z) : x ∈ zs.take (t + 1) ↔ x ∈ zs.take t ∨ z = x := by
  have hl := (List.getElem?_eq_some_iff.1 h).1
  rw [List.take_succ_eq_append_getElem hl, List.mem_append, List.mem_singleton]
  have : zs[t] = z := by
    have := List.getElem?_eq_getElem hl
    rw [this] at h
    exact Option.some.inj h
  rw [this]
  constructor
  · rintro (h | h)
    · exact .inl h
    · exact .inr h.symm
  · rintro (h | h)
    · exact .inl h
    · exact .inr h.symm
end Go.Proofs.Ytgjaafcagnkfdaa
namespace Go.Proofs.Ytgjaafcagnkfdaa
open Go.RowKit
set_option linter.unusedSimpArgs false
set_option linter.unusedVariables false

/-- A space behind a call that may write it. -/
def SpNext (w : World) (b : Nat) (bs lm : Int) (ws : List Int) (g : Option Nat) (w' : World) : Prop := ∃ g', SpAt w' b bs lm ws g' ∧ Mods (SpS b g) w w' ∧ ∀ G, g' = some G → g = some G ∨ w.heap.size ≤ G
/-- A space of the reference that is handed back: as it was, or made anew. -/
def MdNext (w : World) (bs lm : Int) (ws : List Int) (g : Option Nat) (v : Value) (w' : World) : Prop := ∃ g', MdAt w' v bs lm ws g' ∧ (∀ G, g' = some G → g = some G ∨ w.heap.size ≤ G) ∧ Below w.heap.size w w'
theorem SpNext.of_below {w w' : World} {b : Nat} {bs lm : Int} {ws : List Int} {g : Option Nat} (h : SpAt w b bs lm ws g) (hb : Below w.heap.size w w') : SpNext w b bs lm ws g w' := ⟨g, h.below hb, Mods.of_below hb, fun _ e => .inl e⟩
theorem MdNext.of_below {w w' : World} {v : Value} {bs lm : Int} {ws : List Int} {g : Option Nat} (h : MdAt w v bs lm ws g) (hb : Below w.heap.size w w') : MdNext w bs lm ws g v w' := ⟨g, h.below hb, fun _ e => .inl e, hb⟩

/-- Alloc: is there an object to be made, and has it room? The error, the address, the words. -/
def alE (bs lm : Int) (ws : List Int) (k c f m s : Int) : Int := if hvB k c f && idB m s then (if bs + ws.length + wordsI f ≤ lm then 0 else 8) else 1
def alA (bs lm : Int) (ws : List Int) (k c f m s : Int) : Int := if alE bs lm ws k c f m s = 0 then bs + ws.length else 0
def alW (bs lm : Int) (ws : List Int) (k c f m s : Int) : List Int := if alE bs lm ws k c f m s = 0 then ws ++ newObj k c f m s else ws
theorem al_bad {bs lm : Int} {ws : List Int} {k c f m s : Int} (h : (hvB k c f && idB m s) = false) : alE bs lm ws k c f m s = 1 ∧ alA bs lm ws k c f m s = 0 ∧ alW bs lm ws k c f m s = ws := by
  have e : alE bs lm ws k c f m s = 1 := by unfold alE; rw [h]; rfl
  refine ⟨e, ?_, ?_⟩
  · unfold alA; rw [e]; rfl
  · unfold alW; rw [e]; rfl
theorem al_full {bs lm : Int} {ws : List Int} {k c f m s : Int} (h : (hvB k c f && idB m s) = true) (hf : lm < bs + ws.length + wordsI f) : alE bs lm ws k c f m s = 8 ∧ alA bs lm ws k c f m s = 0 ∧ alW bs lm ws k c f m s = ws := by
  have e : alE bs lm ws k c f m s = 8 := by unfold alE; rw [h, if_pos rfl, if_neg (by omega)]
  refine ⟨e, ?_, ?_⟩
  · unfold alA; rw [e]; rfl
  · unfold alW; rw [e]; rfl
theorem al_ok {bs lm : Int} {ws : List Int} {k c f m s : Int} (h : (hvB k c f && idB m s) = true) (hf : bs + ws.length + wordsI f ≤ lm) : alE bs lm ws k c f m s = 0 ∧ alA bs lm ws k c f m s = bs + ws.length ∧ alW bs lm ws k c f m s = ws ++ newObj k c f m s := by
  have e : alE bs lm ws k c f m s = 0 := by unfold alE; rw [h, if_pos rfl, if_pos hf]
  refine ⟨e, ?_, ?_⟩
  · unfold alA; rw [if_pos e]
  · unfold alW; rw [if_pos e]
theorem alOk {bs lm : Int} {ws : List Int} (hk : SpOk bs lm ws) (k c f m s : Int) : SpOk bs lm (alW bs lm ws k c f m s) := by
  cases h : (hvB k c f && idB m s)
  · rw [(al_bad h).2.2]; exact hk
  · by_cases hf : bs + ws.length + wordsI f ≤ lm
    · rw [(al_ok h hf).2.2]
      rw [Bool.and_eq_true] at h
      exact hk.grow h.1 h.2 hf
    · rw [(al_full h (by omega)).2.2]; exact hk
theorem alloc_any {w : World} {b : Nat} {bs lm : Int} {ws : List Int} {g : Option Nat} (hs : SpAt w b bs lm ws g) (hk : SpOk bs lm ws) (k c f m s : Int) :
    Calls Try.prog 13 #[.pointer (some ⟨b, 0, none⟩), .agg #[.int .i64 k, .int .i64 c, .int .i64 f], .agg #[.int .i64 m, .int .i64 s]] w fun e w' => e = .returned (.tuple #[.int .i64 (alA bs lm ws k c f m s), .int .i64 (alE bs lm ws k c f m s)]) ∧ SpNext w b bs lm (alW bs lm ws k c f m s) g w' := by
  cases h : hvB k c f
  · obtain ⟨e1, e2, e3⟩ := al_bad (bs := bs) (lm := lm) (ws := ws) (k := k) (c := c) (f := f) (m := m) (s := s) (by rw [h]; rfl)
    rw [e1, e2, e3]
    refine (alloc_badH b k c f m s h w).mono ?_
    rintro e w' ⟨rfl, hb⟩
    exact ⟨rfl, .of_below hs hb⟩
  · cases hi : idB m s
    · obtain ⟨e1, e2, e3⟩ := al_bad (bs := bs) (lm := lm) (ws := ws) (k := k) (c := c) (f := f) (m := m) (s := s) (by rw [h, hi]; rfl)
      rw [e1, e2, e3]
      refine (alloc_badI b k c f m s h hi w).mono ?_
      rintro e w' ⟨rfl, hb⟩
      exact ⟨rfl, .of_below hs hb⟩
    · by_cases hf : bs + ws.length + wordsI f ≤ lm
      · obtain ⟨e1, e2, e3⟩ := al_ok (bs := bs) (lm := lm) (ws := ws) (k := k) (c := c) (f := f) (m := m) (s := s) (by rw [h, hi]; rfl) hf
        rw [e1, e2, e3]
        refine (alloc_ok hs hk k c f m s h hi hf).mono ?_
        rintro e w' ⟨rfl, g', h1, h2, h3⟩
        exact ⟨rfl, g', h1, h2, h3⟩
      · obtain ⟨e1, e2, e3⟩ := al_full (bs := bs) (lm := lm) (ws := ws) (k := k) (c := c) (f := f) (m := m) (s := s) (by rw [h, hi]; rfl) (by omega)
        rw [e1, e2, e3]
        refine (alloc_full hs hk k c f m s h hi (by omega)).mono ?_
        rintro e w' ⟨rfl, hb⟩
        exact ⟨rfl, .of_below hs hb⟩
def ioE (bs : Int) (ws : List Int) (x : Int) : Int := if inB bs ws.length x then 0 else 2
def ldW (bs : Int) (ws : List Int) (x : Int) : Int := if inB bs ws.length x then ws.getD (x - bs).toNat 0 else 0
def stW (bs : Int) (ws : List Int) (x u : Int) : List Int := if inB bs ws.length x then ws.set (x - bs).toNat u else ws
theorem SpOk.set {bs lm : Int} {ws : List Int} (hk : SpOk bs lm ws) (i : Nat) {u : Int} (hu : U64 u) : SpOk bs lm (ws.set i u) := by
  obtain ⟨b0, b1, b2, b3⟩ := hk
  refine ⟨b0, by simpa using b1, b2, fun x hx => ?_⟩
  rcases List.mem_or_eq_of_mem_set hx with h | rfl
  · exact b3 x h
  · exact hu
theorem stOk {bs lm : Int} {ws : List Int} (hk : SpOk bs lm ws) (x : Int) {u : Int} (hu : U64 u) : SpOk bs lm (stW bs ws x u) := by
  unfold stW
  split
  · exact hk.set _ hu
  · exact hk
theorem stLen {bs : Int} {ws : List Int} {x u : Int} : (stW bs ws x u).length = ws.length := by
  unfold stW
  split <;> simp
theorem ldU {bs lm : Int} {ws : List Int} (hk : SpOk bs lm ws) (x : Int) : U64 (ldW bs ws x) := by
  unfold ldW
  split
  · exact getD_u64 hk.u64 _
  · exact U64.of (by omega) (by omega)
theorem load_any {w : World} {b : Nat} {bs lm : Int} {ws : List Int} {g : Option Nat} (h : SpAt w b bs lm ws g) (hk : SpOk bs lm ws) (x : Int) :
    Calls Try.prog 49 #[.pointer (some ⟨b, 0, none⟩), .int .i64 x] w fun e w' => e = .returned (.tuple #[.int .u64 (ldW bs ws x), .int .i64 (ioE bs ws x)]) ∧ Below w.heap.size w w' := by
  unfold ldW ioE
  cases hx : inB bs ws.length x
  · exact load_no h hk x hx
  · obtain ⟨h0, h1⟩ := inB_iff.1 hx
    obtain ⟨i, rfl⟩ : ∃ i : Nat, x = bs + (i : Int) := ⟨(x - bs).toNat, by omega⟩
    rw [show (bs + (i : Int) - bs).toNat = i by omega]
    exact load_yes h hk i (by omega)
theorem store_any {w : World} {b : Nat} {bs lm : Int} {ws : List Int} {g : Option Nat} (h : SpAt w b bs lm ws g) (hk : SpOk bs lm ws) (x u : Int) :
    Calls Try.prog 50 #[.pointer (some ⟨b, 0, none⟩), .int .i64 x, .int .u64 u] w fun e w' => e = .returned (.int .i64 (ioE bs ws x)) ∧ SpNext w b bs lm (stW bs ws x u) g w' := by
  unfold stW ioE
  cases hx : inB bs ws.length x
  · refine (store_no h hk x u hx).mono ?_
    rintro e w' ⟨rfl, hb⟩
    exact ⟨rfl, .of_below h hb⟩
  · obtain ⟨h0, h1⟩ := inB_iff.1 hx
    obtain ⟨i, rfl⟩ : ∃ i : Nat, x = bs + (i : Int) := ⟨(x - bs).toNat, by omega⟩
    rw [show (bs + (i : Int) - bs).toNat = i by omega]
    refine (store_yes h hk i (by omega) u).mono ?_
    rintro e w' ⟨rfl, h1, h2⟩
    exact ⟨rfl, g, h1, h2.mono (fun k hk => .inr hk), fun _ e => .inl e⟩
end Go.Proofs.Ytgjaafcagnkfdaa
namespace Go.Proofs.Ytgjaafcagnkfdaa
open Go.RowKit
set_option linter.unusedSimpArgs false
set_option linter.unusedVariables false

/-! ### Truncate -/
theorem SpOk.cut {bs lm : Int} {ws : List Int} (hk : SpOk bs lm ws) (t : Nat) : SpOk bs lm (ws.take t) := by
  obtain ⟨b0, b1, b2, b3⟩ := hk
  refine ⟨b0, ?_, b2, fun x hx => b3 x (List.mem_of_mem_take hx)⟩
  rw [List.length_take]
  omega
open Classical in
noncomputable def trE (bs : Int) (ws : List Int) (x : Int) : Int := if okT bs ws x then 0 else 2
open Classical in
noncomputable def trW (bs : Int) (ws : List Int) (x : Int) : List Int := if okT bs ws x then ws.take (x - bs).toNat else ws
theorem trOk {bs lm : Int} {ws : List Int} (hk : SpOk bs lm ws) (x : Int) : SpOk bs lm (trW bs ws x) := by
  unfold trW
  split
  · exact hk.cut _
  · exact hk
theorem truncate_any {w : World} {b : Nat} {bs lm : Int} {ws : List Int} {g : Option Nat} (h : SpAt w b bs lm ws g) (hk : SpOk bs lm ws) (x : Int) :
    Calls Try.prog 26 #[.pointer (some ⟨b, 0, none⟩), .int .i64 x] w fun e w' => e = .returned (.int .i64 (trE bs ws x)) ∧ SpNext w b bs lm (trW bs ws x) g w' := by
  refine (trunc_any h hk x).mono ?_
  unfold trE trW
  rintro e w' (⟨ho, rfl, h1, h2⟩ | ⟨ho, rfl, hb⟩)
  · rw [if_pos ho, if_pos ho]
    exact ⟨rfl, g, h1, h2.mono (fun k hk => .inl hk), fun _ e => .inl e⟩
  · rw [if_neg ho, if_neg ho]
    exact ⟨rfl, .of_below h hb⟩
end Go.Proofs.Ytgjaafcagnkfdaa
namespace Go.Proofs.Ytgjaafcagnkfdaa
open Go.RowKit
set_option linter.unusedSimpArgs false
set_option linter.unusedVariables false

/-- A copy of a row. -/
def CloneAt (w : World) (ws : List Int) (e : Ending) (w' : World) : Prop := ∃ A' cap' g', e = .returned (.slice A' ws.length cap') ∧ RowAt w' A' cap' ws g' ∧ (∀ G, g' = some G → w.heap.size ≤ G) ∧ Below w.heap.size w w'
set_option maxRecDepth 100000 in
theorem clone_row {w : World} {A : Option Addr} {cap : Nat} {ws : List Int} {g : Option Nat} (hr : RowAt w A cap ws g) (hl : ws.length ≤ 1099511627776) :
    Calls Try.prog 45 #[.slice A ws.length cap] w (CloneAt w ws) := by
  obtain ⟨i0, hi0, hz0, hz1, hz2⟩ := info_parts u64_info'
  have hml : maxLen = 9223372036854775807 := rfl
  cases A with
  | none =>
    obtain ⟨e1, e2, e3⟩ := id hr
    have hc : cap = 0 ∧ g = none := by
      rcases e3 with ⟨h, h'⟩ | ⟨_, _, _, h, _⟩
      · exact ⟨h', h⟩
      · cases h
    obtain ⟨rfl, rfl⟩ := hc
    have h0 : ws = [] := List.length_eq_zero_iff.1 (by omega)
    subst h0
    have hfin : CloneAt w [] (.returned (.slice none 0 0)) w := ⟨none, 0, none, rfl, hr, none_ge, Below.refl _ _⟩
    have hq := fun wx => Lib.run_eql_slice_nil (P := Try.prog) wx 28 49 none 0 0 0 0 Try.underlying28
    clear e1 e2 e3
    simp only [List.length_nil]
    go_enter Try.func45, Try.ntmps45
    go_wp2
    go_ret
    exact hfin
  | some ad =>
    have hnews := (hr.news (t := ws.length) (Nat.le_refl _)).below (balloc (Below.refl _ w) (.cells #[] 49))
    rw [List.take_of_length_le (Nat.le_refl _)] at hnews
    have hown0 := World.ownsRow_made w (base := w.heap.size) (e := 49) (size := 1) #[] 0 (Nat.le_refl _) (Nat.zero_le _) rfl
    have hn : ∃ n, ws.length = n := ⟨_, rfl⟩
    obtain ⟨n, hn⟩ := hn
    have hfin : ∀ (gv cv : Nat) (w' : World), w'.ownsRow w.heap.size 49 1 (.slice (some ⟨gv, 0, none⟩) n cv) n (ws.map (Value.int .u64)) → Below w.heap.size w w' → CloneAt w ws (.returned (.slice (some ⟨gv, 0, none⟩) n cv)) w' := by
      intro gv cv w' ho hb
      obtain ⟨a2, cap2, g2, e2, hr2, hg2⟩ := RowAt.of_row (ws := ws) (by rw [hn]; exact ho)
      rw [hn] at e2
      exact ⟨a2, cap2, g2, by rw [e2, hn], hr2, hg2, hb⟩
    have HF := Lib.hid hfin
    rw [hn] at hl hnews ⊢
    have hq := fun wx => Lib.run_eql_slice_nil (P := Try.prog) wx 28 49 (some ad) n cap 0 0 Try.underlying28
    clear hr hfin
    have HN := Lib.hid hn
    clear hn
    go_enter Try.func45, Try.ntmps45
    go_wp2_with (at_builtin; refine wpList_append_fresh rfl _ _ 28 rfl w.heap.size 49 i0 (.int .u64 0) 1 8 Try.underlying28 hi0 hz0 hz1 hz2 rfl (by decide) w.heap.size rfl hown0 (some ad) n cap (ws.map (Value.int .u64)) rfl (by simp [HN.out]) hnews (u64_one ws) (by omega) (by omega) (by simp) ?_; intro gv cv w1 hown1 hgrow1; have hb1 : Below w.heap.size w w1 := ((Below.refl _ w).alloc (Nat.le_refl _) _).grown hgrow1 (by simp) (fun k e => by cases e; exact Nat.le_refl _); have HG := Lib.hid (HF.out gv cv w1 hown1 hb1); clear hown1 hgrow1 hnews hown0 hb1)
    go_ret
    exact HG.out
/-- A space that was just made. -/
def SpMade (w : World) (bs lm : Int) (ws : List Int) (e : Ending) (w' : World) : Prop :=
  ∃ (b' : Nat) (g' : Option Nat), e = .returned (.pointer (some ⟨b', 0, none⟩)) ∧ SpAt w' b' bs lm ws g' ∧ w.heap.size ≤ b' ∧ (∀ G, g' = some G → w.heap.size ≤ G) ∧ Below w.heap.size w w'
set_option maxRecDepth 100000 in
set_option maxHeartbeats 1000000 in
theorem space_clone {w : World} {b : Nat} {bs lm : Int} {ws : List Int} {g : Option Nat} (h : SpAt w b bs lm ws g) (hk : SpOk bs lm ws) :
    Calls Try.prog 19 #[.pointer (some ⟨b, 0, none⟩)] w (SpMade w bs lm ws) := by
  have hl : ws.length ≤ 1099511627776 := by have := hk.b0; have := hk.top; have := hk.lm1; omega
  obtain ⟨a, cap, c0, c1, c2, hr⟩ := h.cells
  have hC := fun (W : World) (H : RowAt W a cap ws g) => clone_row H hl
  have hr' : RowAt w.drew a cap ws g := hr
  generalize hn : ws.length = n at *
  have HN := Lib.hid hn
  clear hn h hr hk
  go_enter Try.func19, Try.ntmps19
  go_wp2_with fail
  go_region_held3 (fun w' => w'.cell? ⟨b, 0, none⟩ = some (.int .i64 bs) ∧ w'.cell? ⟨b, 1, none⟩ = some (.int .i64 lm) ∧ w'.cell? ⟨b, 2, none⟩ = some (.slice a n cap)) (first | exact ⟨c0, c1, c2⟩ | go_keep) (first
    | (go_at_call 45; refine (hC _ hr').mono ?_; rintro e w1 ⟨A', cap', g', rfl, hr1, hg1, hb1⟩; have c0 := bcellv hb1 (show w.drew.cell? _ = _ from c0); have c1 := bcellv hb1 (show w.drew.cell? _ = _ from c1); have c2 := bcellv hb1 (show w.drew.cell? _ = _ from c2)))
  have hlt : w.heap.size ≤ w1.heap.size := hb1.size
  have hfin : SpMade w bs lm ws (.returned (.pointer (some ⟨w1.heap.size, 0, none⟩))) (w1.alloc (.cells #[.int .i64 bs, .int .i64 lm, .slice A' ws.length cap'] 69)) := by
    refine ⟨w1.heap.size, g', rfl, ⟨A', cap', alloc_get _ _, hr1.keep (fun G o e ho => alloc_lt _ ho), fun e => ?_⟩, hlt, hg1, balloc (bchain hb1 (Below.refl _ _).drew) _⟩
    obtain ⟨_, _, h3⟩ := hr1
    rcases h3 with ⟨h3, _⟩ | ⟨G, cur, h3, _, h4, _⟩
    · rw [h3] at e; cases e
    · rw [h3] at e
      cases e
      have := (Array.getElem?_eq_some_iff.1 h4).1
      omega
  have HF := Lib.hid hfin
  clear hfin hC hr' hr1 hg1 hb1 c0 c1 c2
  go_wp2
  go_ret
  exact HF.out
end Go.Proofs.Ytgjaafcagnkfdaa
