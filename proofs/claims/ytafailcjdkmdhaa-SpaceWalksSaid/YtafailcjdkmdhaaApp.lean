/-
  Appending a slice that may be nil to a slice that was just made; blocks behind new ones. Plain laws of the model's worlds.
-/
import Derived.Test.YtafailcjdkmdhaaRStore
namespace Go.Proofs.Ytafailcjdkmdhaa
open Go.RowKit
set_option linter.unusedSimpArgs false
set_option linter.unusedVariables false

theorem alloc_at {w : World} (o : Obj) {k : Nat} (h : k = w.heap.size) : (w.alloc o).heap[k]? = some o := by
  subst h
  exact alloc_get w o
theorem alloc_lt {w : World} (o : Obj) {k : Nat} {x : Obj} (h : w.heap[k]? = some x) : (w.alloc o).heap[k]? = some x := bblock (balloc (Below.refl _ _) o) h
theorem grown_refl (w : World) (r : Option Nat) : w.grownBy w r := ⟨rfl, rfl, rfl, Nat.le_refl _, fun _ _ _ => rfl⟩
/-- append of a nil slice to an empty one: nothing happens. -/
theorem run_append_nil {P : Program} (t ty e : TypeId) (i : TypeInfo) (ht : P.underlying t = some (.slice e)) (hi : P.info? e = some i) (g : Nat) (w : World) :
    (Builtin.append_ #[t, t] ty #[.slice (some ⟨g, 0, none⟩) 0 0, .slice none 0 0]).run P w = .ok (.slice (some ⟨g, 0, none⟩) 0 0) w := by
  simp [Builtin.append_, run_underlying ht, sizeOf, typeInfo, hi, Builtin.firstCells, Builtin.lenOf, storeCells]
theorem wpList_append_nil {P : Program} {ops : Array Oper} {rest : List Oper} {o : Oper} {a : Act} {w : World} {Q : Exit → Act → World → Prop} (hgd : o.guard = none) (s x : Operand) (t : TypeId)
    (ho : o.op = .call { callee := .builtin .append, args := #[s, x], argTypes := #[t, t] }) (e : TypeId) (i : TypeInfo) (ht : P.underlying t = some (.slice e)) (hi : P.info? e = some i)
    (g : Nat) (hs : a.eval s = .slice (some ⟨g, 0, none⟩) 0 0) (hx : a.eval x = .slice none 0 0) (h : wpList P ops Q rest (a.put o.dst (.slice (some ⟨g, 0, none⟩) 0 0)) w) : wpList P ops Q (o :: rest) a w :=
  wpList_plain hgd fun K hK => by
    have hr := run_append_nil (P := P) t o.type e i ht hi g w
    unfold Oper.wp execOp
    simp only [ho, resolve, invoke, builtin, Sem.run_bind, Sem.run_pure, Result.andThen_ok, List.map_toArray, List.map_cons, List.map_nil, hs, hx, hr]
    exact hK _ _ h
/-- What is to be appended lies there, or is nil. -/
def NewsAt (w : World) (A : Option Addr) (m c : Nat) (news : List Value) : Prop := (A = none ∧ m = 0 ∧ c = 0) ∨ ∃ ad, A = some ad ∧ ∀ j u, news[j]? = some u → w.cell? (ad.add j) = some u
theorem NewsAt.below {w w' : World} {A : Option Addr} {m c : Nat} {news : List Value} (h : NewsAt w A m c news) (hb : Below w.heap.size w w') : NewsAt w' A m c news := by
  rcases h with h | ⟨ad, hA, h⟩
  · exact .inl h
  · exact .inr ⟨ad, hA, fun j u hj => bcellv hb (h j u hj)⟩
theorem wpList_append_fresh {P : Program} {w : World} {ops : Array Oper} {rest : List Oper} {o : Oper} {a : Act} {Q : Exit → Act → World → Prop} (hgd : o.guard = none) (s x : Operand) (t : TypeId)
    (ho : o.op = .call { callee := .builtin .append, args := #[s, x], argTypes := #[t, t] })
    (base : Nat) (e : TypeId) (i : TypeInfo) (z : Value) (size bytes : Nat) (ht : P.underlying t = some (.slice e)) (hi : P.info? e = some i) (hz : i.zero = some z)
    (hsize : i.size = size) (hby : i.bytes = bytes) (hzs : z.cells.size = size) (hsz : 0 < size)
    (g : Nat) (hs : a.eval s = .slice (some ⟨g, 0, none⟩) 0 0) (hown : w.ownsRow base e size (.slice (some ⟨g, 0, none⟩) 0 0) 0 [])
    (A : Option Addr) (m c : Nat) (news : List Value) (hx : a.eval x = .slice A m c) (hl : news.length = m * size) (hnews : NewsAt w A m c news) (h1 : ∀ u ∈ news, u.oneCell' = true)
    (h63 : m ≤ maxLen) (hbytes : m * bytes ≤ 140737488355328) (hbase : base ≤ w.heap.size)
    (h : ∀ (g' c' : Nat) (w' : World), w'.ownsRow base e size (.slice (some ⟨g', 0, none⟩) m c') m news → w.grownBy w' (some g) → wpList P ops Q rest (a.put o.dst (.slice (some ⟨g', 0, none⟩) m c')) w') : wpList P ops Q (o :: rest) a w := by
  rcases hnews with ⟨rfl, rfl, rfl⟩ | ⟨ad, rfl, hn⟩
  · have h0 : news = [] := List.length_eq_zero_iff.1 (by omega)
    subst h0
    exact wpList_append_nil hgd s x t ho e i ht hi g hs hx (h g 0 w hown (grown_refl w _))
  · refine wpList_append_own w hgd s x t ho base e i z size bytes ht hi hz hsize hby hzs hsz _ 0 [] hs hown ad m c news hx hl hn h1 (by omega) (by rw [Nat.zero_add]; exact hbytes) hbase fun v' w' ho' hg' hnil => ?_
    simp only [Nat.zero_add, List.nil_append] at ho'
    have hv : v' ≠ .slice none 0 0 := fun e => by have := (hnil.1 e).1; cases this
    obtain ⟨_, h2⟩ := id ho'
    rcases h2 with ⟨h2, _⟩ | ⟨g', cap, cur, rfl, _⟩
    · exact absurd h2 hv
    · exact h g' cap w' ho' hg'
/-- The words of a row, as what is to be appended. -/
theorem RowAt.news {w : World} {A : Option Addr} {cap : Nat} {ws : List Int} {g : Option Nat} (h : RowAt w A cap ws g) {t : Nat} (ht : t ≤ ws.length) : NewsAt w A t cap ((ws.take t).map (Value.int .u64)) := by
  have h' := h
  obtain ⟨e1, _, e3⟩ := h
  rcases e3 with ⟨_, e3⟩ | ⟨G, _, rfl, e3, _⟩
  · cases A with
    | none => exact .inl ⟨rfl, by omega, e3⟩
    | some ad =>
      refine .inr ⟨ad, rfl, fun j u hj => ?_⟩
      have h0 : ws = [] := List.length_eq_zero_iff.1 (by omega)
      rw [h0] at hj
      simp at hj
  · cases e3
    refine .inr ⟨_, rfl, fun j u hj => row_cells h' j u ?_⟩
    rw [List.map_take] at hj
    have := (List.getElem?_eq_some_iff.1 hj).1
    rw [List.length_take] at this
    rwa [List.getElem?_take_of_lt (by omega)] at hj
theorem RowAt.apart {w : World} {a : Option Addr} {cap : Nat} {ws : List Int} {g : Option Nat} (h : RowAt w a cap ws g) (p : Addr) (u : Value) (hp : ∀ G, g = some G → G ≠ p.block) : RowAt (w.setCell p u) a cap ws g :=
  h.keep (fun G o e ho => (heap_setCell_other _ _ _ _ (hp G e)).trans ho)
/-- Two words that were just laid. -/
theorem two_new (W : World) (x z : Value) (t : TypeId) : ∀ j u, [x, z][j]? = some u → (W.alloc (.cells #[x, z] t)).cell? ((⟨W.heap.size, 0, none⟩ : Addr).add j) = some u := by
  intro j u hj
  rw [Addr.add_lit, Nat.zero_add, cell_of_block (alloc_get _ _)]
  simpa using hj
theorem u64_one (ws : List Int) : ∀ u ∈ ws.map (Value.int .u64), u.oneCell' = true := by
  intro u hu
  obtain ⟨y, _, rfl⟩ := List.mem_map.1 hu
  rfl
end Go.Proofs.Ytafailcjdkmdhaa
