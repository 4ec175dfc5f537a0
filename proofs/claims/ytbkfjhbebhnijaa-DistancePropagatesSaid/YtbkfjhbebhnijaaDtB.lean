/-
  law 31: rows of summaries; FewStubs; slices.Clone of insets.
-/
import Derived.Test.YtbkfjhbebhnijaaDtA
import Derived.Test.YtbkfjhbebhnijaaDsU
import Derived.Laws.Cover3
namespace Go.Proofs.Ytbkfjhbebhnijaa
open Go.RowKit Go.Maps Go.WideElems Go.ChangeShapes Go.MapKept
set_option linter.unusedSimpArgs false
set_option linter.unusedVariables false

theorem flat_get {α : Type} {f : α → List Value} {k : Nat} (hf : ∀ x, (f x).length = k) : ∀ (l : List α) (i r : Nat), r < k → (l.flatMap f)[i * k + r]? = (l[i]?).bind (fun x => (f x)[r]?) := by
  intro l
  induction l with
  | nil => intro i r _; simp
  | cons x l ih =>
    intro i r hr
    rw [List.flatMap_cons]
    cases i with
    | zero =>
      rw [Nat.zero_mul, Nat.zero_add, List.getElem?_append_left (by rw [hf]; exact hr)]
      rfl
    | succ i =>
      rw [List.getElem?_append_right (by rw [hf, Nat.succ_mul]; omega), hf, List.getElem?_cons_succ, ← ih i r hr]
      congr 1
      rw [Nat.succ_mul]; omega
theorem flat_len {α : Type} {f : α → List Value} {k : Nat} (hf : ∀ x, (f x).length = k) (l : List α) : (l.flatMap f).length = l.length * k := by
  induction l with
  | nil => simp
  | cons x l ih => rw [List.flatMap_cons, List.length_append, hf, ih, List.length_cons, Nat.succ_mul]; omega
theorem flat_cell {α : Type} {f : α → List Value} {k : Nat} (hf : ∀ x, (f x).length = k) (hk : 0 < k) {l : List α} {j : Nat} {u : Value} (h : (l.flatMap f)[j]? = some u) : ∃ x, l[j / k]? = some x ∧ (f x)[j % k]? = some u := by
  have e : j = j / k * k + j % k := by rw [Nat.mul_comm]; exact (Nat.div_add_mod j k).symm
  rw [e, flat_get hf l _ _ (Nat.mod_lt _ hk)] at h
  obtain ⟨x, h1, h2⟩ := Option.bind_eq_some_iff.1 h
  exact ⟨x, h1, h2⟩
/-- Appending what lies elsewhere, or nothing. -/
theorem wpList_append_news {P : Program} {w : World} {ops : Array Oper} {rest : List Oper} {o : Oper} {a : Act} {Q : Exit → Act → World → Prop} (hgd : o.guard = none) (s x : Operand) (t : TypeId)
    (ho : o.op = .call { callee := .builtin .append, args := #[s, x], argTypes := #[t, t] })
    (base : Nat) (e : TypeId) (i : TypeInfo) (z : Value) (size bytes : Nat) (ht : P.underlying t = some (.slice e)) (hi : P.info? e = some i) (hz : i.zero = some z)
    (hsize : i.size = size) (hby : i.bytes = bytes) (hzs : z.cells.size = size) (hsz : 0 < size)
    (v : Value) (n : Nat) (xs : List Value) (hs : a.eval s = v) (hown : w.ownsRow base e size v n xs)
    (A : Option Addr) (m c : Nat) (news : List Value) (hx : a.eval x = .slice A m c) (hl : news.length = m * size) (hnews : NewsAt w A m c news) (h1 : ∀ u ∈ news, u.oneCell' = true)
    (h63 : n + m ≤ maxLen) (hbytes : (n + m) * bytes ≤ 140737488355328) (hbase : base ≤ w.heap.size)
    (h : ∀ v' w', w'.ownsRow base e size v' (n + m) (xs ++ news) → w.grownBy w' v.ownBlock → (v'.ownBlock = v.ownBlock ∨ v'.ownBlock = some w.heap.size) → wpList P ops Q rest (a.put o.dst v') w') :
    wpList P ops Q (o :: rest) a w := by
  refine wpList_plain hgd fun K hK => ?_
  have := step_append_news (ops := ops) (Q := Q) (E := False) hgd s x t ho base e i z size bytes ht hi hz hsize hby hzs hsz v n xs hs hown A m c news hx hl hnews h1 h63 hbytes hbase (fun v' w' h2 h3 h4 => hK _ _ (h v' w' h2 h3 h4))
  rwa [if_pos (by simp [Region.wanted, hgd])] at this
def insCells (x : Ins) : List Value := [.int .i64 x.c, .int .u64 x.n, .int .i64 x.o]
def stbCells (p : Stb × Value) : List Value := [.int .i64 p.1.o, .int .u64 p.1.n, .bool p.1.r, .int .i64 p.1.d, p.2]
theorem ins_info : (Try.prog.info? 63).map (fun i => (i.zero, i.size, i.bytes)) = some (some (.agg #[.int .i64 0, .int .u64 0, .int .i64 0]), 3, 24) := by kernel_rfl
theorem stb_info : (Try.prog.info? 52).map (fun i => (i.zero, i.size, i.bytes)) = some (some (.agg #[.int .i64 0, .int .u64 0, .bool false, .int .i64 0, .slice none 0 0]), 5, 56) := by kernel_rfl
/-- A slice of insets that lies below N, or in a block of insets. -/
def InsK (w : World) (N : Nat) (v : Value) (l : List Ins) : Prop :=
  ∃ (a : Option Addr) (cap : Nat), v = .slice a l.length cap ∧ l.length ≤ cap ∧ cap ≤ 9223372036854775807 ∧ (a = none → cap = 0) ∧ (l = [] ∨ ∃ b off : Nat, a = some ⟨b, off, none⟩ ∧ (b < N ∨ ∃ cs, w.heap[b]? = some (.cells cs 63 (0, 0))) ∧ ∀ i x, l[i]? = some x → InsAt w b (off + i * 3) x)
theorem InsK.ins {w : World} {N : Nat} {v : Value} {l : List Ins} (h : InsK w N v l) : InsV w v l := by
  obtain ⟨a, cap, hv, h1, h2, h0, h3⟩ := h
  exact ⟨a, cap, hv, h1, h2, h0, h3.imp id (fun ⟨b, off, ha, _, hx⟩ => ⟨b, off, ha, hx⟩)⟩
theorem InsV.old {w : World} {v : Value} {l : List Ins} (h : InsV w v l) : InsK w w.heap.size v l := by
  obtain ⟨a, cap, hv, h1, h2, h0, h3⟩ := h
  refine ⟨a, cap, hv, h1, h2, h0, ?_⟩
  rcases h3 with h3 | ⟨b, off, ha, h3⟩
  · exact .inl h3
  · cases l with
    | nil => exact .inl rfl
    | cons x l => exact .inr ⟨b, off, ha, .inl (World.block_lt_of_cell? w _ (h3 0 x rfl).1), h3⟩
theorem InsK.kept {w w' : World} {N : Nat} {v : Value} {l : List Ins} (h : InsK w N v l) {row : Option Nat} (hg : w.grownBy w' row) (hr : ∀ g, row = some g → N ≤ g ∧ ∃ cs, w.heap[g]? = some (.cells cs 52 (0, 0))) : InsK w' N v l := by
  obtain ⟨a, cap, hv, h1, h2, h0, h3⟩ := h
  refine ⟨a, cap, hv, h1, h2, h0, ?_⟩
  rcases h3 with h3 | ⟨b, off, ha, hb, h3⟩
  · exact .inl h3
  · cases l with
    | nil => exact .inl rfl
    | cons x l =>
      have hlt : b < w.heap.size := World.block_lt_of_cell? w _ (h3 0 x rfl).1
      have hne : some b ≠ row := fun e => by
        obtain ⟨g1, cs, g2⟩ := hr b e.symm
        rcases hb with hb | ⟨cs', hb⟩
        · omega
        · rw [hb] at g2
          simp at g2
      have hbk := hg.block b hlt hne
      have hc : ∀ o, w'.cell? ⟨b, o, none⟩ = w.cell? ⟨b, o, none⟩ := fun o => World.cell?_of_block (w := w) hbk
      refine .inr ⟨b, off, ha, ?_, fun i y hy => ?_⟩
      · rw [hbk]; exact hb
      · obtain ⟨c0, c1, c2⟩ := h3 i y hy
        exact ⟨(hc _).trans c0, (hc _).trans c1, (hc _).trans c2⟩
theorem InsK.mono {w : World} {N M : Nat} {v : Value} {l : List Ins} (h : InsK w N v l) (hM : N ≤ M) : InsK w M v l := by
  obtain ⟨a, cap, hv, h1, h2, h0, h3⟩ := h
  exact ⟨a, cap, hv, h1, h2, h0, h3.imp id (fun ⟨b, off, ha, hb, hx⟩ => ⟨b, off, ha, hb.imp (fun h => by omega) id, hx⟩)⟩
theorem InsK.below {w w' : World} {N : Nat} {v : Value} {l : List Ins} (h : InsK w N v l) (hb : Below w.heap.size w w') : InsK w' N v l := h.kept (grown_any hb none) (fun g e => by cases e)
theorem InsK.of_row {w : World} {N M : Nat} {v : Value} {l : List Ins} (h : w.ownsRow N 63 3 v l.length (l.flatMap insCells)) : InsK w M v l := by
  obtain ⟨h1, h2⟩ := h
  rcases h2 with ⟨rfl, h0⟩ | ⟨g, cap, cur, rfl, _, hh, hn, hm, hs, ht⟩
  · have : l = [] := List.length_eq_zero_iff.1 h0
    subst this
    exact ⟨none, 0, rfl, Nat.le_refl _, by omega, fun _ => rfl, .inl rfl⟩
  · refine ⟨_, cap, rfl, hn, hm, fun e => (by cases e), .inr ⟨g, 0, rfl, .inr ⟨_, hh⟩, fun i x hx => ?_⟩⟩
    have hi : i < l.length := (List.getElem?_eq_some_iff.1 hx).1
    have hc : ∀ r u, r < 3 → (insCells x)[r]? = some u → w.cell? ⟨g, 0 + i * 3 + r, none⟩ = some u := fun r u hr hu => by
      rw [cell_of_block hh, ← Array.getElem?_toList, Nat.zero_add]
      have e : (cur.toList.take (l.length * 3))[i * 3 + r]? = (l.flatMap insCells)[i * 3 + r]? := by rw [ht]
      rw [List.getElem?_take_of_lt (by omega), flat_get (f := insCells) (k := 3) (fun _ => rfl) l i r hr, hx] at e
      rw [e]
      exact hu
    exact ⟨hc 0 _ (by omega) rfl, hc 1 _ (by omega) rfl, hc 2 _ (by omega) rfl⟩
theorem InsV.news {w : World} {a : Option Addr} {cap : Nat} {l : List Ins} (h0 : a = none → cap = 0) (hl : l.length ≤ cap) (h : l = [] ∨ ∃ b off : Nat, a = some ⟨b, off, none⟩ ∧ ∀ i x, l[i]? = some x → InsAt w b (off + i * 3) x) : NewsAt w a l.length cap (l.flatMap insCells) := by
  cases a with
  | none => have := h0 rfl; exact .inl ⟨rfl, by omega, this⟩
  | some ad =>
    refine .inr ⟨ad, rfl, fun j u hj => ?_⟩
    obtain ⟨x, hx, hu⟩ := flat_cell (f := insCells) (k := 3) (fun _ => rfl) (by omega) hj
    rcases h with h | ⟨b, off, ha, h⟩
    · rw [h] at hx; simp at hx
    · cases ha
      obtain ⟨c0, c1, c2⟩ := h _ x hx
      rw [Addr.add_lit]
      have hj2 : j % 3 < 3 := Nat.mod_lt _ (by omega)
      have hj3 : off + j = off + j / 3 * 3 + j % 3 := by omega
      rw [hj3]
      generalize j % 3 = r at *
      match r, hu with
      | 0, hu => cases hu; exact c0
      | 1, hu => cases hu; exact c1
      | 2, hu => cases hu; exact c2
      | r + 3, _ => omega
theorem ins_nil (a : Option Addr) (l c : Nat) (w : World) : (binOp .eql 50 (.slice a l c) (.slice none 0 0)).run Try.prog w = .ok (.bool a.isNone) w := by
  simp only [binOp]
  simp [run_equal_slice_nil w _ _ a l c Try.underlying50]
set_option maxRecDepth 100000 in
set_option maxHeartbeats 4000000 in
theorem clone_any {w : World} {v : Value} {l : List Ins} (h : InsV w v l) (hl : l.length ≤ 100000) :
    Calls Try.prog 33 #[v] w fun e w' => ∃ v', e = .returned v' ∧ (∀ M, InsK w' M v' l) ∧ Below w.heap.size w w' := by
  obtain ⟨a, cap, rfl, n1, m1, h0, r⟩ := h
  have hN := InsV.news h0 n1 r
  have hfl := flat_len (f := insCells) (k := 3) (fun _ => rfl) l
  obtain ⟨i0, hi, hz0, hz1, hz2⟩ := info_parts ins_info
  have hml : maxLen = 9223372036854775807 := rfl
  have h1c : ∀ u ∈ l.flatMap insCells, u.oneCell' = true := fun u hu => by
    obtain ⟨x, _, hx⟩ := List.mem_flatMap.1 hu
    unfold insCells at hx
    simp only [List.mem_cons, List.not_mem_nil, or_false] at hx
    rcases hx with rfl | rfl | rfl <;> rfl
  cases a with
  | none =>
    have hc := h0 rfl
    subst hc
    have hnil := fun W => ins_nil none 0 0 W
    have hl0 : l = [] := List.length_eq_zero_iff.1 (by omega)
    subst hl0
    go_enter Try.func33, Try.ntmps33
    go_wp2
    go_ret
    exact ⟨_, rfl, fun M => ⟨none, 0, rfl, Nat.le_refl _, by omega, fun _ => rfl, .inl rfl⟩, Below.refl _ _⟩
  | some ad =>
    have HK := Lib.hid (fun (W : World) (v' : Value) (h : W.ownsRow w.heap.size 63 3 v' l.length (l.flatMap insCells)) => fun M => InsK.of_row (M := M) h)
    have HN := Lib.hid hN
    have HF := Lib.hid hfl
    clear r hN hfl h0
    obtain ⟨n, hn⟩ : ∃ n, l.length = n := ⟨_, rfl⟩
    rw [hn] at HK HN HF n1 hl ⊢
    have hnil := fun W => ins_nil (some ad) n cap W
    generalize l.flatMap insCells = news at *
    go_enter Try.func33, Try.ntmps33
    have hown0 : (w.alloc (.cells #[] 63)).ownsRow w.heap.size 63 3 (.slice (some ⟨w.heap.size, 0, none⟩) 0 0) 0 [] := ⟨rfl, .inr ⟨w.heap.size, 0, #[], rfl, Nat.le_refl _, alloc_get _ _, Nat.le_refl _, by omega, rfl, rfl⟩⟩
    clear hn
    go_wp2_with (at_builtin; refine wpList_append_news rfl _ _ 50 rfl w.heap.size 63 i0 _ 3 24 Try.underlying50 hi hz0 hz1 hz2 rfl (by decide) _ 0 [] rfl hown0 _ n cap news rfl HF.out (HN.out.below (balloc (Below.refl _ _) _)) h1c (by omega) (by omega) (by simp) ?_; intro v' w4 hown4 hg4 _)
    rw [Nat.zero_add, List.nil_append] at hown4
    have hk := HK.out _ _ hown4
    have hb4 : Below w.heap.size w w4 := (balloc (Below.refl _ _) _ : Below w.heap.size w (w.alloc (.cells #[] 63))).grown hg4 (by simp) (fun k e => by cases e; exact Nat.le_refl _)
    go_wp2
    go_ret
    exact ⟨_, rfl, hk, hb4⟩
end Go.Proofs.Ytbkfjhbebhnijaa
