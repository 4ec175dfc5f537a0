/-
  law 13: a memory and its log; Begin, Note, Commit, Open, Len, New.
-/
import Derived.Test.YtgipmcmmicppkaaUD
import Derived.Test.YtgipmcmmicppkaaUE
import Derived.Test.YtgipmcmmicppkaaUF
import Derived.Lib.Hide
import Derived.Maps.AppendAt
import Derived.Deep.AppendLies
namespace Go.Proofs.Ytgipmcmmicppkaa
open Go.RowKit
set_option linter.unusedSimpArgs false
set_option linter.unusedVariables false

theorem run_app_none {P : Program} {w : World} (base : Nat) (t ty e : TypeId) (i : TypeInfo) (size : Nat) (ht : P.underlying t = some (.slice e)) (hi : P.info? e = some i) {v : Value} {n : Nat} {xs : List Value} (hown : w.ownsRow base e size v n xs) :
    (Builtin.append_ #[t, t] ty #[v, .slice none 0 0]).run P w = .ok v w := by
  obtain ⟨_, h2⟩ := hown
  rcases h2 with ⟨rfl, rfl⟩ | ⟨g, cap, cur, rfl, _, _, hn, _⟩
  · simp [Builtin.append_, run_underlying ht, sizeOf, typeInfo, hi, Builtin.firstCells, Builtin.lenOf, storeCells]
  · simp [Builtin.append_, run_underlying ht, sizeOf, typeInfo, hi, Builtin.firstCells, Builtin.lenOf, storeCells, hn]
/-- Appending what lies elsewhere, or nothing, at a step of a region that draws. -/
theorem step_append_news {P : Program} {w : World} {ops : Array Oper} {o : Oper} {a : Act} {K : Act → World → Prop} {Q : Exit → Act → World → Prop} {E : Prop} (hgd : o.guard = none) (s x : Operand) (t : TypeId)
    (ho : o.op = .call { callee := .builtin .append, args := #[s, x], argTypes := #[t, t] })
    (base : Nat) (e : TypeId) (i : TypeInfo) (z : Value) (size bytes : Nat) (ht : P.underlying t = some (.slice e)) (hi : P.info? e = some i) (hz : i.zero = some z)
    (hsize : i.size = size) (hby : i.bytes = bytes) (hzs : z.cells.size = size) (hsz : 0 < size)
    (v : Value) (n : Nat) (xs : List Value) (hs : a.eval s = v) (hown : w.ownsRow base e size v n xs)
    (A : Option Addr) (m c : Nat) (news : List Value) (hx : a.eval x = .slice A m c) (hl : news.length = m * size) (hnews : NewsAt w A m c news) (h1 : ∀ u ∈ news, u.oneCell' = true)
    (h63 : n + m ≤ maxLen) (hbytes : (n + m) * bytes ≤ 140737488355328) (hbase : base ≤ w.heap.size)
    (h : ∀ v' w', w'.ownsRow base e size v' (n + m) (xs ++ news) → w.grownBy w' v.ownBlock → (v'.ownBlock = v.ownBlock ∨ v'.ownBlock = some w.heap.size) → K (a.put o.dst v') w') :
    if Region.wanted o (yielded ops a.tmps) = true then Oper.wp P o a w K Q else E := by
  have hw : Region.wanted o (yielded ops a.tmps) = true := by simp [Region.wanted, hgd]
  rw [if_pos hw]
  rcases hnews with ⟨rfl, rfl, rfl⟩ | ⟨ad, rfl, hn⟩
  · have h0 : news = [] := List.length_eq_zero_iff.1 (by omega)
    subst h0
    have hr := run_app_none (P := P) base t o.type e i size ht hi hown
    unfold Oper.wp execOp
    simp only [ho, resolve, invoke, builtin, Sem.run_bind, Sem.run_pure, Result.andThen_ok, List.map_toArray, List.map_cons, List.map_nil, hs, hx, hr]
    exact h v w (by simpa using hown) (grown_refl w _) (.inl rfl)
  · obtain ⟨v', w', hr, h2, h3, _, h5⟩ := run_append_own_at (P := P) w base t o.type e i z size bytes ht hi hz hsize hby hzs hsz v n xs hown ad m c news hl hn h1 h63 hbytes hbase
    unfold Oper.wp execOp
    simp only [ho, resolve, invoke, builtin, Sem.run_bind, Sem.run_pure, Result.andThen_ok, List.map_toArray, List.map_cons, List.map_nil, hs, hx, hr]
    exact h v' w' h2 h3 h5
/-- Appending what lies elsewhere, or nothing. -/
theorem wpList_append_news {P : Program} {w : World} {ops : Array Oper} {rest : List Oper} {o : Oper} {a : Act} {Q : Exit → Act → World → Prop} (hgd : o.guard = none) (s x : Operand) (t : TypeId)
    (ho : o.op = .call { callee := .builtin .append, args := #[s, x], argTypes := #[t, t] })
    (base : Nat) (e : TypeId) (i : TypeInfo) (z : Value) (size bytes : Nat) (ht : P.underlying t = some (.slice e)) (hi : P.info? e = some i) (hz : i.zero = some z)
    (hsize : i.size = size) (hby : i.bytes = bytes) (hzs : z.cells.size = size) (hsz : 0 < size)
    (v : Value) (n : Nat) (xs : List Value) (hs : a.eval s = v) (hown : w.ownsRow base e size v n xs)
    (A : Option Addr) (m c : Nat) (news : List Value) (hx : a.eval x = .slice A m c) (hl : news.length = m * size) (hnews : NewsAt w A m c news) (h1 : ∀ u ∈ news, u.oneCell' = true)
    (h63 : n + m ≤ maxLen) (hbytes : (n + m) * bytes ≤ 140737488355328) (hbase : base ≤ w.heap.size)
    (h : ∀ v' w', w'.ownsRow base e size v' (n + m) (xs ++ news) → w.grownBy w' v.ownBlock → (v'.ownBlock = v.ownBlock ∨ v'.ownBlock = some w.heap.size) → wpList P ops Q rest (a.put o.dst v') w') :
    wpList P ops Q (o :: rest) a w := by
  refine wpList_plain hgd fun K hK => ?_
  have := step_append_news (ops := ops) (Q := Q) (E := False) hgd s x t ho base e i z size bytes ht hi hz hsize hby hzs hsz v n xs hs hown A m c news hx hl hnews h1 h63 hbytes hbase (fun v' w' h2 h3 h4 => hK _ _ (h v' w' h2 h3 h4))
  rwa [if_pos (by simp [Region.wanted, hgd])] at this
theorem flat_get {α : Type} {f : α → List Value} {k : Nat} (hf : ∀ x, (f x).length = k) : ∀ (l : List α) (i r : Nat), r < k → (l.flatMap f)[i * k + r]? = (l[i]?).bind (fun x => (f x)[r]?) := by
  intro l
  induction l with
  | nil => intro i r _; simp
  | cons x l ih =>
    intro i r hr
    rw [List.flatMap_cons]
    cases i with
    | zero =>
      rw [Nat.zero_mul, Nat.zero_add, List.getElem?_append_left (by rw [hf]; exact hr)]
      rfl
    | succ i =>
      rw [List.getElem?_append_right (by rw [hf, Nat.succ_mul]; omega), hf, List.getElem?_cons_succ, ← ih i r hr]
      congr 1
      rw [Nat.succ_mul]; omega
theorem flat_len {α : Type} {f : α → List Value} {k : Nat} (hf : ∀ x, (f x).length = k) (l : List α) : (l.flatMap f).length = l.length * k := by
  induction l with
  | nil => simp
  | cons x l ih => rw [List.flatMap_cons, List.length_append, hf, ih, List.length_cons, Nat.succ_mul]; omega
theorem flat_cell {α : Type} {f : α → List Value} {k : Nat} (hf : ∀ x, (f x).length = k) (hk : 0 < k) {l : List α} {j : Nat} {u : Value} (h : (l.flatMap f)[j]? = some u) : ∃ x, l[j / k]? = some x ∧ (f x)[j % k]? = some u := by
  have e : j = j / k * k + j % k := by rw [Nat.mul_comm]; exact (Nat.div_add_mod j k).symm
  rw [e, flat_get hf l _ _ (Nat.mod_lt _ hk)] at h
  obtain ⟨x, h1, h2⟩ := Option.bind_eq_some_iff.1 h
  exact ⟨x, h1, h2⟩
theorem block_set {w : World} {k i : Nat} {cs : Array Value} {T : TypeId} {v : Value} (h : w.heap[k]? = some (.cells cs T (0, 0))) : (w.setCell ⟨k, i, none⟩ v).heap[k]? = some (.cells (cs.set! i v) T (0, 0)) := by
  simp [World.setCell, Array.getElem?_modify, h]
theorem set_other {w : World} {k j i : Nat} {o : Obj} {v : Value} (h : w.heap[k]? = some o) (hn : k ≠ j) : (w.setCell ⟨j, i, none⟩ v).heap[k]? = some o := by
  rw [Below.heap_setCell _ _ _ _ (by show k ≠ j; exact hn)]; exact h
/-- The words of both spaces and a log. -/
structure M13 where
  wo : List Int
  wy : List Int
  op : Bool
  top : Int
  nt : List (Int × Int)
def ntCells (x : Int × Int) : List Value := [.int .i64 x.1, .int .u64 x.2]
theorem nt_info : (Try.prog.info? 80).map (fun i => (i.zero, i.size, i.bytes)) = some (some (.agg #[.int .i64 0, .int .u64 0]), 2, 16) := by kernel_rfl
structure RealAt (w : World) (bO bY bL : Nat) (lo ly : Int) (s : M13) (lv : Value) (gO gY : Option Nat) : Prop where
  mem : MemAt w bO bY lo ly s.wo s.wy gO gY
  log : w.heap[bL]? = some (.cells #[.bool s.op, .int .i64 s.top, lv] 77 (0, 0))
  nts : w.ownsRow 0 80 2 lv s.nt.length (s.nt.flatMap ntCells)
  wf : ∀ x ∈ s.nt, U64 x.2
  lm : ¬ MS bO bY gO gY bL
  ln : ∀ G, lv.ownBlock = some G → ¬ MS bO bY gO gY G ∧ G ≠ bL
def RS (bO bY bL : Nat) (lv : Value) (gO gY : Option Nat) : Nat → Prop := fun k => MS bO bY gO gY k ∨ k = bL ∨ lv.ownBlock = some k
/-- A memory and its log; S: the blocks that it writes. -/
def RealW (w : World) (bO bY bL : Nat) (lo ly : Int) (s : M13) (S : Nat → Prop) : Prop := ∃ lv gO gY, RealAt w bO bY bL lo ly s lv gO gY ∧ ∀ k, S k ↔ RS bO bY bL lv gO gY k
def RNx (w : World) (bO bY bL : Nat) (lo ly : Int) (s : M13) (S : Nat → Prop) (w' : World) : Prop := ∃ S', RealW w' bO bY bL lo ly s S' ∧ Mods S w w' ∧ ∀ k, S' k → S k ∨ w.heap.size ≤ k
theorem nrow_lt {w : World} {n0 : Nat} {e : TypeId} {sz : Nat} {v : Value} {n : Nat} {xs : List Value} (h : w.ownsRow n0 e sz v n xs) : ∀ G, v.ownBlock = some G → G < w.heap.size := by
  intro G hG
  obtain ⟨_, h2⟩ := h
  rcases h2 with ⟨rfl, _⟩ | ⟨g, cap, cur, rfl, hb, hh, _⟩
  · cases hG
  · simp only [Value.ownBlock, Option.some.injEq] at hG
    subst hG
    exact (Array.getElem?_eq_some_iff.1 hh).1
theorem nrow_keep {w w' : World} {n0 : Nat} {e : TypeId} {sz : Nat} {v : Value} {n : Nat} {xs : List Value} (h : w.ownsRow n0 e sz v n xs) (hk : ∀ G o, v.ownBlock = some G → w.heap[G]? = some o → w'.heap[G]? = some o) : w'.ownsRow n0 e sz v n xs := by
  obtain ⟨h1, h2⟩ := h
  refine ⟨h1, ?_⟩
  rcases h2 with h2 | ⟨g, cap, cur, rfl, hb, hh, h3⟩
  · exact .inl h2
  · exact .inr ⟨g, cap, cur, rfl, hb, hk g _ rfl hh, h3⟩
theorem RealAt.mods {S : Nat → Prop} {w w' : World} {bO bY bL : Nat} {lo ly : Int} {s : M13} {lv : Value} {gO gY : Option Nat} (h : RealAt w bO bY bL lo ly s lv gO gY) (hM : Mods S w w') (hS : ∀ k, RS bO bY bL lv gO gY k → ¬ S k) : RealAt w' bO bY bL lo ly s lv gO gY :=
  ⟨h.mem.mods hM (fun k hk => hS k (.inl hk)), mblock hM h.log (hS bL (.inr (.inl rfl))), nrow_keep h.nts (fun G o e ho => mblock hM ho (hS G (.inr (.inr e)))), h.wf, h.lm, h.ln⟩
theorem RealAt.below {w w' : World} {bO bY bL : Nat} {lo ly : Int} {s : M13} {lv : Value} {gO gY : Option Nat} (h : RealAt w bO bY bL lo ly s lv gO gY) (hb : Below w.heap.size w w') : RealAt w' bO bY bL lo ly s lv gO gY := h.mods (S := fun _ => False) (Mods.of_below hb) (fun _ _ h => h)
theorem RealAt.lt {w : World} {bO bY bL : Nat} {lo ly : Int} {s : M13} {lv : Value} {gO gY : Option Nat} (h : RealAt w bO bY bL lo ly s lv gO gY) : ∀ k, RS bO bY bL lv gO gY k → k < w.heap.size := by
  rintro k (hk | rfl | hk)
  · by_cases hl : k < w.heap.size
    · exact hl
    · exact absurd hk (h.mem.fresh k (by omega))
  · exact (Array.getElem?_eq_some_iff.1 h.log).1
  · exact nrow_lt h.nts k hk
theorem RealW.mods {S T : Nat → Prop} {w w' : World} {bO bY bL : Nat} {lo ly : Int} {s : M13} (h : RealW w bO bY bL lo ly s S) (hM : Mods T w w') (hS : ∀ k, S k → ¬ T k) : RealW w' bO bY bL lo ly s S := by
  obtain ⟨lv, gO, gY, h1, h2⟩ := h
  exact ⟨lv, gO, gY, h1.mods hM (fun k hk => hS k ((h2 k).2 hk)), h2⟩
theorem RealW.below {S : Nat → Prop} {w w' : World} {bO bY bL : Nat} {lo ly : Int} {s : M13} (h : RealW w bO bY bL lo ly s S) (hb : Below w.heap.size w w') : RealW w' bO bY bL lo ly s S := h.mods (T := fun _ => False) (Mods.of_below hb) (fun _ _ h => h)
theorem RealW.lt {S : Nat → Prop} {w : World} {bO bY bL : Nat} {lo ly : Int} {s : M13} (h : RealW w bO bY bL lo ly s S) : ∀ k, S k → k < w.heap.size := by
  obtain ⟨lv, gO, gY, h1, h2⟩ := h
  exact fun k hk => h1.lt k ((h2 k).1 hk)
theorem RNx.of_below {S : Nat → Prop} {w w' : World} {bO bY bL : Nat} {lo ly : Int} {s : M13} (h : RealW w bO bY bL lo ly s S) (hb : Below w.heap.size w w') : RNx w bO bY bL lo ly s S w' := ⟨S, h.below hb, Mods.of_below hb, fun k hk => .inl hk⟩
theorem RNx.pre {S : Nat → Prop} {w w1 w2 : World} {bO bY bL : Nat} {lo ly : Int} {s : M13} (hb : Below w.heap.size w w1) (h : RNx w1 bO bY bL lo ly s S w2) : RNx w bO bY bL lo ly s S w2 := by
  obtain ⟨S', h1, h2, h3⟩ := h
  exact ⟨S', h1, (Mods.of_below hb).trans h2 (fun i hi => .inl hi), fun k hk => (h3 k hk).imp id (fun h => Nat.le_trans hb.size h)⟩
theorem RNx.post {S : Nat → Prop} {w w1 w2 : World} {bO bY bL : Nat} {lo ly : Int} {s : M13} (h : RNx w bO bY bL lo ly s S w1) (hb : Below w1.heap.size w1 w2) : RNx w bO bY bL lo ly s S w2 := by
  obtain ⟨S', h1, h2, h3⟩ := h
  exact ⟨S', h1.below hb, h2.trans (Mods.of_below (S := fun _ => False) hb) (fun i hi => hi.elim), h3⟩
theorem RealW.toS {w : World} {bO bY bL : Nat} {lo ly : Int} {s : M13} {lv : Value} {gO gY : Option Nat} (h : RealAt w bO bY bL lo ly s lv gO gY) : RealW w bO bY bL lo ly s (RS bO bY bL lv gO gY) := ⟨lv, gO, gY, h, fun _ => Iff.rfl⟩
def bgE (s : M13) : Int := if s.op then 9 else 0
def bgS (s : M13) : M13 := if s.op then s else ⟨s.wo, s.wy, true, 16777216 + s.wy.length, []⟩
def ntE (s : M13) (a : Int) : Int := if s.op then LE s.wo s.wy a else 9
def ntS (s : M13) (a : Int) : M13 := if s.op then (if LE s.wo s.wy a = 0 then ⟨s.wo, s.wy, true, s.top, s.nt ++ [(a, LD s.wo s.wy a)]⟩ else s) else s
def cmE (s : M13) : Int := if s.op then 0 else 9
def cmS (s : M13) : M13 := if s.op then ⟨s.wo, s.wy, false, 0, []⟩ else s
theorem three_set {w : World} {k : Nat} {T : TypeId} {x0 x1 x2 b0 b1 b2 : Value} (h : w.heap[k]? = some (.cells #[x0, x1, x2] T (0, 0))) : (((w.setCell ⟨k, 0, none⟩ b0).setCell ⟨k, 1, none⟩ b1).setCell ⟨k, 2, none⟩ b2).heap[k]? = some (.cells #[b0, b1, b2] T (0, 0)) := block_set (block_set (block_set h))
theorem three_mods {w : World} {k : Nat} {b0 b1 b2 : Value} : Mods (fun j => j = k) w (((w.setCell ⟨k, 0, none⟩ b0).setCell ⟨k, 1, none⟩ b1).setCell ⟨k, 2, none⟩ b2) :=
  (((Mods.refl (fun j => j = k) w : Mods (fun j => j = k) w w).setCell (p := ⟨k, 0, none⟩) (.inl (by rfl)) _).setCell (p := ⟨k, 1, none⟩) (.inl (by rfl)) _).setCell (p := ⟨k, 2, none⟩) (.inl (by rfl)) _
/-- The log alone was written: three cells that it holds now. -/
theorem RealAt.relog {w w' : World} {bO bY bL : Nat} {lo ly : Int} {s : M13} {lv : Value} {gO gY : Option Nat} (h : RealAt w bO bY bL lo ly s lv gO gY) {op : Bool} {top : Int} (hM : Mods (fun j => j = bL) w w') (hl : w'.heap[bL]? = some (.cells #[.bool op, .int .i64 top, .slice none 0 0] 77 (0, 0))) : RNx w bO bY bL lo ly ⟨s.wo, s.wy, op, top, []⟩ (RS bO bY bL lv gO gY) w' := by
  refine ⟨RS bO bY bL (.slice none 0 0) gO gY, RealW.toS ⟨h.mem.mods hM (fun k hk e => h.lm (by rw [e] at hk; exact hk)), hl, World.ownsRow_nil _ _ _ _, fun x hx => (by cases hx), h.lm, fun G e => (by cases e)⟩, hM.mono (fun k hk => .inr (.inl hk)), fun k hk => ?_⟩
  rcases hk with hk | hk | hk
  · exact .inl (.inl hk)
  · exact .inl (.inr (.inl hk))
  · cases hk
theorem RNx.ofS {S : Nat → Prop} {w w' : World} {bO bY bL : Nat} {lo ly : Int} {s : M13} {lv : Value} {gO gY : Option Nat} (hS : ∀ k, S k ↔ RS bO bY bL lv gO gY k) (h : RNx w bO bY bL lo ly s (RS bO bY bL lv gO gY) w') : RNx w bO bY bL lo ly s S w' := by
  obtain ⟨S', h1, h2, h3⟩ := h
  exact ⟨S', h1, h2.mono (fun k hk => (hS k).2 hk), fun k hk => (h3 k hk).imp (fun h => (hS k).2 h) id⟩
set_option maxRecDepth 100000 in
set_option maxHeartbeats 4000000 in
theorem begin_any {w : World} {bO bY bL : Nat} {lo ly : Int} {s : M13} {S : Nat → Prop} (h : RealW w bO bY bL lo ly s S) :
    Calls Try.prog 12 #[.pointer (some ⟨bL, 0, none⟩), .agg #[.pointer (some ⟨bO, 0, none⟩), .pointer (some ⟨bY, 0, none⟩)]] w fun e w' => e = .returned (.int .i64 (bgE s)) ∧ RNx w bO bY bL lo ly (bgS s) S w' := by
  obtain ⟨lv, gO, gY, hR, hS⟩ := h
  have HW : RealW w bO bY bL lo ly s S := ⟨lv, gO, gY, hR, hS⟩
  obtain ⟨wo, wy, op, top, nt⟩ := s
  unfold bgE bgS
  have hl := hR.log
  dsimp only at hl
  have hbL := (Array.getElem?_eq_some_iff.1 hl).1
  have k0 : (w.alloc (.cells #[.pointer (some ⟨bO, 0, none⟩), .pointer (some ⟨bY, 0, none⟩)] 30)).heap[w.heap.size]? = some (.cells #[.pointer (some ⟨bO, 0, none⟩), .pointer (some ⟨bY, 0, none⟩)] 30 (0, 0)) := alloc_get _ _
  have hb1 : Below w.heap.size w (w.alloc (.cells #[.pointer (some ⟨bO, 0, none⟩), .pointer (some ⟨bY, 0, none⟩)] 30)) := balloc (Below.refl _ _) _
  have hl1 := bblock hb1 hl
  cases op
  · have HT := Lib.hid (fun W (H : Below w.heap.size w W) => top_any (hR.below H).mem.yng hR.mem.okY)
    have HR := Lib.hid hR
    have HS := Lib.hid hS
    clear hR hS HW
    go_enter Try.func12, Try.ntmps12
    have q0 : (w.alloc (.cells #[.pointer (some ⟨bO, 0, none⟩), .pointer (some ⟨bY, 0, none⟩)] 30)).cell? ⟨bL, 0, none⟩ = some (.bool false) := by rw [cell_of_block hl1]; rfl
    have q1 : (w.alloc (.cells #[.pointer (some ⟨bO, 0, none⟩), .pointer (some ⟨bY, 0, none⟩)] 30)).cell? ⟨w.heap.size, 1, none⟩ = some (.pointer (some ⟨bY, 0, none⟩)) := by rw [cell_of_block k0]; rfl
    clear k0
    go_wp2_with fail
    refine (HT.out _ (by (repeat (first | exact Below.refl _ _ | assumption | refine Below.drew ?_ | refine below_drewN ?_ _ | refine balloc ?_ _ | refine Below.setCell ?_ (by first | (simp; done) | (simp; omega) | omega) _ | refine bchain (by assumption) ?_)))).mono ?_
    rintro e w2 ⟨rfl, hb2⟩
    have hl2 := bblock hb2 hl1
    have hb02 := bchain hb2 hb1
    have qf : ∀ i, w2.frozen? ⟨bL, i, none⟩ = false := frozen_of_block hl2
    have c0 : w2.cell? ⟨bL, 0, none⟩ = some (.bool false) := by rw [cell_of_block hl2]; rfl
    have c1 : w2.cell? ⟨bL, 1, none⟩ = some (.int .i64 top) := by rw [cell_of_block hl2]; rfl
    have c2 : w2.cell? ⟨bL, 2, none⟩ = some lv := by rw [cell_of_block hl2]; rfl
    have hfin := RNx.ofS HS.out (RNx.pre hb02 ((HR.out.below hb02).relog (op := true) (top := 16777216 + (wy.length : Int)) three_mods (three_set hl2)))
    have HF := Lib.hid hfin
    clear hfin hl1 hl2 hl
    go_wp2
    go_ret
    exact ⟨rfl, HF.out⟩
  · have hb1' : RNx w bO bY bL lo ly ⟨wo, wy, true, top, nt⟩ S (w.alloc (.cells #[.pointer (some ⟨bO, 0, none⟩), .pointer (some ⟨bY, 0, none⟩)] 30)) := RNx.of_below HW hb1
    have HF := Lib.hid hb1'
    clear hb1' HW hR hS
    go_enter Try.func12, Try.ntmps12
    have q0 : (w.alloc (.cells #[.pointer (some ⟨bO, 0, none⟩), .pointer (some ⟨bY, 0, none⟩)] 30)).cell? ⟨bL, 0, none⟩ = some (.bool true) := by rw [cell_of_block hl1]; rfl
    clear k0
    go_wp2
    go_ret
    exact ⟨rfl, HF.out⟩
set_option maxRecDepth 100000 in
theorem commit_any {w : World} {bO bY bL : Nat} {lo ly : Int} {s : M13} {S : Nat → Prop} (h : RealW w bO bY bL lo ly s S) :
    Calls Try.prog 21 #[.pointer (some ⟨bL, 0, none⟩)] w fun e w' => e = .returned (.int .i64 (cmE s)) ∧ RNx w bO bY bL lo ly (cmS s) S w' := by
  obtain ⟨lv, gO, gY, hR, hS⟩ := h
  have HW : RealW w bO bY bL lo ly s S := ⟨lv, gO, gY, hR, hS⟩
  obtain ⟨wo, wy, op, top, nt⟩ := s
  unfold cmE cmS
  have hl := hR.log
  dsimp only at hl
  have qf : ∀ i, w.frozen? ⟨bL, i, none⟩ = false := frozen_of_block hl
  have c0 : w.cell? ⟨bL, 0, none⟩ = some (.bool op) := by rw [cell_of_block hl]; rfl
  have c1 : w.cell? ⟨bL, 1, none⟩ = some (.int .i64 top) := by rw [cell_of_block hl]; rfl
  have c2 : w.cell? ⟨bL, 2, none⟩ = some lv := by rw [cell_of_block hl]; rfl
  cases op
  · have HF := Lib.hid (RNx.of_below HW (Below.refl _ _))
    clear HW hR hS hl
    go_enter Try.func21, Try.ntmps21
    go_wp2
    go_ret
    exact ⟨rfl, HF.out⟩
  · have HF := Lib.hid (RNx.ofS hS (hR.relog (op := false) (top := 0) three_mods (three_set hl)))
    clear HW hR hS hl
    go_enter Try.func21, Try.ntmps21
    go_wp2
    go_ret
    exact ⟨rfl, HF.out⟩
theorem lopen_any {w : World} {bO bY bL : Nat} {lo ly : Int} {s : M13} {S : Nat → Prop} (h : RealW w bO bY bL lo ly s S) :
    Calls Try.prog 22 #[.pointer (some ⟨bL, 0, none⟩)] w fun e w' => e = .returned (.bool s.op) ∧ Below w.heap.size w w' := by
  obtain ⟨lv, gO, gY, hR, hS⟩ := h
  have c0 : w.cell? ⟨bL, 0, none⟩ = some (.bool s.op) := by rw [cell_of_block hR.log]; rfl
  generalize s.op = op at *
  clear hR hS
  go_enter Try.func22, Try.ntmps22
  go_wp2
  go_ret
  exact ⟨rfl, Below.refl _ _⟩
theorem nt_form {w : World} {bO bY bL : Nat} {lo ly : Int} {s : M13} {lv : Value} {gO gY : Option Nat} (h : RealAt w bO bY bL lo ly s lv gO gY) : ∃ a c, lv = .slice a s.nt.length c ∧ s.nt.length ≤ c ∧ c ≤ 9223372036854775807 := by
  obtain ⟨_, h2⟩ := h.nts
  rcases h2 with ⟨rfl, h0⟩ | ⟨g, cap, cur, rfl, hb, hh, h3, h4, _⟩
  · exact ⟨_, _, by rw [h0], by omega, by omega⟩
  · exact ⟨_, _, rfl, h3, h4⟩
theorem llen_any {w : World} {bO bY bL : Nat} {lo ly : Int} {s : M13} {S : Nat → Prop} (h : RealW w bO bY bL lo ly s S) :
    Calls Try.prog 17 #[.pointer (some ⟨bL, 0, none⟩)] w fun e w' => e = .returned (.int .i64 s.nt.length) ∧ Below w.heap.size w w' := by
  obtain ⟨lv, gO, gY, hR, hS⟩ := h
  have c2 : w.cell? ⟨bL, 2, none⟩ = some lv := by rw [cell_of_block hR.log]; rfl
  obtain ⟨a, c, rfl, _⟩ := nt_form hR
  generalize s.nt.length = n at *
  clear hR hS
  go_enter Try.func17, Try.ntmps17
  go_wp2
  go_ret
  exact ⟨rfl, Below.refl _ _⟩
theorem lnew_any (w : World) : Calls Try.prog 32 #[] w fun e w' => e = .returned (.pointer (some ⟨w.heap.size, 0, none⟩)) ∧ w' = w.alloc (.cells #[.bool false, .int .i64 0, .slice none 0 0] 77) := by
  go_enter Try.func32, Try.ntmps32
  go_wp2
  go_ret
  exact ⟨rfl, rfl⟩
end Go.Proofs.Ytgipmcmmicppkaa
