/-
  nursery.order: the two closures.
-/
import Derived.Test.YtgjaafcagnkfdaaTsB
import Derived.Maps.AppendAt
import Derived.Deep.AppendLies
namespace Go.Proofs.Ytgjaafcagnkfdaa
open Go.RowKit Go.Maps
set_option linter.unusedSimpArgs false
set_option linter.unusedVariables false

theorem block_set {w : World} {k i : Nat} {cs : Array Value} {T : TypeId} {v : Value} (h : w.heap[k]? = some (.cells cs T (0, 0))) : (w.setCell ⟨k, i, none⟩ v).heap[k]? = some (.cells (cs.set! i v) T (0, 0)) := by
  simp [World.setCell, Array.getElem?_modify, h]
theorem set_other {w : World} {k j i : Nat} {o : Obj} {v : Value} (h : w.heap[k]? = some o) (hn : k ≠ j) : (w.setCell ⟨j, i, none⟩ v).heap[k]? = some o := by
  rw [Below.heap_setCell _ _ _ _ (by show k ≠ j; exact hn)]; exact h
theorem row_keep7 {w w' : World} {n0 : Nat} {e : TypeId} {sz : Nat} {v : Value} {n : Nat} {xs : List Value} (h : w.ownsRow n0 e sz v n xs) (hk : ∀ G o, v.ownBlock = some G → w.heap[G]? = some o → w'.heap[G]? = some o) : w'.ownsRow n0 e sz v n xs := by
  obtain ⟨h1, h2⟩ := h
  refine ⟨h1, ?_⟩
  rcases h2 with h2 | ⟨g, cap, cur, rfl, hb, hh, h3⟩
  · exact .inl h2
  · exact .inr ⟨g, cap, cur, rfl, hb, hk g _ rfl hh, h3⟩
theorem run_app_none {P : Program} {w : World} (base : Nat) (t ty e : TypeId) (i : TypeInfo) (size : Nat) (ht : P.underlying t = some (.slice e)) (hi : P.info? e = some i) {v : Value} {n : Nat} {xs : List Value} (hown : w.ownsRow base e size v n xs) :
    (Builtin.append_ #[t, t] ty #[v, .slice none 0 0]).run P w = .ok v w := by
  obtain ⟨_, h2⟩ := hown
  rcases h2 with ⟨rfl, rfl⟩ | ⟨g, cap, cur, rfl, _, _, hn, _⟩
  · simp [Builtin.append_, run_underlying ht, sizeOf, typeInfo, hi, Builtin.firstCells, Builtin.lenOf, storeCells]
  · simp [Builtin.append_, run_underlying ht, sizeOf, typeInfo, hi, Builtin.firstCells, Builtin.lenOf, storeCells, hn]
/-- Appending what lies elsewhere, or nothing, at a step of a region that draws. -/
theorem step_append_news {P : Program} {w : World} {ops : Array Oper} {o : Oper} {a : Act} {K : Act → World → Prop} {Q : Exit → Act → World → Prop} {E : Prop} (hgd : o.guard = none) (s x : Operand) (t : TypeId)
    (ho : o.op = .call { callee := .builtin .append, args := #[s, x], argTypes := #[t, t] })
    (base : Nat) (e : TypeId) (i : TypeInfo) (z : Value) (size bytes : Nat) (ht : P.underlying t = some (.slice e)) (hi : P.info? e = some i) (hz : i.zero = some z)
    (hsize : i.size = size) (hby : i.bytes = bytes) (hzs : z.cells.size = size) (hsz : 0 < size)
    (v : Value) (n : Nat) (xs : List Value) (hs : a.eval s = v) (hown : w.ownsRow base e size v n xs)
    (A : Option Addr) (m c : Nat) (news : List Value) (hx : a.eval x = .slice A m c) (hl : news.length = m * size) (hnews : NewsAt w A m c news) (h1 : ∀ u ∈ news, u.oneCell' = true)
    (h63 : n + m ≤ maxLen) (hbytes : (n + m) * bytes ≤ 140737488355328) (hbase : base ≤ w.heap.size)
    (h : ∀ v' w', w'.ownsRow base e size v' (n + m) (xs ++ news) → w.grownBy w' v.ownBlock → (v'.ownBlock = v.ownBlock ∨ v'.ownBlock = some w.heap.size) → K (a.put o.dst v') w') :
    if Region.wanted o (yielded ops a.tmps) = true then Oper.wp P o a w K Q else E := by
  have hw : Region.wanted o (yielded ops a.tmps) = true := by simp [Region.wanted, hgd]
  rw [if_pos hw]
  rcases hnews with ⟨rfl, rfl, rfl⟩ | ⟨ad, rfl, hn⟩
  · have h0 : news = [] := List.length_eq_zero_iff.1 (by omega)
    subst h0
    have hr := run_app_none (P := P) base t o.type e i size ht hi hown
    unfold Oper.wp execOp
    simp only [ho, resolve, invoke, builtin, Sem.run_bind, Sem.run_pure, Result.andThen_ok, List.map_toArray, List.map_cons, List.map_nil, hs, hx, hr]
    exact h v w (by simpa using hown) (grown_refl w _) (.inl rfl)
  · obtain ⟨v', w', hr, h2, h3, _, h5⟩ := run_append_own_at (P := P) w base t o.type e i z size bytes ht hi hz hsize hby hzs hsz v n xs hown ad m c news hl hn h1 h63 hbytes hbase
    unfold Oper.wp execOp
    simp only [ho, resolve, invoke, builtin, Sem.run_bind, Sem.run_pure, Result.andThen_ok, List.map_toArray, List.map_cons, List.map_nil, hs, hx, hr]
    exact h v' w' h2 h3 h5
/-- Appending what lies elsewhere, or nothing. -/
theorem wpList_append_news {P : Program} {w : World} {ops : Array Oper} {rest : List Oper} {o : Oper} {a : Act} {Q : Exit → Act → World → Prop} (hgd : o.guard = none) (s x : Operand) (t : TypeId)
    (ho : o.op = .call { callee := .builtin .append, args := #[s, x], argTypes := #[t, t] })
    (base : Nat) (e : TypeId) (i : TypeInfo) (z : Value) (size bytes : Nat) (ht : P.underlying t = some (.slice e)) (hi : P.info? e = some i) (hz : i.zero = some z)
    (hsize : i.size = size) (hby : i.bytes = bytes) (hzs : z.cells.size = size) (hsz : 0 < size)
    (v : Value) (n : Nat) (xs : List Value) (hs : a.eval s = v) (hown : w.ownsRow base e size v n xs)
    (A : Option Addr) (m c : Nat) (news : List Value) (hx : a.eval x = .slice A m c) (hl : news.length = m * size) (hnews : NewsAt w A m c news) (h1 : ∀ u ∈ news, u.oneCell' = true)
    (h63 : n + m ≤ maxLen) (hbytes : (n + m) * bytes ≤ 140737488355328) (hbase : base ≤ w.heap.size)
    (h : ∀ v' w', w'.ownsRow base e size v' (n + m) (xs ++ news) → w.grownBy w' v.ownBlock → (v'.ownBlock = v.ownBlock ∨ v'.ownBlock = some w.heap.size) → wpList P ops Q rest (a.put o.dst v') w') :
    wpList P ops Q (o :: rest) a w := by
  refine wpList_plain hgd fun K hK => ?_
  have := step_append_news (ops := ops) (Q := Q) (E := False) hgd s x t ho base e i z size bytes ht hi hz hsize hby hzs hsz v n xs hs hown A m c news hx hl hnews h1 h63 hbytes hbase (fun v' w' h2 h3 h4 => hK _ _ (h v' w' h2 h3 h4))
  rwa [if_pos (by simp [Region.wanted, hgd])] at this
theorem row_form {w : World} {n0 sz : Nat} {t : TypeId} {v : Value} {n : Nat} {xs : List Value} (h : w.ownsRow n0 t sz v n xs) : ∃ a c, v = .slice a n c ∧ n ≤ c ∧ c ≤ 9223372036854775807 := by
  obtain ⟨h1, h2⟩ := h
  rcases h2 with ⟨rfl, rfl⟩ | ⟨g, cap, cur, rfl, hb, hh, hc, hm, hs, ht⟩
  · exact ⟨none, 0, rfl, Nat.le_refl _, by omega⟩
  · exact ⟨_, cap, rfl, hc, hm⟩
theorem row_lt {w : World} {n0 : Nat} {e : TypeId} {sz : Nat} {v : Value} {n : Nat} {xs : List Value} (h : w.ownsRow n0 e sz v n xs) : ∀ G, v.ownBlock = some G → G < w.heap.size ∧ n0 ≤ G := fun G hG => ⟨(h.lt G hG).2, (h.lt G hG).1⟩
/-- What order's variables hold: the memory, the list, the set of its members, no bad one, look. -/
structure OrdV (w : World) (n bO bY : Nat) (L : List Int) (v : Value) : Prop where
  km : w.heap[n]? = some (.cells #[.pointer (some ⟨bO, 0, none⟩), .pointer (some ⟨bY, 0, none⟩)] 26 (0, 0))
  kl : w.heap[n + 1]? = some (.cells #[v] 42 (0, 0))
  sn : SeenAt w (n + 2) L
  ks : w.heap[n + 3]? = some (.cells #[.map (some (n + 2))] 71 (0, 0))
  kb : w.heap[n + 4]? = some (.cells #[.bool false] 4 (0, 0))
  kk : w.heap[n + 5]? = some (.cells #[.func (.func 37) #[] #[.pointer (some ⟨n, 0, none⟩), .pointer (some ⟨n + 4, 0, none⟩), .pointer (some ⟨n + 3, 0, none⟩), .pointer (some ⟨n + 1, 0, none⟩)]] 81 (0, 0))
  row : w.ownsRow (n + 6) 3 1 v L.length (L.map (Value.int .i64))
def OrdAt (w : World) (n bO bY : Nat) (L : List Int) : Prop := ∃ v, OrdV w n bO bY L v
theorem OrdV.mods {S : Nat → Prop} {w w' : World} {n bO bY : Nat} {L : List Int} {v : Value} (h : OrdV w n bO bY L v) (hM : Mods S w w') (hS : ∀ k, n ≤ k → ¬ S k) : OrdV w' n bO bY L v :=
  ⟨mblock hM h.km (hS _ (by omega)), mblock hM h.kl (hS _ (by omega)), h.sn.mods hM (hS _ (by omega)), mblock hM h.ks (hS _ (by omega)), mblock hM h.kb (hS _ (by omega)), mblock hM h.kk (hS _ (by omega)), row_keep7 h.row (fun G o e ho => mblock hM ho (hS _ (by have := (row_lt h.row G e).2; omega)))⟩
theorem OrdV.below {w w' : World} {n bO bY : Nat} {L : List Int} {v : Value} (h : OrdV w n bO bY L v) (hb : Below w.heap.size w w') : OrdV w' n bO bY L v := h.mods (S := fun _ => False) (Mods.of_below hb) (fun _ _ h => h)
theorem OrdV.setb {w : World} {n bO bY : Nat} {L : List Int} {v : Value} (h : OrdV w n bO bY L v) : OrdV (w.setCell ⟨n + 4, 0, none⟩ (.bool false)) n bO bY L v :=
  ⟨set_other h.km (by omega), set_other h.kl (by omega), h.sn.mods (S0 := fun k => k = n + 4) ((Mods.refl (fun k => k = n + 4) w : Mods (fun k => k = n + 4) w w).setCell (p := ⟨n + 4, 0, none⟩) (.inl rfl) _) (by omega), set_other h.ks (by omega), block_set h.kb, set_other h.kk (by omega), row_keep7 h.row (fun G o e ho => set_other ho (by have := (row_lt h.row G e).2; omega))⟩
/-- What look writes. -/
def OrW (n : Nat) (v : Value) : Nat → Prop := fun k => k = n + 1 ∨ k = n + 2 ∨ k = n + 4 ∨ v.ownBlock = some k
def LkP (w : World) (n bO bY : Nat) (L : List Int) (v : Value) (w' : World) : Prop := ∃ v', OrdV w' n bO bY L v' ∧ Mods (OrW n v) w w' ∧ ∀ G, v'.ownBlock = some G → v.ownBlock = some G ∨ w.heap.size ≤ G
theorem LkP.pre {w w1 w2 : World} {n bO bY : Nat} {L : List Int} {v : Value} (hb : Below w.heap.size w w1) (h : LkP w1 n bO bY L v w2) : LkP w n bO bY L v w2 := by
  obtain ⟨v', h1, h2, h3⟩ := h
  exact ⟨v', h1, (Mods.of_below (S := OrW n v) hb).trans h2 (fun i hi => .inl hi), fun G e => (h3 G e).imp id (fun h => Nat.le_trans hb.size h)⟩
theorem LkP.step {w w1 w2 : World} {n bO bY : Nat} {L : List Int} {v v1 : Value} (hM : Mods (OrW n v) w w1) (hv : ∀ G, v1.ownBlock = some G → v.ownBlock = some G ∨ w.heap.size ≤ G) (h : LkP w1 n bO bY L v1 w2) : LkP w n bO bY L v w2 := by
  obtain ⟨v', h1, h2, h3⟩ := h
  refine ⟨v', h1, hM.trans h2 (fun i hi => ?_), fun G e => ?_⟩
  · rcases hi with e | e | e | e
    · exact .inl (.inl e)
    · exact .inl (.inr (.inl e))
    · exact .inl (.inr (.inr (.inl e)))
    · exact (hv i e).imp (fun h => .inr (.inr (.inr h))) id
  · rcases h3 G e with e | e
    · exact hv G e
    · exact .inr (Nat.le_trans hM.size e)
theorem LkP.refl {w : World} {n bO bY : Nat} {L : List Int} {v : Value} (h : OrdV w n bO bY L v) : LkP w n bO bY L v w := ⟨v, h, Mods.refl _ _, fun _ e => .inl e⟩
theorem OrdV.setb_lk {w : World} {n bO bY : Nat} {L : List Int} {v : Value} (h : OrdV w n bO bY L v) (h' : OrdV (w.setCell ⟨n + 4, 0, none⟩ (.bool false)) n bO bY L v) : LkP w n bO bY L v (w.setCell ⟨n + 4, 0, none⟩ (.bool false)) :=
  ⟨v, h', (Mods.refl (OrW n v) w : Mods (OrW n v) w w).setCell (p := ⟨n + 4, 0, none⟩) (.inl (.inr (.inr (.inl rfl)))) _, fun _ e => .inl e⟩
theorem OrdV.push {W W1 W2 : World} {n bO bY : Nat} {L : List Int} {v v' : Value} {t : Int} (h : OrdV W n bO bY L v) (hs : SeenAt W1 (n + 2) (L ++ [t])) (hg1 : W.grownBy W1 (some (n + 2))) (o : Obj) (hr : W2.ownsRow (n + 6) 3 1 v' (L.length + 1) (L.map (Value.int .i64) ++ [.int .i64 t])) (hg2 : (W1.alloc o).grownBy W2 v.ownBlock) :
    OrdV (W2.setCell ⟨n + 1, 0, none⟩ v') n bO bY (L ++ [t]) v' ∧ Mods (OrW n v) W (W2.setCell ⟨n + 1, 0, none⟩ v') := by
  have hm1 := Mods.of_grown hg1
  have hm2 : Mods (fun k => v.ownBlock = some k) (W1.alloc o) W2 := ⟨hg2.os, hg2.tape, hg2.output, hg2.size, fun k hk hn => hg2.block k hk (fun e => hn e.symm)⟩
  have hM : Mods (fun k => k = n + 2 ∨ v.ownBlock = some k) W W2 := ((hm1.alloc o).mono (S1 := fun k => k = n + 2 ∨ v.ownBlock = some k) (fun k hk => .inl hk)).trans hm2 (fun k hk => .inl (.inr hk))
  have hM2 : Mods (fun k => k = n + 2 ∨ v.ownBlock = some k ∨ k = n + 1) W (W2.setCell ⟨n + 1, 0, none⟩ v') := (hM.mono (S1 := fun k => k = n + 2 ∨ v.ownBlock = some k ∨ k = n + 1) (fun k hk => hk.imp id .inl)).setCell (p := ⟨n + 1, 0, none⟩) (.inl (.inr (.inr rfl))) _
  have hv : ∀ G, v.ownBlock = some G → n + 6 ≤ G := fun G e => (row_lt h.row G e).2
  have hS : ∀ k, k < n + 6 → k ≠ n + 2 → k ≠ n + 1 → ¬ (k = n + 2 ∨ v.ownBlock = some k ∨ k = n + 1) := fun k h1 h2 h3 e => by
    rcases e with e | e | e
    · exact h2 e
    · have := hv k e; omega
    · exact h3 e
  have hl : W2.heap[n + 1]? = some (.cells #[v] 42 (0, 0)) := mblock hM h.kl (fun e => by
    rcases e with e | e
    · omega
    · have := hv _ e; omega)
  have hs1 := hs.mods (Mods.refl (fun _ => False) W1 |>.alloc o) (fun h => h)
  have hs2 := hs1.mods hm2 (fun e => by have := hv _ e; omega)
  have hs3 := hs2.mods (S0 := fun k => k = n + 1) ((Mods.refl (fun k => k = n + 1) W2 : Mods (fun k => k = n + 1) W2 W2).setCell (p := ⟨n + 1, 0, none⟩) (.inl rfl) v') (by omega)
  have hsz := (Array.getElem?_eq_some_iff.1 h.km).1
  refine ⟨⟨mblock hM2 h.km (hS _ (by omega) (by omega) (by omega)), block_set hl, hs3, mblock hM2 h.ks (hS _ (by omega) (by omega) (by omega)), mblock hM2 h.kb (hS _ (by omega) (by omega) (by omega)), mblock hM2 h.kk (hS _ (by omega) (by omega) (by omega)), ?_⟩, hM2.mono (fun k hk => ?_)⟩
  · rw [List.length_append, List.map_append]
    exact row_keep7 hr (fun G o e ho => set_other ho (by have := (row_lt hr G e).2; omega))
  · rcases hk with e | e | e
    · exact .inr (.inl e)
    · exact .inr (.inr (.inr e))
    · exact .inl e
theorem OrdV.kl2 {W W1 W2 : World} {n bO bY : Nat} {L : List Int} {v : Value} (h : OrdV W n bO bY L v) (hg1 : W.grownBy W1 (some (n + 2))) (o : Obj) (hg2 : (W1.alloc o).grownBy W2 v.ownBlock) : W2.heap[n + 1]? = some (.cells #[v] 42 (0, 0)) := by
  have hm1 := Mods.of_grown hg1
  have hm2 : Mods (fun k => v.ownBlock = some k) (W1.alloc o) W2 := ⟨hg2.os, hg2.tape, hg2.output, hg2.size, fun k hk hn => hg2.block k hk (fun e => hn e.symm)⟩
  have hM : Mods (fun k => k = n + 2 ∨ v.ownBlock = some k) W W2 := ((hm1.alloc o).mono (S1 := fun k => k = n + 2 ∨ v.ownBlock = some k) (fun k hk => .inl hk)).trans hm2 (fun k hk => .inl (.inr hk))
  exact mblock hM h.kl (fun e => by
    rcases e with e | e
    · omega
    · have := (row_lt h.row _ e).2; omega)
theorem OrdV.setb_below {w : World} {n bO bY : Nat} {L : List Int} {v : Value} (h : OrdV w n bO bY L v) : Below n w (w.setCell ⟨n + 4, 0, none⟩ (.bool false)) := by
  have hsz := (Array.getElem?_eq_some_iff.1 h.km).1
  exact ((Mods.refl (fun k => k = n + 4) w : Mods (fun k => k = n + 4) w w).setCell (p := ⟨n + 4, 0, none⟩) (.inl rfl) _).below (by omega) (fun k hk => by omega)
/-- A young word leads to an object that stands for itself. -/
def Gw (wo wy : List Int) (x : Int) : Prop := ldY x = true → RA wo wy (adA x) = adA x ∧ RE wo wy (adA x) = 0
theorem Gw.ld {wo wy : List Int} {x : Int} (h : Gw wo wy x) (hy : ldY x = true) : ldT wo wy x = adA x ∧ ldD wo wy x = false := by
  have := h hy
  unfold ldT ldD
  rw [if_pos hy, if_pos hy, this.1, this.2]
  exact ⟨rfl, rfl⟩
theorem Gw.no {wo wy : List Int} {x : Int} (hy : ldY x = false) : ldT wo wy x = 0 ∧ ldD wo wy x = false := by
  unfold ldT ldD
  rw [hy]
  exact ⟨rfl, rfl⟩
def lkL (L : List Int) (x : Int) : List Int := if ldY x = true ∧ adA x ∉ L then L ++ [adA x] else L
theorem ldY_bd {x : Int} (h : ldY x = true) : 16777216 ≤ adA x ∧ adA x ≤ 4294967295 := by
  unfold ldY at h
  simp at h
  refine ⟨h.2, ?_⟩
  have := adB_iff.1 h.1
  unfold adA
  rw [if_pos h.1]
  exact this.2
set_option maxRecDepth 100000 in
set_option maxHeartbeats 4000000 in
theorem look_any {w0 w : World} {bO bY : Nat} {lo ly : Int} {wo wy : List Int} {gO gY : Option Nat} (hm : MemAt w0 bO bY lo ly wo wy gO gY) {n : Nat} (hn : w0.heap.size = n) (hb : Below n w0 w) {L : List Int} {v : Value} (h : OrdV w n bO bY L v) (hL : L.length ≤ 1000000) (x : Int) (hx : U64 x) (hg : Gw wo wy x) :
    Calls Try.prog 37 #[.int .u64 x, .pointer (some ⟨n, 0, none⟩), .pointer (some ⟨n + 4, 0, none⟩), .pointer (some ⟨n + 3, 0, none⟩), .pointer (some ⟨n + 1, 0, none⟩)] w fun e w' => e = .returned (.tuple #[]) ∧ LkP w n bO bY (lkL L x) v w' := by
  have hmw := hm.below (show Below w0.heap.size w0 w by rw [hn]; exact hb)
  have hld := leads_any hmw x hx
  have HV := Lib.hid h
  have hz := (Array.getElem?_eq_some_iff.1 h.kk).1
  have c0 : w.cell? ⟨n, 0, none⟩ = some (.pointer (some ⟨bO, 0, none⟩)) := by rw [cell_of_block h.km]; rfl
  have c1 : w.cell? ⟨n, 1, none⟩ = some (.pointer (some ⟨bY, 0, none⟩)) := by rw [cell_of_block h.km]; rfl
  have hnn : n ≤ w.heap.size := by have := hb.size; omega
  clear h hm hmw hb hn
  cases hy : ldY x
  · obtain ⟨e1, e2⟩ := Gw.no (wo := wo) (wy := wy) hy
    rw [hy, e1, e2] at hld
    rw [show lkL L x = L by unfold lkL; rw [if_neg (by rw [hy]; simp)]]
    go_enter Try.func37, Try.ntmps37
    go_wp2_with fail
    refine hld.mono ?_
    rintro e w1 ⟨rfl, hb1⟩
    have HV1 := Lib.hid (HV.out.below hb1)
    have q4 : w1.cell? ⟨n + 4, 0, none⟩ = some (.bool false) := by rw [cell_of_block HV1.out.kb]; rfl
    have qf : ∀ i, w1.frozen? ⟨n + 4, i, none⟩ = false := frozen_of_block HV1.out.kb
    have hz1 : n + 5 < w1.heap.size := (Array.getElem?_eq_some_iff.1 HV1.out.kk).1
    have HB := Lib.hid (LkP.pre hb1 (HV1.out.setb_lk HV1.out.setb))
    clear hb1 hld
    go_wp2
    exact bodyPost_end (v := .tuple #[]) (by simp [results, Try.results37, go_sem]) rfl ⟨rfl, HB.out⟩
  · obtain ⟨e1, e2⟩ := hg.ld hy
    obtain ⟨b0, b1⟩ := ldY_bd hy
    rw [hy, e1, e2] at hld
    have hlk : lkL L x = if adA x ∈ L then L else L ++ [adA x] := by
      unfold lkL
      by_cases hi : adA x ∈ L
      · rw [if_neg (by simp [hi]), if_pos hi]
      · rw [if_pos ⟨hy, hi⟩, if_neg hi]
    rw [hlk]
    have hd0 : decide (16777216 ≤ adA x) = true := by simp; omega
    clear e1 e2 hlk hy
    generalize adA x = a at *
    by_cases hi : a ∈ L
    · rw [if_pos hi]
      have hd1 : decide (a ∈ L) = true := by simpa using hi
      go_enter Try.func37, Try.ntmps37
      go_wp2_with fail
      refine hld.mono ?_
      rintro e w1 ⟨rfl, hb1⟩
      have HV1 := Lib.hid (HV.out.below hb1)
      have q4 : w1.cell? ⟨n + 4, 0, none⟩ = some (.bool false) := by rw [cell_of_block HV1.out.kb]; rfl
      have qf : ∀ i, w1.frozen? ⟨n + 4, i, none⟩ = false := frozen_of_block HV1.out.kb
      have q3 : w1.cell? ⟨n + 3, 0, none⟩ = some (.map (some (n + 2))) := by rw [cell_of_block HV1.out.ks]; rfl
      have hz1 : n + 5 < w1.heap.size := (Array.getElem?_eq_some_iff.1 HV1.out.kk).1
      have HB := Lib.hid (LkP.pre hb1 (HV1.out.setb_lk HV1.out.setb))
      have hlk := HV1.out.setb.sn.look (x := a) (by omega)
      rw [hd1] at hlk
      have HI := Lib.hid hi
      clear hb1 hld hi
      go_wp2
      exact bodyPost_end (v := .tuple #[]) (by simp [results, Try.results37, go_sem]) rfl ⟨rfl, HB.out⟩
    · rw [if_neg hi]
      have hd1 : decide (a ∈ L) = false := by simpa using hi
      obtain ⟨i0, hi0, hz0, hz1, hz2⟩ := info_parts int_info
      have hml : maxLen = 9223372036854775807 := rfl
      go_enter Try.func37, Try.ntmps37
      go_wp2_with fail
      refine hld.mono ?_
      rintro e w1 ⟨rfl, hb1⟩
      have HV1 := Lib.hid (HV.out.below hb1)
      have q4 : w1.cell? ⟨n + 4, 0, none⟩ = some (.bool false) := by rw [cell_of_block HV1.out.kb]; rfl
      have qf : ∀ i, w1.frozen? ⟨n + 4, i, none⟩ = false := frozen_of_block HV1.out.kb
      have q3 : w1.cell? ⟨n + 3, 0, none⟩ = some (.map (some (n + 2))) := by rw [cell_of_block HV1.out.ks]; rfl
      have q1 : w1.cell? ⟨n + 1, 0, none⟩ = some v := by rw [cell_of_block HV1.out.kl]; rfl
      have hzz1 : n + 5 < w1.heap.size := (Array.getElem?_eq_some_iff.1 HV1.out.kk).1
      have HB := Lib.hid hb1
      have hsn := HV1.out.setb.sn
      have hlk := hsn.look (x := a) (by omega)
      rw [hd1] at hlk
      have HI := Lib.hid hi
      have HS := Lib.hid HV1.out.setb
      clear hb1 hld hi
      go_wp2_with (first
        | (refine wpList_seen (by rfl) _ _ _ (by rfl) (n + 2) L (by rfl) hsn (by omega) a (by rfl) (by rfl) (by omega) ?_; intro w3 hs3 hg3; have hM3 := Mods.of_grown hg3; have hrow3 : w3.ownsRow (n + 6) 3 1 v L.length (L.map (Value.int .i64)) := row_keep7 HS.out.row (fun G o e ho => mblock hM3 ho (by have := (row_lt HS.out.row G e).2; omega)); have q1 : w3.cell? ⟨n + 1, 0, none⟩ = some v := (by rw [cell_of_block (mblock hM3 HS.out.kl (by omega))]; rfl); have hzz3 : n + 5 < w3.heap.size := Nat.lt_of_lt_of_le (by simpa using hzz1) hM3.size; clear hM3)
        | (at_builtin; refine wpList_append_news rfl _ _ 42 rfl (n + 6) 3 i0 (.int .i64 0) 1 8 Try.underlying42 hi0 hz0 hz1 hz2 rfl (by decide) v L.length _ rfl (hrow3.alloc _) (some ⟨w3.heap.size, 0, none⟩) 1 1 [.int .i64 a] rfl rfl (.inr ⟨_, rfl, cell_one_new _ _ _⟩) (by simp [Value.oneCell']) (by omega) (by omega) (by simp; omega) ?_; intro v' w4 hown' hgrow hat; obtain ⟨av, cv, rfl, _, _⟩ := row_form hown'; have HFIN := Lib.hid (HS.out.push hs3 hg3 _ hown' hgrow); have HAT := Lib.hid hat; have HG3 := Lib.hid hg3.size; have qf : ∀ i, w4.frozen? ⟨n + 1, i, none⟩ = false := frozen_of_block (HS.out.kl2 hg3 _ hgrow); have q1b : w4.cell? ⟨n + 1, 0, none⟩ = some v := (by rw [cell_of_block (HS.out.kl2 hg3 _ hgrow)]; rfl); have hz4 : n + 1 < w4.heap.size := (Array.getElem?_eq_some_iff.1 (HS.out.kl2 hg3 _ hgrow)).1))
      refine bodyPost_end (v := .tuple #[]) (by simp [results, Try.results37, go_sem]) rfl ⟨rfl, LkP.pre HB.out (LkP.step (v1 := v) ((Mods.refl (OrW n v) w1 : Mods (OrW n v) w1 w1).setCell (p := ⟨n + 4, 0, none⟩) (.inl (.inr (.inr (.inl rfl)))) _) (fun _ e => .inl e) ⟨_, HFIN.out.1, HFIN.out.2, fun G e => ?_⟩)⟩
      rcases HAT.out with e' | e'
      · exact .inl (e' ▸ e)
      · rw [e'] at e
        cases e
        have := HG3.out
        right
        simp at this ⊢
        omega
end Go.Proofs.Ytgjaafcagnkfdaa
