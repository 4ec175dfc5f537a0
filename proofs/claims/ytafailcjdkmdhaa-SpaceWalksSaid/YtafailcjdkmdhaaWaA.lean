/-
  SpaceWalks: the lists of what was allocated, beside the space.
-/
import Derived.Test.YtafailcjdkmdhaaMade
import Derived.Deep.AppendLies
import Derived.Maps.AppendAt
import Derived.Lib.Hide
namespace Go.Proofs.Ytafailcjdkmdhaa
open Go.RowKit
set_option linter.unusedSimpArgs false
set_option linter.unusedVariables false

theorem row_lt {w : World} {n0 : Nat} {e : TypeId} {sz : Nat} {v : Value} {n : Nat} {xs : List Value} (h : w.ownsRow n0 e sz v n xs) : ∀ G, v.ownBlock = some G → G < w.heap.size ∧ n0 ≤ G := fun G hG => ⟨(h.lt G hG).2, (h.lt G hG).1⟩
theorem row_keep {w w' : World} {n0 : Nat} {e : TypeId} {sz : Nat} {v : Value} {n : Nat} {xs : List Value} (h : w.ownsRow n0 e sz v n xs) (hk : ∀ G o, v.ownBlock = some G → w.heap[G]? = some o → w'.heap[G]? = some o) : w'.ownsRow n0 e sz v n xs := by
  obtain ⟨h1, h2⟩ := h
  refine ⟨h1, ?_⟩
  rcases h2 with h2 | ⟨g, cap, cur, rfl, hb, hh, h3⟩
  · exact .inl h2
  · exact .inr ⟨g, cap, cur, rfl, hb, hk g _ rfl hh, h3⟩
theorem row_below7 {A B : World} {N : Nat} {e : TypeId} {sz : Nat} {v : Value} {n : Nat} {xs : List Value} (h : A.ownsRow N e sz v n xs) (hb : Below A.heap.size A B) : B.ownsRow N e sz v n xs := by
  obtain ⟨h1, h2⟩ := h
  refine ⟨h1, ?_⟩
  rcases h2 with h2 | ⟨g, cap, cur, e1, hb', hh, h3⟩
  · exact .inl h2
  · exact .inr ⟨g, cap, cur, e1, hb', bblock hb hh, h3⟩
theorem run_app_none {P : Program} {w : World} (base : Nat) (t ty e : TypeId) (i : TypeInfo) (size : Nat) (ht : P.underlying t = some (.slice e)) (hi : P.info? e = some i) {v : Value} {n : Nat} {xs : List Value} (hown : w.ownsRow base e size v n xs) :
    (Builtin.append_ #[t, t] ty #[v, .slice none 0 0]).run P w = .ok v w := by
  obtain ⟨_, h2⟩ := hown
  rcases h2 with ⟨rfl, rfl⟩ | ⟨g, cap, cur, rfl, _, _, hn, _⟩
  · simp [Builtin.append_, run_underlying ht, sizeOf, typeInfo, hi, Builtin.firstCells, Builtin.lenOf, storeCells]
  · simp [Builtin.append_, run_underlying ht, sizeOf, typeInfo, hi, Builtin.firstCells, Builtin.lenOf, storeCells, hn]
/-- Appending what lies elsewhere, or nothing, at a step of a region that draws. -/
theorem step_append_news {P : Program} {w : World} {ops : Array Oper} {o : Oper} {a : Act} {K : Act → World → Prop} {Q : Exit → Act → World → Prop} {E : Prop} (hgd : o.guard = none) (s x : Operand) (t : TypeId)
    (ho : o.op = .call { callee := .builtin .append, args := #[s, x], argTypes := #[t, t] })
    (base : Nat) (e : TypeId) (i : TypeInfo) (z : Value) (size bytes : Nat) (ht : P.underlying t = some (.slice e)) (hi : P.info? e = some i) (hz : i.zero = some z)
    (hsize : i.size = size) (hby : i.bytes = bytes) (hzs : z.cells.size = size) (hsz : 0 < size)
    (v : Value) (n : Nat) (xs : List Value) (hs : a.eval s = v) (hown : w.ownsRow base e size v n xs)
    (A : Option Addr) (m c : Nat) (news : List Value) (hx : a.eval x = .slice A m c) (hl : news.length = m * size) (hnews : NewsAt w A m c news) (h1 : ∀ u ∈ news, u.oneCell' = true)
    (h63 : n + m ≤ maxLen) (hbytes : (n + m) * bytes ≤ 140737488355328) (hbase : base ≤ w.heap.size)
    (h : ∀ v' w', w'.ownsRow base e size v' (n + m) (xs ++ news) → w.grownBy w' v.ownBlock → (v'.ownBlock = v.ownBlock ∨ v'.ownBlock = some w.heap.size) → K (a.put o.dst v') w') :
    if Region.wanted o (yielded ops a.tmps) = true then Oper.wp P o a w K Q else E := by
  have hw : Region.wanted o (yielded ops a.tmps) = true := by simp [Region.wanted, hgd]
  rw [if_pos hw]
  rcases hnews with ⟨rfl, rfl, rfl⟩ | ⟨ad, rfl, hn⟩
  · have h0 : news = [] := List.length_eq_zero_iff.1 (by omega)
    subst h0
    have hr := run_app_none (P := P) base t o.type e i size ht hi hown
    unfold Oper.wp execOp
    simp only [ho, resolve, invoke, builtin, Sem.run_bind, Sem.run_pure, Result.andThen_ok, List.map_toArray, List.map_cons, List.map_nil, hs, hx, hr]
    exact h v w (by simpa using hown) (grown_refl w _) (.inl rfl)
  · obtain ⟨v', w', hr, h2, h3, _, h5⟩ := run_append_own_at (P := P) w base t o.type e i z size bytes ht hi hz hsize hby hzs hsz v n xs hown ad m c news hl hn h1 h63 hbytes hbase
    unfold Oper.wp execOp
    simp only [ho, resolve, invoke, builtin, Sem.run_bind, Sem.run_pure, Result.andThen_ok, List.map_toArray, List.map_cons, List.map_nil, hs, hx, hr]
    exact h v' w' h2 h3 h5
theorem app_keep {w4 wq W' w2 : World} {B : Nat} {row : Option Nat} (hq : Below wq.heap.size wq W') (hg : W'.grownBy w2 row) (hrow : ∀ G, row = some G → B ≤ G) (hB : B ≤ wq.heap.size) (hbw : Below B w4 wq) : Below B w4 w2 :=
  (hbw.trans (hq.mono hB)).grown hg (Nat.le_trans hB hq.size) hrow
theorem app_row {wq W' w2 : World} {B : Nat} {row : Option Nat} {e : TypeId} {sz : Nat} {v : Value} {n : Nat} {xs : List Value} (hq : Below wq.heap.size wq W') (hg : W'.grownBy w2 row) (h : wq.ownsRow B e sz v n xs) (hne : ∀ G, v.ownBlock = some G → row ≠ some G) : w2.ownsRow B e sz v n xs :=
  row_keep (row_below7 h hq) (fun G o e ho => (hg.block G (Array.getElem?_eq_some_iff.1 ho).1 (fun q => hne G e q.symm)).trans ho)
theorem app_cell {wq W' w2 : World} {row : Option Nat} {V i : Nat} {x : Value} (hq : Below wq.heap.size wq W') (hg : W'.grownBy w2 row) (h : wq.cell? ⟨V, i, none⟩ = some x) (hne : row ≠ some V) : w2.cell? ⟨V, i, none⟩ = some x := by
  have h2 := bcellv hq h
  exact (hg.cell_far ⟨V, i, none⟩ (World.block_lt_of_cell? _ _ h2) (fun q => hne q.symm)).trans h2
theorem app_hold {W' w2 : World} {row : Option Nat} {N : Nat} (hg : W'.grownBy w2 row) (hrow : ∀ G, row = some G → G < N) : ∀ (V i : Nat) (z : Value), N ≤ V → W'.cell? ⟨V, i, none⟩ = some z → w2.cell? ⟨V, i, none⟩ = some z := fun V i z h1 h2 =>
  (hg.cell_far ⟨V, i, none⟩ (World.block_lt_of_cell? _ _ h2) (fun q => by have := hrow V q.symm; omega)).trans h2
theorem app_ne8 {wq W' : World} {B : Nat} {u8 v8 v9 : Value} {e : TypeId} {sz n : Nat} {xs : List Value} (hq : Below wq.heap.size wq W') (hne : ∀ G, u8.ownBlock = some G → v9.ownBlock ≠ some G) (r9 : wq.ownsRow B e sz v9 n xs) (hat : v8.ownBlock = u8.ownBlock ∨ v8.ownBlock = some W'.heap.size) : ∀ G, v8.ownBlock = some G → v9.ownBlock ≠ some G := by
  intro G h h'
  rcases hat with e | e
  · exact hne G (e ▸ h) h'
  · rw [e] at h
    cases h
    have := (row_lt r9 _ h').1
    have := hq.size
    omega
theorem app_ne9 {wq W' : World} {B : Nat} {u9 v8 v9 : Value} {e : TypeId} {sz n : Nat} {xs : List Value} (hq : Below wq.heap.size wq W') (hne : ∀ G, v8.ownBlock = some G → u9.ownBlock ≠ some G) (r8 : wq.ownsRow B e sz v8 n xs) (hat : v9.ownBlock = u9.ownBlock ∨ v9.ownBlock = some W'.heap.size) : ∀ G, v8.ownBlock = some G → v9.ownBlock ≠ some G := by
  intro G h h'
  rcases hat with e | e
  · exact hne G h (e ▸ h')
  · rw [e] at h'
    cases h'
    have := (row_lt r8 _ h).1
    have := hq.size
    omega
theorem row_openS {w : World} {n0 sz : Nat} {t : TypeId} {v : Value} {n : Nat} {xs : List Value} (h : w.ownsRow n0 t sz v n xs) (hn : 0 < n) : ∃ G cap, v = .slice (some ⟨G, 0, none⟩) n cap ∧ n0 ≤ G ∧ G < w.heap.size ∧ n ≤ cap ∧ cap ≤ 9223372036854775807 ∧ ∀ i x, xs[i]? = some x → w.cell? ⟨G, i, none⟩ = some x := by
  obtain ⟨h1, h2⟩ := h
  rcases h2 with ⟨_, h0⟩ | ⟨g, cap, cur, rfl, hb, hh, hc, hm, hs, ht⟩
  · omega
  · refine ⟨g, cap, rfl, hb, (Array.getElem?_eq_some_iff.1 hh).1, hc, hm, fun i x hx => ?_⟩
    have hi : i < xs.length := (List.getElem?_eq_some_iff.1 hx).1
    rw [cell_of_block hh, ← Array.getElem?_toList]
    have e : (cur.toList.take (n * sz))[i]? = xs[i]? := by rw [ht]
    rw [List.getElem?_take_of_lt (by omega)] at e
    rw [e, hx]
/-- A slice of integers: its cells. -/
def WrdsV (w : World) (v : Value) (xs : List Int) : Prop :=
  ∃ (a : Option Addr) (cap : Nat), v = .slice a xs.length cap ∧ xs.length ≤ cap ∧ cap ≤ 9223372036854775807 ∧ (xs = [] ∨ ∃ b off : Nat, a = some ⟨b, off, none⟩ ∧ ∀ i x, xs[i]? = some x → w.cell? ⟨b, off + i, none⟩ = some (.int .u64 x))
theorem op_info : (Try.prog.info? 34).map (fun i => (i.zero, i.size, i.bytes)) = some (some (.agg #[.int .u8 0, .int .i64 0, .int .i64 0, .int .i64 0, .int .i64 0, .int .i64 0, .int .i64 0, .int .u64 0]), 8, 64) := by kernel_rfl
structure FillIn (w0 N B : Nat) (p q : Value) (ks : List Op6) (ws : List Int) (g : Option Nat) (W : World) : Prop where
  sp : SpAt W B 1000 100000 ws g
  ok : SpOk 1000 100000 ws
  md : MadeFrom ws ks 0
  gw : ∀ G, g = some G → w0 ≤ G
  bw : w0 ≤ B
  nw : w0 ≤ N
  nz : N ≤ W.heap.size
  gp : ∀ G, p.ownBlock = some G → ¬ SpS B g G
  gq : ∀ G, q.ownBlock = some G → ¬ SpS B g G
  pq : ∀ G, p.ownBlock = some G → q.ownBlock ≠ some G
  rp : W.ownsRow N 3 1 p ks.length ((adr 1000 ks).map (Value.int .i64))
  rq : W.ownsRow N 34 8 q ks.length (flatO ks)
theorem FillIn.below {w0 N B : Nat} {p q : Value} {ks : List Op6} {ws : List Int} {g : Option Nat} {W W' : World} (h : FillIn w0 N B p q ks ws g W) (hb : Below W.heap.size W W') : FillIn w0 N B p q ks ws g W' :=
  ⟨h.sp.below hb, h.ok, h.md, h.gw, h.bw, h.nw, Nat.le_trans h.nz hb.size, h.gp, h.gq, h.pq, row_below7 h.rp hb, row_below7 h.rq hb⟩
theorem FillIn.ge {w0 N B : Nat} {p q : Value} {ks : List Op6} {ws : List Int} {g : Option Nat} {W : World} (h : FillIn w0 N B p q ks ws g W) : ∀ k, SpS B g k → w0 ≤ k := sps_ge h.bw h.gw
/-- The space was written; the lists stand. -/
theorem FillIn.step {w0 N B : Nat} {p q : Value} {ks : List Op6} {ws ws' : List Int} {g g' : Option Nat} {W W' : World} (h : FillIn w0 N B p q ks ws g W) (hs : SpAt W' B 1000 100000 ws' g') (hM : Mods (SpS B g) W W') (hg : ∀ G, g' = some G → g = some G ∨ W.heap.size ≤ G) (hk : SpOk 1000 100000 ws') (hw0 : w0 ≤ W.heap.size) :
    (∀ G, g' = some G → w0 ≤ G) ∧ (∀ G, p.ownBlock = some G → ¬ SpS B g' G) ∧ (∀ G, q.ownBlock = some G → ¬ SpS B g' G) ∧ W'.ownsRow N 3 1 p ks.length ((adr 1000 ks).map (Value.int .i64)) ∧ W'.ownsRow N 34 8 q ks.length (flatO ks) := by
  have q0 : ∀ {e sz n xs} {v : Value}, W.ownsRow N e sz v n xs → (∀ G, v.ownBlock = some G → ¬ SpS B g G) → (∀ G, v.ownBlock = some G → ¬ SpS B g' G) := by
    intro e sz n xs v hr hn G hG hS
    have hlt := (row_lt hr G hG).1
    rcases hS with e | e
    · exact hn G hG (.inl e)
    · rcases hg G e with e' | e'
      · exact hn G hG (.inr e')
      · omega
  refine ⟨fun G e => ?_, q0 h.rp h.gp, q0 h.rq h.gq, row_keep h.rp (fun G o e ho => mblock hM ho (h.gp G e)), row_keep h.rq (fun G o e ho => mblock hM ho (h.gq G e))⟩
  rcases hg G e with e' | e'
  · exact h.gw G e'
  · omega
theorem FillIn.store {w0 N B : Nat} {p q : Value} {ks : List Op6} {ws ws' : List Int} {g g' : Option Nat} {W W' : World} (h : FillIn w0 N B p q ks ws g W) (hs : SpAt W' B 1000 100000 ws' g') (hM : Mods (SpS B g) W W') (hg : ∀ G, g' = some G → g = some G ∨ W.heap.size ≤ G) (hk : SpOk 1000 100000 ws') (hw0 : w0 ≤ W.heap.size) (hm : MadeFrom ws' ks 0) : FillIn w0 N B p q ks ws' g' W' := by
  obtain ⟨h1, h2, h3, h4, h5⟩ := h.step hs hM hg hk hw0
  exact ⟨hs, hk, hm, h1, h.bw, h.nw, Nat.le_trans h.nz hM.size, h2, h3, h.pq, h4, h5⟩
/-- The space, seen from the region that appends to the lists. -/
def KpS (w : World) (B : Nat) (ws : List Int) (g : Option Nat) (W : World) : Prop := SpAt W B 1000 100000 ws g ∧ Below w.heap.size w W
theorem KpS.app {w wq W' w2 : World} {B : Nat} {ws : List Int} {g row : Option Nat} (h : KpS w B ws g wq) (hq : Below wq.heap.size wq W') (hg : W'.grownBy w2 row) (hr : ∀ G, row = some G → w.heap.size ≤ G) (hn : ∀ G, row = some G → ¬ SpS B g G) (hw : w.heap.size ≤ wq.heap.size) : KpS w B ws g w2 := by
  refine ⟨(h.1.below hq).keep (fun o ho => (hg.block B (Array.getElem?_eq_some_iff.1 ho).1 (fun q => hn B q.symm (.inl rfl))).trans ho) (fun G o e ho => (hg.block G (Array.getElem?_eq_some_iff.1 ho).1 (fun q => hn G q.symm (.inr e))).trans ho), ?_⟩
  exact app_keep hq hg hr hw h.2
theorem KpS.apart {w wq W' : World} {B : Nat} {ws : List Int} {g : Option Nat} {u v : Value} (h : KpS w B ws g wq) (hq : Below wq.heap.size wq W') (hn : ∀ G, u.ownBlock = some G → ¬ SpS B g G) (hat : v.ownBlock = u.ownBlock ∨ v.ownBlock = some W'.heap.size) : ∀ G, v.ownBlock = some G → ¬ SpS B g G := by
  intro G hG
  rcases hat with e | e
  · exact hn G (e ▸ hG)
  · rw [e] at hG
    cases hG
    have h1 := h.1.lt
    have h2 := h.1.glt
    have h3 := hq.size
    rintro (e' | e')
    · omega
    · have := h2 _ e'; omega
theorem row_form {w : World} {n0 sz : Nat} {t : TypeId} {v : Value} {n : Nat} {xs : List Value} (h : w.ownsRow n0 t sz v n xs) : ∃ a c, v = .slice a n c ∧ n ≤ c ∧ c ≤ 9223372036854775807 := by
  obtain ⟨h1, h2⟩ := h
  rcases h2 with ⟨rfl, rfl⟩ | ⟨g, cap, cur, rfl, hb, hh, hc, hm, hs, ht⟩
  · exact ⟨none, 0, rfl, Nat.le_refl _, by omega⟩
  · exact ⟨_, cap, rfl, hc, hm⟩
theorem al_zero {bs lm : Int} {ws : List Int} {k c f m s : Int} (h : alE bs lm ws k c f m s = 0) : hvB k c f = true ∧ idB m s = true ∧ alA bs lm ws k c f m s = bs + ws.length ∧ alW bs lm ws k c f m s = ws ++ newObj k c f m s := by
  have h' := h
  unfold alE at h'
  cases h1 : hvB k c f <;> cases h2 : idB m s <;> rw [h1, h2] at h' <;> simp at h'
  refine ⟨rfl, rfl, ?_, ?_⟩
  · unfold alA; rw [if_pos h]
  · unfold alW; rw [if_pos h]
theorem tot_all {ws : List Int} {ks : List Op6} (h : MadeFrom ws ks 0) : tot ks = ws.length := by have := made_len ks 0 h; omega
theorem walk_store {ws : List Int} {ks : List Op6} (h : MadeFrom ws ks 0) {t j : Nat} {o : Op6} (ho : ks[t]? = some o) (h1 : tot (ks.take t) + 2 ≤ j) (h2 : j < tot (ks.take (t + 1))) (u : Int) : ioE 1000 ws (1000 + (j : Int)) = 0 ∧ stW 1000 ws (1000 + (j : Int)) u = ws.set j u ∧ MadeFrom (ws.set j u) ks 0 := by
  have h3 := tot_all h
  have ht := (List.getElem?_eq_some_iff.1 ho).1
  have h4 := tot_mono ks (show t + 1 ≤ ks.length by omega)
  rw [List.take_length] at h4
  have hin : inB 1000 ws.length (1000 + (j : Int)) = true := inB_iff.2 ⟨by omega, by omega⟩
  refine ⟨by unfold ioE; rw [hin]; rfl, ?_, made_set ks 0 h (field_free ho h1 h2)⟩
  unfold stW
  rw [hin, if_pos rfl]
  congr 1
  omega
theorem walk_load {ws : List Int} {ks : List Op6} (h : MadeFrom ws ks 0) {t : Nat} {o : Op6} (ho : ks[t]? = some o) : ioE 1000 ws (1000 + (tot (ks.take t) : Nat)) = 0 ∧ ldW 1000 ws (1000 + (tot (ks.take t) : Nat)) = encI o.k o.c o.f ∧ ioE 1000 ws (1000 + (tot (ks.take t) : Nat) + 1) = 0 ∧ ldW 1000 ws (1000 + (tot (ks.take t) : Nat) + 1) = idI o.m o.s := by
  obtain ⟨h1, h2, h3, h4⟩ := made_get ks 0 t o h ho
  have hs := szO_bd h1
  rw [Nat.zero_add] at h2 h3 h4
  have hin : inB 1000 ws.length (1000 + (tot (ks.take t) : Nat)) = true := inB_iff.2 ⟨by omega, by omega⟩
  have hin1 : inB 1000 ws.length (1000 + (tot (ks.take t) : Nat) + 1) = true := inB_iff.2 ⟨by omega, by omega⟩
  unfold ioE ldW
  rw [hin, hin1]
  refine ⟨rfl, ?_, rfl, ?_⟩
  · rw [if_pos rfl, ← h2]
    congr 1
    omega
  · rw [if_pos rfl, ← h3]
    congr 1
    omega
theorem cellsO_one (o : Op6) : ∀ u ∈ cellsO o, u.oneCell' = true := by
  intro u hu
  unfold cellsO at hu
  simp only [List.mem_cons, List.not_mem_nil, or_false] at hu
  rcases hu with rfl | rfl | rfl | rfl | rfl | rfl | rfl | rfl <;> rfl
theorem row_nil_at {W : World} {N : Nat} {e : TypeId} {sz : Nat} (h : N ≤ W.heap.size) : (W.alloc (.cells #[] e)).ownsRow N e sz (.slice (some ⟨W.heap.size, 0, none⟩) 0 0) 0 [] := by
  have := World.ownsRow_made W (base := N) (e := e) (size := sz) #[] 0 h (Nat.zero_le _) (by simp)
  exact this
end Go.Proofs.Ytafailcjdkmdhaa
