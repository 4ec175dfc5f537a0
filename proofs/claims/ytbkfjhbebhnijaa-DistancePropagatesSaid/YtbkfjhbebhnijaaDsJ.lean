/-
  A number appended to a group of one of two maps: the look-up, the append, the store. Plain laws over the kit's maps; appending at a step of a region that draws.
-/
import Derived.Test.YtbkfjhbebhnijaaDsH
namespace Go.Proofs.Ytbkfjhbebhnijaa
open Go.RowKit Go.Maps Go.WideElems Go.ChangeShapes Go.MapKept
set_option linter.unusedSimpArgs false
set_option linter.unusedVariables false

theorem grown_refl (w : World) (r : Option Nat) : w.grownBy w r := ⟨rfl, rfl, rfl, Nat.le_refl _, fun _ _ _ => rfl⟩
def NewsAt (w : World) (A : Option Addr) (m c : Nat) (news : List Value) : Prop := (A = none ∧ m = 0 ∧ c = 0) ∨ ∃ ad, A = some ad ∧ ∀ j u, news[j]? = some u → w.cell? (ad.add j) = some u
theorem NewsAt.below {w w' : World} {A : Option Addr} {m c : Nat} {news : List Value} (h : NewsAt w A m c news) (hb : Below w.heap.size w w') : NewsAt w' A m c news := by
  rcases h with h | ⟨ad, hA, h⟩
  · exact .inl h
  · exact .inr ⟨ad, hA, fun j u hj => bcellv hb (h j u hj)⟩
theorem run_app_none {P : Program} {w : World} (base : Nat) (t ty e : TypeId) (i : TypeInfo) (size : Nat) (ht : P.underlying t = some (.slice e)) (hi : P.info? e = some i) {v : Value} {n : Nat} {xs : List Value} (hown : w.ownsRow base e size v n xs) :
    (Builtin.append_ #[t, t] ty #[v, .slice none 0 0]).run P w = .ok v w := by
  obtain ⟨_, h2⟩ := hown
  rcases h2 with ⟨rfl, rfl⟩ | ⟨g, cap, cur, rfl, _, _, hn, _⟩
  · simp [Builtin.append_, run_underlying ht, sizeOf, typeInfo, hi, Builtin.firstCells, Builtin.lenOf, storeCells]
  · simp [Builtin.append_, run_underlying ht, sizeOf, typeInfo, hi, Builtin.firstCells, Builtin.lenOf, storeCells, hn]
/-- Appending what lies elsewhere, or nothing, at a step of a region that draws. -/
theorem step_append_news {P : Program} {w : World} {ops : Array Oper} {o : Oper} {a : Act} {K : Act → World → Prop} {Q : Exit → Act → World → Prop} {E : Prop} (hgd : o.guard = none) (s x : Operand) (t : TypeId)
    (ho : o.op = .call { callee := .builtin .append, args := #[s, x], argTypes := #[t, t] })
    (base : Nat) (e : TypeId) (i : TypeInfo) (z : Value) (size bytes : Nat) (ht : P.underlying t = some (.slice e)) (hi : P.info? e = some i) (hz : i.zero = some z)
    (hsize : i.size = size) (hby : i.bytes = bytes) (hzs : z.cells.size = size) (hsz : 0 < size)
    (v : Value) (n : Nat) (xs : List Value) (hs : a.eval s = v) (hown : w.ownsRow base e size v n xs)
    (A : Option Addr) (m c : Nat) (news : List Value) (hx : a.eval x = .slice A m c) (hl : news.length = m * size) (hnews : NewsAt w A m c news) (h1 : ∀ u ∈ news, u.oneCell' = true)
    (h63 : n + m ≤ maxLen) (hbytes : (n + m) * bytes ≤ 140737488355328) (hbase : base ≤ w.heap.size)
    (h : ∀ v' w', w'.ownsRow base e size v' (n + m) (xs ++ news) → w.grownBy w' v.ownBlock → (v'.ownBlock = v.ownBlock ∨ v'.ownBlock = some w.heap.size) → K (a.put o.dst v') w') :
    if Region.wanted o (yielded ops a.tmps) = true then Oper.wp P o a w K Q else E := by
  have hw : Region.wanted o (yielded ops a.tmps) = true := by simp [Region.wanted, hgd]
  rw [if_pos hw]
  rcases hnews with ⟨rfl, rfl, rfl⟩ | ⟨ad, rfl, hn⟩
  · have h0 : news = [] := List.length_eq_zero_iff.1 (by omega)
    subst h0
    have hr := run_app_none (P := P) base t o.type e i size ht hi hown
    unfold Oper.wp execOp
    simp only [ho, resolve, invoke, builtin, Sem.run_bind, Sem.run_pure, Result.andThen_ok, List.map_toArray, List.map_cons, List.map_nil, hs, hx, hr]
    exact h v w (by simpa using hown) (grown_refl w _) (.inl rfl)
  · obtain ⟨v', w', hr, h2, h3, _, h5⟩ := run_append_own_at (P := P) w base t o.type e i z size bytes ht hi hz hsize hby hzs hsz v n xs hown ad m c news hl hn h1 h63 hbytes hbase
    unfold Oper.wp execOp
    simp only [ho, resolve, invoke, builtin, Sem.run_bind, Sem.run_pure, Result.andThen_ok, List.map_toArray, List.map_cons, List.map_nil, hs, hx, hr]
    exact h v' w' h2 h3 h5
theorem grown_any {W w1 : World} (hb : Below W.heap.size W w1) (row : Option Nat) : W.grownBy w1 row := ⟨hb.os, hb.tape, hb.output, hb.size, fun k hk _ => hb.block k hk⟩
theorem pw_uniq {es : List MapEntry} (h : es.Pairwise (fun x y => x.key ≠ y.key)) : ∀ a ∈ es, ∀ b ∈ es, a.key = b.key → a = b := by
  induction es with
  | nil => intro a ha; cases ha
  | cons e es ih =>
    obtain ⟨h1, h2⟩ := List.pairwise_cons.1 h
    intro a ha b hb hab
    rcases List.mem_cons.1 ha with ea | ha <;> rcases List.mem_cons.1 hb with eb | hb
    · rw [ea, eb]
    · exact absurd hab (by rw [ea]; exact h1 b hb)
    · exact absurd hab.symm (by rw [eb]; exact h1 a ha)
    · exact ih h2 a ha b hb hab
/-- The look-up, in whatever world the map stands as it is. -/
theorem groups_look {w : World} {B b n : Nat} {D : DataW Unit} (h : w.ownsGroups Try.prog 3 B 3 .i64 b n D) (hn : n < maxLen) {q : Int} (hq : (Lit.int .i64 q).wf = true) :
    ∃ u zs, (∀ W : World, W.heap[b]? = w.heap[b]? → (Instr.lookup 55 (.map (some b)) (.int .i64 q) false).run Try.prog W = .ok u W) ∧ D.atKey (.int .i64 q) .nil = rowDatum .i64 u zs ∧ w.ownsInts B 3 .i64 u zs ∧ zs.length ≤ n ∧ w.groupBack Try.prog 55 3 B 3 .i64 b n D (.int .i64 q) (.int .i64 q) u ∧ (∀ No : Nat → Prop, w.Shuns b No → ∀ g, u.ownBlock = some g → ¬ No g) := by
  have hkey := keyOf_int_mk Try.underlying3 hq
  obtain ⟨u, zs, hrun, hat, hoi, hzl, hback⟩ := h.at law31 Try.underlying55 (zero31 w) hn hkey
  obtain ⟨es, clock, hb, F, _⟩ := h
  have hu := pw_uniq ((stamped_iff es clock).1 F.stamped).2.2
  rcases Maps.fit_look false law31 Try.underlying55 (zero31 w) hb F hkey with ⟨hrun', hno, _⟩ | ⟨e0, y, hm0, hk0, hrun', _, _, _⟩
  · rw [hrun] at hrun'
    obtain rfl : u = .slice none 0 0 := by simpa using hrun'
    refine ⟨_, zs, fun W hW => ?_, hat, hoi, hzl, hback, fun _ _ g hg => by cases hg⟩
    rw [hb] at hW
    rcases Maps.fit_look false law31 Try.underlying55 (zero31 W) hW F hkey with ⟨hr, _, _⟩ | ⟨e1, _, hm1, hk1, _, _, _, _⟩
    · simpa using hr
    · exact absurd hk1 (hno e1 hm1)
  · rw [hrun] at hrun'
    obtain rfl : u = e0.val := by simpa using hrun'
    refine ⟨_, zs, fun W hW => ?_, hat, hoi, hzl, hback, fun No hs g hg => hs es clock hb e0 hm0 g hg⟩
    rw [hb] at hW
    rcases Maps.fit_look false law31 Try.underlying55 (zero31 W) hW F hkey with ⟨_, hno, _⟩ | ⟨e1, _, hm1, hk1, hr, _, _, _⟩
    · exact absurd hk0 (hno e0 hm0)
    · rw [hu e1 hm1 e0 hm0 (hk1.trans hk0.symm)] at hr
      simpa using hr
/-- A group grows: the look-up, and what the store leaves. -/
theorem Two.grow {w : World} {B b1 b2 n1 n2 : Nat} {D1 D2 : DataW Unit} {f : Int → List Int} (h : Two w B b1 b2 n1 n2 D1 D2) (hI : IsMap D1) (hD : GrpD D1 f) (hn : n1 < maxLen) {q : Int} (hq : (Lit.int .i64 q).wf = true) :
    ∃ u, (∀ W : World, W.heap[b1]? = w.heap[b1]? → (Instr.lookup 55 (.map (some b1)) (.int .i64 q) false).run Try.prog W = .ok u W) ∧ w.ownsInts B 3 .i64 u (f q) ∧ (f q).length ≤ n1 ∧
      ∀ (w5 : World) (v' : Value) (p : Int), w.grownBy w5 u.ownBlock → w5.ownsInts B 3 .i64 v' (f q ++ [p]) → (v'.ownBlock = u.ownBlock ∨ ∃ g, v'.ownBlock = some g ∧ w.heap.size ≤ g) →
        ∃ w6 D1', (Instr.mapUpdate 55 (.map (some b1)) (.int .i64 q) v').run Try.prog w5 = .ok () w6 ∧ w5.grownBy w6 (some b1) ∧ Two w6 B b1 b2 (n1 + 1) n2 D1' D2 ∧ IsMap D1' ∧ GrpD D1' (fun y => if y = q then f q ++ [p] else f y) := by
  have hkey := keyOf_int_mk Try.underlying3 hq
  obtain ⟨u, zs, hlook, hat, hoi, hzl, hback, hsu⟩ := groups_look h.g1 hn hq
  obtain rfl := hD.is hat hoi
  refine ⟨u, hlook, hoi, hzl, fun w5 v' p hall hoi' hloc => ?_⟩
  obtain ⟨No1, No2, h1, h2, hc⟩ := h.sh
  obtain ⟨w6, hrun, hown6, hg6⟩ := hback w5 v' _ hall hoi' (by simp; omega) hloc
  have hsh6 : w6.Shuns b1 (fun g => No1 g ∧ v'.ownBlock ≠ some g) := by
    obtain ⟨es, clock, hb, F, hs, _, hbb, _⟩ := h.g1
    have hblt : b1 < w.heap.size := (Array.getElem?_eq_some_iff.1 hb).1
    have hb1 : w5.heap[b1]? = some (.map es clock) := (hall.block b1 hblt (fun e1 => by have := (hoi.1.lt b1 e1.symm).1; omega)).trans hb
    obtain ⟨es', clock', hb2, hwho⟩ := stored_who law31 Try.underlying55 hb1 F (Nat.lt_of_le_of_lt hs hn) hkey hrun
    intro es2 clock2 hb2' y hy g hyg
    obtain ⟨rfl, rfl⟩ : es' = es2 ∧ clock' = clock2 := by rw [hb2] at hb2'; simpa using hb2'
    rcases hwho y hy with ⟨hy0, _⟩ | ⟨_, hval⟩
    · exact fun hN => h1 es clock hb y hy0 g hyg hN.1
    · exact fun hN => hN.2 (hval ▸ hyg)
  exact ⟨w6, _, hrun, hg6, h.add h2 hc (hsu No1 h1) hoi hall hoi' hloc hown6 hg6 hsh6, hI.put _ _, hD.put hI hoi' (by simp)⟩
end Go.Proofs.Ytbkfjhbebhnijaa
