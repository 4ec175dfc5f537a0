/-
  law 13: the reference's Note.
-/
import Derived.Test.YtgipmcmmicppkaaUnR
import Derived.Deep.Cut
namespace Go.Proofs.Ytgipmcmmicppkaa
open Go.RowKit
set_option linter.unusedSimpArgs false
set_option linter.unusedVariables false

def LgNext (w : World) (nt : List (Int × Int)) (op : Bool) (top er : Int) (vA vW : Value) (e : Ending) (w' : World) : Prop :=
  ∃ vA' vW', e = .returned (.tuple #[lgV op top vA' vW', .int .i64 er]) ∧ LgAt w' nt vA' vW' ∧ (∀ G, vA'.ownBlock = some G → vA.ownBlock = some G ∨ w.heap.size ≤ G) ∧ (∀ G, vW'.ownBlock = some G → vW.ownBlock = some G ∨ w.heap.size ≤ G) ∧ Below w.heap.size w w'
theorem LgNext.same {w w' : World} {nt : List (Int × Int)} {op : Bool} {top er : Int} {vA vW : Value} (h : LgAt w nt vA vW) (hb : Below w.heap.size w w') : LgNext w nt op top er vA vW (.returned (.tuple #[lgV op top vA vW, .int .i64 er])) w' := ⟨vA, vW, rfl, h.below hb, fun G e => .inl e, fun G e => .inl e, hb⟩
theorem row_made0 (w : World) (e : TypeId) : (w.alloc (.cells #[] e)).ownsRow 0 e 1 (.slice (some ⟨w.heap.size, 0, none⟩) 0 0) 0 [] := ⟨rfl, .inr ⟨w.heap.size, 0, #[], rfl, Nat.zero_le _, alloc_get _ _, Nat.le_refl _, by omega, rfl, rfl⟩⟩
theorem news_one (w : World) (x : Value) (e : TypeId) : NewsAt (w.alloc (.cells #[x] e)) (some ⟨w.heap.size, 0, none⟩) 1 1 [x] := .inr ⟨_, rfl, fun j u hj => by
  rw [Addr.add_lit, cell_of_block (alloc_get _ _)]
  simpa using hj⟩
theorem grown_up {W W1 W2 : World} {v : Value} (hb : Below W.heap.size W W1) (hg : W1.grownBy W2 v.ownBlock) (hv : ∀ G, v.ownBlock = some G → W.heap.size ≤ G) : Below W.heap.size W W2 := hb.grown hg hb.size (fun k e => hv k e)
theorem own_up {W : World} {N : Nat} {v vB : Value} (hv : vB.ownBlock = v.ownBlock ∨ vB.ownBlock = some W.heap.size) (h0 : ∀ G, v.ownBlock = some G → N ≤ G) (hW : N ≤ W.heap.size) : ∀ G, vB.ownBlock = some G → N ≤ G := fun G e => by
  rcases hv with h | h
  · exact h0 G (h.symm.trans e)
  · rw [h] at e
    simp at e
    omega
theorem own_made (N : Nat) : ∀ G, (Value.slice (some ⟨N, 0, none⟩) 0 0).ownBlock = some G → N ≤ G := fun G e => by
  simp [Value.ownBlock] at e
  omega
/-- append to an empty row just made: a copy. -/
theorem wpList_app_a {W : World} {w : World} {ops : Array Oper} {rest : List Oper} {o : Oper} {a : Act} {Q : Exit → Act → World → Prop} (hgd : o.guard = none) (s x : Operand) (t e : TypeId)
    (ho : o.op = .call { callee := .builtin .append, args := #[s, x], argTypes := #[t, t] }) (i : TypeInfo) (z : Value) (ht : Try.prog.underlying t = some (.slice e)) (hi : Try.prog.info? e = some i) (hz : i.zero = some z)
    (hsize : i.size = 1) (hby : i.bytes = 8) (hzs : z.cells.size = 1) (hw : w = W.alloc (.cells #[] e)) {g : Nat} (hs : a.eval s = .slice (some ⟨g, 0, none⟩) 0 0) (hg : W.heap.size = g)
    {A : Option Addr} {n c : Nat} {xs : List Value} (hx : a.eval x = .slice A n c) (hl : xs.length = n) (hnews : NewsAt W A n c xs) (h1 : ∀ u ∈ xs, u.oneCell' = true) (hn : n ≤ 1000000)
    (h : ∀ aB cB w', w'.ownsRow 0 e 1 (.slice aB n cB) n xs → Below W.heap.size W w' → (∀ G, (Value.slice aB n cB).ownBlock = some G → W.heap.size ≤ G) → wpList Try.prog ops Q rest (a.put o.dst (.slice aB n cB)) w') : wpList Try.prog ops Q (o :: rest) a w := by
  subst hw hg
  have hml : maxLen = 9223372036854775807 := rfl
  refine wpList_append_news hgd s x t ho 0 e i z 1 8 ht hi hz hsize hby hzs (by decide) _ 0 [] hs (row_made0 W e) A n c xs hx (by omega) (hnews.below (balloc (Below.refl _ _) _)) h1 (by omega) (by omega) (Nat.zero_le _) ?_
  intro vB w3 hown1 hg1 hv1
  rw [Nat.zero_add, List.nil_append] at hown1
  have hup1 : Below W.heap.size W w3 := grown_up (balloc (Below.refl _ W) _) hg1 (own_made _)
  have hvB := own_up hv1 (own_made _) (by simp)
  obtain ⟨aB, cB, eB, _⟩ := row_form1 hown1
  subst eB
  exact h aB cB w3 hown1 hup1 hvB
/-- .. and one more behind it. -/
theorem wpList_app_b {W w3 : World} {w : World} {ops : Array Oper} {rest : List Oper} {o : Oper} {a : Act} {Q : Exit → Act → World → Prop} (hgd : o.guard = none) (s x : Operand) (t e : TypeId)
    (ho : o.op = .call { callee := .builtin .append, args := #[s, x], argTypes := #[t, t] }) (i : TypeInfo) (z : Value) (ht : Try.prog.underlying t = some (.slice e)) (hi : Try.prog.info? e = some i) (hz : i.zero = some z)
    (hsize : i.size = 1) (hby : i.bytes = 8) (hzs : z.cells.size = 1) {aB : Option Addr} {n cB : Nat} {xs : List Value} {y : Value} (hw : w = w3.alloc (.cells #[y] e)) (hs : a.eval s = .slice aB n cB) (hup : Below W.heap.size W w3) (hown : w3.ownsRow 0 e 1 (.slice aB n cB) n xs) (hvB : ∀ G, (Value.slice aB n cB).ownBlock = some G → W.heap.size ≤ G)
    {g : Nat} (hx : a.eval x = .slice (some ⟨g, 0, none⟩) 1 1) (hg : w3.heap.size = g) (hy : y.oneCell' = true) (hn : n ≤ 1000000)
    (h : ∀ aC cC w', w'.ownsRow 0 e 1 (.slice aC (n + 1) cC) (n + 1) (xs ++ [y]) → Below W.heap.size W w' → (∀ G, (Value.slice aC (n + 1) cC).ownBlock = some G → W.heap.size ≤ G) → wpList Try.prog ops Q rest (a.put o.dst (.slice aC (n + 1) cC)) w') : wpList Try.prog ops Q (o :: rest) a w := by
  subst hw hg
  have hml : maxLen = 9223372036854775807 := rfl
  refine wpList_append_news hgd s x t ho 0 e i z 1 8 ht hi hz hsize hby hzs (by decide) _ n xs hs (nrow_keep hown (fun G o _ ho => alloc_lt _ ho)) _ 1 1 [y] hx rfl (news_one w3 y e) (fun u hu => by rw [List.mem_singleton.1 hu]; exact hy) (by omega) (by omega) (Nat.zero_le _) ?_
  intro vC w4 hown2 hg2 hv2
  have hup2 : Below W.heap.size W w4 := grown_up (balloc hup _) hg2 hvB
  have hvC := own_up hv2 hvB (by rw [World.size_alloc]; have := hup.size; omega)
  obtain ⟨aC, cC, eC, _⟩ := row_form1 hown2
  subst eC
  exact h aC cC w4 hown2 hup2 hvC
theorem four_mods {w : World} {k : Nat} {b0 b1 b2 b3 : Value} : Mods (fun j => j = k) w ((((w.setCell ⟨k, 0, none⟩ b0).setCell ⟨k, 1, none⟩ b1).setCell ⟨k, 2, none⟩ b2).setCell ⟨k, 3, none⟩ b3) :=
  ((((Mods.refl (fun j => j = k) w : Mods (fun j => j = k) w w).setCell (p := ⟨k, 0, none⟩) (.inl (by rfl)) _).setCell (p := ⟨k, 1, none⟩) (.inl (by rfl)) _).setCell (p := ⟨k, 2, none⟩) (.inl (by rfl)) _).setCell (p := ⟨k, 3, none⟩) (.inl (by rfl)) _
set_option maxRecDepth 100000 in
set_option maxHeartbeats 1000000 in
theorem rnote_no {w : World} {top : Int} {nt : List (Int × Int)} {vA vW : Value} (h : LgAt w nt vA vW) {aO : Option Addr} {nO cO : Nat} {aY : Option Addr} {nY cY : Nat} {lo ly : Int} {wo wy : List Int} {rO rY : Option Nat} (hm : RMem w aO nO cO aY nY cY lo ly wo wy rO rY) (a : Int) :
    Calls Try.prog 58 #[lgV false top vA vW, mmV lo ly aO nO cO aY nY cY, .int .i64 a] w (LgNext w nt false top 9 vA vW) := by
  have HF := Lib.hid (fun W (hb : Below w.heap.size w W) => LgNext.same (op := false) (top := top) (er := 9) h hb)
  obtain ⟨a1, c1, rfl, _⟩ := row_form1 h.at_
  obtain ⟨a2, c2, rfl, _⟩ := row_form1 h.wd
  generalize nt.length = n at *
  clear h hm
  unfold lgV mmV
  unfold lgV at HF
  have kl : (((w.alloc (.cells #[.bool false, .int .i64 top, .slice a1 n c1, .slice a2 n c2] 38)).alloc (.cells #[.int .i64 0, .int .i64 lo, .slice aO nO cO, .int .i64 16777216, .int .i64 ly, .slice aY nY cY] 35)).alloc (.cells #[.bool false, .int .i64 0, .slice none 0 0, .slice none 0 0] 38)).heap[w.heap.size]? = some (.cells #[.bool false, .int .i64 top, .slice a1 n c1, .slice a2 n c2] 38 (0, 0)) := alloc_lt _ (alloc_lt _ (alloc_get _ _))
  have km : (((w.alloc (.cells #[.bool false, .int .i64 top, .slice a1 n c1, .slice a2 n c2] 38)).alloc (.cells #[.int .i64 0, .int .i64 lo, .slice aO nO cO, .int .i64 16777216, .int .i64 ly, .slice aY nY cY] 35)).alloc (.cells #[.bool false, .int .i64 0, .slice none 0 0, .slice none 0 0] 38)).heap[w.heap.size + 1]? = some (.cells #[.int .i64 0, .int .i64 lo, .slice aO nO cO, .int .i64 16777216, .int .i64 ly, .slice aY nY cY] 35 (0, 0)) := alloc_lt _ (alloc_at _ (by simp))
  have kr : (((w.alloc (.cells #[.bool false, .int .i64 top, .slice a1 n c1, .slice a2 n c2] 38)).alloc (.cells #[.int .i64 0, .int .i64 lo, .slice aO nO cO, .int .i64 16777216, .int .i64 ly, .slice aY nY cY] 35)).alloc (.cells #[.bool false, .int .i64 0, .slice none 0 0, .slice none 0 0] 38)).heap[w.heap.size + 2]? = some (.cells #[.bool false, .int .i64 0, .slice none 0 0, .slice none 0 0] 38 (0, 0)) := alloc_at _ (by simp)
  have hb1 : Below w.heap.size w (((w.alloc (.cells #[.bool false, .int .i64 top, .slice a1 n c1, .slice a2 n c2] 38)).alloc (.cells #[.int .i64 0, .int .i64 lo, .slice aO nO cO, .int .i64 16777216, .int .i64 ly, .slice aY nY cY] 35)).alloc (.cells #[.bool false, .int .i64 0, .slice none 0 0, .slice none 0 0] 38)) := by (repeat (first | exact Below.refl _ _ | assumption | refine Below.drew ?_ | refine below_drewN ?_ _ | refine balloc ?_ _ | refine Below.setCell ?_ (by first | (simp; done) | (simp; omega) | omega) _ | refine bchain (by assumption) ?_))
  have q0 : (((w.alloc (.cells #[.bool false, .int .i64 top, .slice a1 n c1, .slice a2 n c2] 38)).alloc (.cells #[.int .i64 0, .int .i64 lo, .slice aO nO cO, .int .i64 16777216, .int .i64 ly, .slice aY nY cY] 35)).alloc (.cells #[.bool false, .int .i64 0, .slice none 0 0, .slice none 0 0] 38)).cell? ⟨w.heap.size, 0, none⟩ = some (.bool false) := by rw [cell_of_block kl]; rfl
  clear kl km kr
  go_enter Try.func58, Try.ntmps58
  go_wp2
  refine bodyPost_ret (v := .tuple #[.agg #[.bool false, .int .i64 top, .slice a1 n c1, .slice a2 n c2], .int .i64 9]) (by simp [results, Try.results58, go_sem]) rfl ?_
  exact HF.out _ (by (repeat (first | exact Below.refl _ _ | assumption | refine Below.drew ?_ | refine below_drewN ?_ _ | refine balloc ?_ _ | refine Below.setCell ?_ (by first | (simp; done) | (simp; omega) | omega) _ | refine bchain (by assumption) ?_)))
set_option maxRecDepth 100000 in
set_option maxHeartbeats 4000000 in
theorem rnote_yes {w : World} {top : Int} {nt : List (Int × Int)} {vA vW : Value} (h : LgAt w nt vA vW) {aO : Option Addr} {nO cO : Nat} {aY : Option Addr} {nY cY : Nat} {lo ly : Int} {wo wy : List Int} {rO rY : Option Nat} (hm : RMem w aO nO cO aY nY cY lo ly wo wy rO rY) (a : Int) (hn : nt.length ≤ 100000) :
    Calls Try.prog 58 #[lgV true top vA vW, mmV lo ly aO nO cO aY nY cY, .int .i64 a] w (LgNext w (if LE wo wy a = 0 then nt ++ [(a, LD wo wy a)] else nt) true top (LE wo wy a) vA vW) := by
  obtain ⟨i0, hi, hz0, hz1, hz2⟩ := info_parts int_info13
  obtain ⟨i1, hj, hy0, hy1, hy2⟩ := info_parts u64_info'
  have hml : maxLen = 9223372036854775807 := rfl
  have HF := Lib.hid (fun W (hb : Below w.heap.size w W) => LgNext.same (op := true) (top := top) (er := LE wo wy a) h hb)
  have HH := Lib.hid h
  have HU := Lib.hid (hm.ldU a)
  have HL := Lib.hid (fun W (H : Below w.heap.size w W) => rmload_any (hm.below H) a)
  obtain ⟨a1, c1, ea, _⟩ := row_form1 h.at_
  obtain ⟨a2, c2, ew, _⟩ := row_form1 h.wd
  subst ea ew
  obtain ⟨n, hnn⟩ : ∃ n, nt.length = n := ⟨_, rfl⟩
  have HN := Lib.hid hnn
  rw [hnn] at hn HF HH
  rw [hnn]
  obtain ⟨le, hle⟩ : ∃ e, LE wo wy a = e := ⟨_, rfl⟩
  obtain ⟨ld, hld⟩ : ∃ e, LD wo wy a = e := ⟨_, rfl⟩
  rw [hle] at HF HL
  rw [hld] at HL HU
  rw [hle, hld]
  obtain ⟨nt', hnt'⟩ : ∃ x, (if le = 0 then nt ++ [(a, ld)] else nt) = x := ⟨_, rfl⟩
  rw [hnt']
  have HNT := Lib.hid hnt'
  clear h hm hnn hle hld hnt'
  unfold lgV mmV
  unfold lgV at HF
  have kl : (((w.alloc (.cells #[.bool true, .int .i64 top, .slice a1 n c1, .slice a2 n c2] 38)).alloc (.cells #[.int .i64 0, .int .i64 lo, .slice aO nO cO, .int .i64 16777216, .int .i64 ly, .slice aY nY cY] 35)).alloc (.cells #[.bool false, .int .i64 0, .slice none 0 0, .slice none 0 0] 38)).heap[w.heap.size]? = some (.cells #[.bool true, .int .i64 top, .slice a1 n c1, .slice a2 n c2] 38 (0, 0)) := alloc_lt _ (alloc_lt _ (alloc_get _ _))
  have km : (((w.alloc (.cells #[.bool true, .int .i64 top, .slice a1 n c1, .slice a2 n c2] 38)).alloc (.cells #[.int .i64 0, .int .i64 lo, .slice aO nO cO, .int .i64 16777216, .int .i64 ly, .slice aY nY cY] 35)).alloc (.cells #[.bool false, .int .i64 0, .slice none 0 0, .slice none 0 0] 38)).heap[w.heap.size + 1]? = some (.cells #[.int .i64 0, .int .i64 lo, .slice aO nO cO, .int .i64 16777216, .int .i64 ly, .slice aY nY cY] 35 (0, 0)) := alloc_lt _ (alloc_at _ (by simp))
  have kr : (((w.alloc (.cells #[.bool true, .int .i64 top, .slice a1 n c1, .slice a2 n c2] 38)).alloc (.cells #[.int .i64 0, .int .i64 lo, .slice aO nO cO, .int .i64 16777216, .int .i64 ly, .slice aY nY cY] 35)).alloc (.cells #[.bool false, .int .i64 0, .slice none 0 0, .slice none 0 0] 38)).heap[w.heap.size + 2]? = some (.cells #[.bool false, .int .i64 0, .slice none 0 0, .slice none 0 0] 38 (0, 0)) := alloc_at _ (by simp)
  have hb1 : Below w.heap.size w (((w.alloc (.cells #[.bool true, .int .i64 top, .slice a1 n c1, .slice a2 n c2] 38)).alloc (.cells #[.int .i64 0, .int .i64 lo, .slice aO nO cO, .int .i64 16777216, .int .i64 ly, .slice aY nY cY] 35)).alloc (.cells #[.bool false, .int .i64 0, .slice none 0 0, .slice none 0 0] 38)) := by (repeat (first | exact Below.refl _ _ | assumption | refine Below.drew ?_ | refine below_drewN ?_ _ | refine balloc ?_ _ | refine Below.setCell ?_ (by first | (simp; done) | (simp; omega) | omega) _ | refine bchain (by assumption) ?_))
  have q0 : (((w.alloc (.cells #[.bool true, .int .i64 top, .slice a1 n c1, .slice a2 n c2] 38)).alloc (.cells #[.int .i64 0, .int .i64 lo, .slice aO nO cO, .int .i64 16777216, .int .i64 ly, .slice aY nY cY] 35)).alloc (.cells #[.bool false, .int .i64 0, .slice none 0 0, .slice none 0 0] 38)).cell? ⟨w.heap.size, 0, none⟩ = some (.bool true) := by rw [cell_of_block kl]; rfl
  have m0 : (((w.alloc (.cells #[.bool true, .int .i64 top, .slice a1 n c1, .slice a2 n c2] 38)).alloc (.cells #[.int .i64 0, .int .i64 lo, .slice aO nO cO, .int .i64 16777216, .int .i64 ly, .slice aY nY cY] 35)).alloc (.cells #[.bool false, .int .i64 0, .slice none 0 0, .slice none 0 0] 38)).cell? ⟨w.heap.size + 1, 0, none⟩ = some (.int .i64 0) := by rw [cell_of_block km]; rfl
  have m1 : (((w.alloc (.cells #[.bool true, .int .i64 top, .slice a1 n c1, .slice a2 n c2] 38)).alloc (.cells #[.int .i64 0, .int .i64 lo, .slice aO nO cO, .int .i64 16777216, .int .i64 ly, .slice aY nY cY] 35)).alloc (.cells #[.bool false, .int .i64 0, .slice none 0 0, .slice none 0 0] 38)).cell? ⟨w.heap.size + 1, 1, none⟩ = some (.int .i64 lo) := by rw [cell_of_block km]; rfl
  have m2 : (((w.alloc (.cells #[.bool true, .int .i64 top, .slice a1 n c1, .slice a2 n c2] 38)).alloc (.cells #[.int .i64 0, .int .i64 lo, .slice aO nO cO, .int .i64 16777216, .int .i64 ly, .slice aY nY cY] 35)).alloc (.cells #[.bool false, .int .i64 0, .slice none 0 0, .slice none 0 0] 38)).cell? ⟨w.heap.size + 1, 2, none⟩ = some (.slice aO nO cO) := by rw [cell_of_block km]; rfl
  have m3 : (((w.alloc (.cells #[.bool true, .int .i64 top, .slice a1 n c1, .slice a2 n c2] 38)).alloc (.cells #[.int .i64 0, .int .i64 lo, .slice aO nO cO, .int .i64 16777216, .int .i64 ly, .slice aY nY cY] 35)).alloc (.cells #[.bool false, .int .i64 0, .slice none 0 0, .slice none 0 0] 38)).cell? ⟨w.heap.size + 1, 3, none⟩ = some (.int .i64 16777216) := by rw [cell_of_block km]; rfl
  have m4 : (((w.alloc (.cells #[.bool true, .int .i64 top, .slice a1 n c1, .slice a2 n c2] 38)).alloc (.cells #[.int .i64 0, .int .i64 lo, .slice aO nO cO, .int .i64 16777216, .int .i64 ly, .slice aY nY cY] 35)).alloc (.cells #[.bool false, .int .i64 0, .slice none 0 0, .slice none 0 0] 38)).cell? ⟨w.heap.size + 1, 4, none⟩ = some (.int .i64 ly) := by rw [cell_of_block km]; rfl
  have m5 : (((w.alloc (.cells #[.bool true, .int .i64 top, .slice a1 n c1, .slice a2 n c2] 38)).alloc (.cells #[.int .i64 0, .int .i64 lo, .slice aO nO cO, .int .i64 16777216, .int .i64 ly, .slice aY nY cY] 35)).alloc (.cells #[.bool false, .int .i64 0, .slice none 0 0, .slice none 0 0] 38)).cell? ⟨w.heap.size + 1, 5, none⟩ = some (.slice aY nY cY) := by rw [cell_of_block km]; rfl
  have HKL := Lib.hid kl
  have HKR := Lib.hid kr
  clear kl km kr
  go_enter Try.func58, Try.ntmps58
  go_wp2_with fail
  refine (HL.out _ (by (repeat (first | exact Below.refl _ _ | assumption | refine Below.drew ?_ | refine below_drewN ?_ _ | refine balloc ?_ _ | refine Below.setCell ?_ (by first | (simp; done) | (simp; omega) | omega) _ | refine bchain (by assumption) ?_)))).mono ?_
  rintro e w2 ⟨rfl, hb2⟩
  have hb02 := bchain hb2 hb1
  have kl := bblock hb2 HKL.out
  have kr := bblock hb2 HKR.out
  have hzw2 : w.heap.size + 2 < w2.heap.size := (Array.getElem?_eq_some_iff.1 kr).1
  have l0 : w2.cell? ⟨w.heap.size, 0, none⟩ = some (.bool true) := by rw [cell_of_block kl]; rfl
  have l1 : w2.cell? ⟨w.heap.size, 1, none⟩ = some (.int .i64 top) := by rw [cell_of_block kl]; rfl
  have l2 : w2.cell? ⟨w.heap.size, 2, none⟩ = some (.slice a1 n c1) := by rw [cell_of_block kl]; rfl
  have l3 : w2.cell? ⟨w.heap.size, 3, none⟩ = some (.slice a2 n c2) := by rw [cell_of_block kl]; rfl
  by_cases h0 : le = 0
  · subst h0
    have hnA := (row_news (HN.out ▸ HH.out.at_) rfl).below hb02
    have HNA := Lib.hid hnA
    have hfA : (atCells nt).length = n := by unfold atCells; rw [List.length_map, HN.out]
    have hfW : (wdCells nt).length = n := by unfold wdCells; rw [List.length_map, HN.out]
    have l2' : (w2.alloc (.cells #[] 3)).cell? ⟨w.heap.size, 2, none⟩ = some (.slice a1 n c1) := bcellv (balloc (Below.refl _ _) _) l2
    have hzA : w.heap.size < w2.heap.size := by omega
    clear hnA
    go_upto_region 7 with (at_builtin; first
      | (refine wpList_app_a (W := w2) rfl _ _ 36 3 rfl i0 _ Try.underlying36 hi hz0 hz1 hz2 rfl rfl rfl rfl rfl hfA HNA.out (at_one nt) (by omega) ?_; intro aB cB w3 hown1 hup1 hvB)
      | (refine wpList_app_b (W := w2) (w3 := w3) rfl _ _ 36 3 rfl i0 _ Try.underlying36 hi hz0 hz1 hz2 rfl (y := .int .i64 a) rfl rfl hup1 hown1 hvB rfl rfl rfl (by omega) ?_; intro aC cC w4 hown2 hup2 hvC; have kl4 := bblock hup2 kl; have kr4 := bblock hup2 kr; have l24 : w4.cell? ⟨w.heap.size, 2, none⟩ = some (.slice a1 n c1) := (by rw [cell_of_block kl4]; rfl); have lf4 : ∀ i, w4.frozen? ⟨w.heap.size, i, none⟩ = false := frozen_of_block kl4))
    have hb04 := bchain hup2 hb02
    have kl5 : (w4.setCell ⟨w.heap.size, 2, none⟩ (.slice aC (n + 1) cC)).heap[w.heap.size]? = some (.cells #[.bool true, .int .i64 top, .slice aC (n + 1) cC, .slice a2 n c2] 38 (0, 0)) := block_set kl4
    have kr5 : (w4.setCell ⟨w.heap.size, 2, none⟩ (.slice aC (n + 1) cC)).heap[w.heap.size + 2]? = some (.cells #[.bool false, .int .i64 0, .slice none 0 0, .slice none 0 0] 38 (0, 0)) := set_other kr4 (by omega)
    have hb05 : Below w.heap.size w (w4.setCell ⟨w.heap.size, 2, none⟩ (.slice aC (n + 1) cC)) := hb04.setCell (p := ⟨w.heap.size, 2, none⟩) (Nat.le_refl _) _
    have hownC : (w4.setCell ⟨w.heap.size, 2, none⟩ (.slice aC (n + 1) cC)).ownsRow 0 3 1 (.slice aC (n + 1) cC) (n + 1) (atCells nt ++ [.int .i64 a]) := nrow_keep hown2 (fun G o e ho => set_other ho (by have := hvC G e; omega))
    clear hown1 hup1 hvB hown2 hup2 kl4 kr4 l24 lf4 hb04 l0 l1 l2 l3 l2' kl kr hb2 HNA hfA
    obtain ⟨w5, hw5⟩ : ∃ W, w4.setCell ⟨w.heap.size, 2, none⟩ (.slice aC (n + 1) cC) = W := ⟨_, rfl⟩
    rw [hw5] at kl5 kr5 hb05 hownC ⊢
    clear hw5
    have hz5 : w.heap.size + 2 < w5.heap.size := (Array.getElem?_eq_some_iff.1 kr5).1
    have hnW := (row_news (HN.out ▸ HH.out.wd) rfl).below hb05
    have HNW := Lib.hid hnW
    have l35 : (w5.alloc (.cells #[] 43)).cell? ⟨w.heap.size, 3, none⟩ = some (.slice a2 n c2) := bcellv (balloc (Below.refl _ _) _) (by rw [cell_of_block kl5]; rfl)
    clear hnW
    go_upto_region 8 with (at_builtin; first
      | (refine wpList_app_a (W := w5) rfl _ _ 22 43 rfl i1 _ Try.underlying22 hj hy0 hy1 hy2 rfl rfl rfl rfl rfl hfW HNW.out (wd_one nt) (by omega) ?_; intro aB cB w6 hown1 hup1 hvB)
      | (refine wpList_app_b (W := w5) (w3 := w6) rfl _ _ 22 43 rfl i1 _ Try.underlying22 hj hy0 hy1 hy2 rfl (y := .int .u64 ld) rfl rfl hup1 hown1 hvB rfl rfl rfl (by omega) ?_; intro aE cE w8 hown2 hup2 hvE; have kl8 := bblock hup2 kl5; have kr8 := bblock hup2 kr5; have l38 : w8.cell? ⟨w.heap.size, 3, none⟩ = some (.slice a2 n c2) := (by rw [cell_of_block kl8]; rfl); have lf8 : ∀ i, w8.frozen? ⟨w.heap.size, i, none⟩ = false := frozen_of_block kl8))
    have hb08 := bchain hup2 hb05
    have kl9 : (w8.setCell ⟨w.heap.size, 3, none⟩ (.slice aE (n + 1) cE)).heap[w.heap.size]? = some (.cells #[.bool true, .int .i64 top, .slice aC (n + 1) cC, .slice aE (n + 1) cE] 38 (0, 0)) := block_set kl8
    have kr9 : (w8.setCell ⟨w.heap.size, 3, none⟩ (.slice aE (n + 1) cE)).heap[w.heap.size + 2]? = some (.cells #[.bool false, .int .i64 0, .slice none 0 0, .slice none 0 0] 38 (0, 0)) := set_other kr8 (by omega)
    have hb09 : Below w.heap.size w (w8.setCell ⟨w.heap.size, 3, none⟩ (.slice aE (n + 1) cE)) := hb08.setCell (p := ⟨w.heap.size, 3, none⟩) (Nat.le_refl _) _
    have hown9C : (w8.setCell ⟨w.heap.size, 3, none⟩ (.slice aE (n + 1) cE)).ownsRow 0 3 1 (.slice aC (n + 1) cC) (n + 1) (atCells nt ++ [.int .i64 a]) := nrow_keep hownC (fun G o e ho => set_other (bblock hup2 ho) (by have := hvC G e; omega))
    have hown9E : (w8.setCell ⟨w.heap.size, 3, none⟩ (.slice aE (n + 1) cE)).ownsRow 0 43 1 (.slice aE (n + 1) cE) (n + 1) (wdCells nt ++ [.int .u64 ld]) := nrow_keep hown2 (fun G o e ho => set_other ho (by have := hvE G e; omega))
    clear hown1 hup1 hvB hown2 hup2 kl8 kr8 l38 lf8 hb08 l35 kl5 kr5 HNW hfW hownC
    obtain ⟨w9, hw9⟩ : ∃ W, w8.setCell ⟨w.heap.size, 3, none⟩ (.slice aE (n + 1) cE) = W := ⟨_, rfl⟩
    rw [hw9] at kl9 kr9 hb09 hown9C hown9E ⊢
    clear hw9
    have l0 : w9.cell? ⟨w.heap.size, 0, none⟩ = some (.bool true) := by rw [cell_of_block kl9]; rfl
    have l1 : w9.cell? ⟨w.heap.size, 1, none⟩ = some (.int .i64 top) := by rw [cell_of_block kl9]; rfl
    have l2 : w9.cell? ⟨w.heap.size, 2, none⟩ = some (.slice aC (n + 1) cC) := by rw [cell_of_block kl9]; rfl
    have l3 : w9.cell? ⟨w.heap.size, 3, none⟩ = some (.slice aE (n + 1) cE) := by rw [cell_of_block kl9]; rfl
    have r0 : w9.cell? ⟨w.heap.size + 2, 0, none⟩ = some (.bool false) := by rw [cell_of_block kr9]; rfl
    have r1 : w9.cell? ⟨w.heap.size + 2, 1, none⟩ = some (.int .i64 0) := by rw [cell_of_block kr9]; rfl
    have r2 : w9.cell? ⟨w.heap.size + 2, 2, none⟩ = some (.slice none 0 0) := by rw [cell_of_block kr9]; rfl
    have r3 : w9.cell? ⟨w.heap.size + 2, 3, none⟩ = some (.slice none 0 0) := by rw [cell_of_block kr9]; rfl
    have rf : ∀ i, w9.frozen? ⟨w.heap.size + 2, i, none⟩ = false := frozen_of_block kr9
    have hlg : LgAt w9 (nt ++ [(a, ld)]) (.slice aC (n + 1) cC) (.slice aE (n + 1) cE) := ⟨by unfold atCells at *; rw [List.length_append, HN.out, List.map_append]; exact hown9C, by unfold wdCells at *; rw [List.length_append, HN.out, List.map_append]; exact hown9E, fun x hx => by
      rcases List.mem_append.1 hx with hx | hx
      · exact HH.out.wf x hx
      · rw [List.mem_singleton.1 hx]; exact HU.out⟩
    have HLG := Lib.hid hlg
    have HVC := Lib.hid hvC
    have HVE := Lib.hid hvE
    have HB9 := Lib.hid hb09
    have HZ5 := Lib.hid hz5
    have HZ2 := Lib.hid hzw2
    clear hlg hvC hvE kl9 kr9 hown9C hown9E hz5 hzw2
    go_wp2
    refine bodyPost_ret (v := .tuple #[.agg #[.bool true, .int .i64 top, .slice aC (n + 1) cC, .slice aE (n + 1) cE], .int .i64 0]) (by simp [results, Try.results58, go_sem, r0, r1, r2, r3, rf]) rfl ?_
    have e0 : nt ++ [(a, ld)] = nt' := by simpa using HNT.out
    subst e0
    have hb9 := HB9.out
    refine ⟨_, _, rfl, HLG.out.mods (S := fun k => k = w.heap.size + 1 + 1) ?_ (fun G e e' => ?_) (fun G e e' => ?_), fun G e => .inr ?_, fun G e => .inr ?_, ?_⟩
    · exact four_mods
    · have := HVC.out G e; have := HZ2.out; omega
    · have := HVE.out G e; have := HZ5.out; omega
    · have := HVC.out G e; have := HZ2.out; omega
    · have := HVE.out G e; have := HZ5.out; omega
    · (repeat (first | exact Below.refl _ _ | assumption | refine Below.drew ?_ | refine below_drewN ?_ _ | refine balloc ?_ _ | refine Below.setCell ?_ (by first | (simp; done) | (simp; omega) | omega) _ | refine bchain (by assumption) ?_))
  · have hle : (le != 0) = true := by simp [h0]
    have r0 : w2.cell? ⟨w.heap.size + 2, 0, none⟩ = some (.bool false) := by rw [cell_of_block kr]; rfl
    have r1 : w2.cell? ⟨w.heap.size + 2, 1, none⟩ = some (.int .i64 0) := by rw [cell_of_block kr]; rfl
    have r2 : w2.cell? ⟨w.heap.size + 2, 2, none⟩ = some (.slice none 0 0) := by rw [cell_of_block kr]; rfl
    have r3 : w2.cell? ⟨w.heap.size + 2, 3, none⟩ = some (.slice none 0 0) := by rw [cell_of_block kr]; rfl
    have rf : ∀ i, w2.frozen? ⟨w.heap.size + 2, i, none⟩ = false := frozen_of_block kr
    clear kl kr hb2
    go_wp2
    refine bodyPost_ret (v := .tuple #[.agg #[.bool true, .int .i64 top, .slice a1 n c1, .slice a2 n c2], .int .i64 le]) (by simp [results, Try.results58, go_sem, r0, r1, r2, r3, rf]) rfl ?_
    have e0 := HNT.out
    rw [if_neg h0] at e0
    subst e0
    exact HF.out _ (by (repeat (first | exact Below.refl _ _ | assumption | refine Below.drew ?_ | refine below_drewN ?_ _ | refine balloc ?_ _ | refine Below.setCell ?_ (by first | (simp; done) | (simp; omega) | omega) _ | refine bchain (by assumption) ?_)))
theorem rnote_any {w : World} {op : Bool} {top : Int} {nt : List (Int × Int)} {vA vW : Value} (h : LgAt w nt vA vW) {aO : Option Addr} {nO cO : Nat} {aY : Option Addr} {nY cY : Nat} {lo ly : Int} {wo wy : List Int} {rO rY : Option Nat} (hm : RMem w aO nO cO aY nY cY lo ly wo wy rO rY) (a : Int) (hn : nt.length ≤ 100000) :
    Calls Try.prog 58 #[lgV op top vA vW, mmV lo ly aO nO cO aY nY cY, .int .i64 a] w (LgNext w (ntS ⟨wo, wy, op, top, nt⟩ a).nt op top (ntE ⟨wo, wy, op, top, nt⟩ a) vA vW) := by
  cases op
  · exact rnote_no h hm a
  · have e1 : ntE ⟨wo, wy, true, top, nt⟩ a = LE wo wy a := rfl
    have e2 : (ntS ⟨wo, wy, true, top, nt⟩ a).nt = if LE wo wy a = 0 then nt ++ [(a, LD wo wy a)] else nt := by
      unfold ntS
      dsimp only
      rw [if_pos rfl]
      split <;> rfl
    rw [e1, e2]
    exact rnote_yes h hm a hn
end Go.Proofs.Ytgipmcmmicppkaa
