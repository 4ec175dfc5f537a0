/-
  distance.build: a graph with its predecessors, its successors and its roots.
-/
import Derived.Test.YtbkfjhbebhnijaaDsJ
import Derived.Deep.Cut
import Derived.Deep.RegionHeld3
import Derived.Deep.AppendLies
namespace Go.Proofs.Ytbkfjhbebhnijaa
open Go.RowKit Go.Maps Go.WideElems Go.ChangeShapes Go.MapKept
set_option linter.unusedSimpArgs false
set_option linter.unusedVariables false

/-- A graph that was built: block bF (predecessors), block bT (successors), block bR (roots). -/
structure Gr (w : World) (B bF bT bR : Nat) (F T : Int → List Int) (S : List Int) : Prop where
  two : ∃ (n1 n2 : Nat) (D1 D2 : DataW Unit), Two w B bF bT n1 n2 D1 D2 ∧ GrpD D1 F ∧ GrpD D2 T ∧ n1 ≤ 1000000 ∧ n2 ≤ 1000000
  seen : SeenAt w bR S
  ne : bR ≠ bF ∧ bR ≠ bT ∧ bR < B
def BuildP (w : World) (E : List (Int × Int)) (R : List Int) (n : Nat) (e : Ending) (w' : World) : Prop :=
  ∃ (B bF bT bR : Nat) (S : List Int), e = .returned (.agg #[.int .i64 (vtN E R n), .map (some bF), .map (some bT), .map (some bR)]) ∧ Gr w' B bF bT bR (prd E) (suc E) S ∧ (∀ x, x ∈ S ↔ rtB R x = true) ∧ S.length ≤ R.length ∧ Below w.heap.size w w'
structure GS (w0 w : World) (B N bF bT bR pg : Nat) (E' : List (Int × Int)) (m : Int) (S : List Int) : Prop where
  two : ∃ (n1 n2 : Nat) (D1 D2 : DataW Unit), Two w B bF bT n1 n2 D1 D2 ∧ IsMap D1 ∧ IsMap D2 ∧ GrpD D1 (prd E') ∧ GrpD D2 (suc E') ∧ n1 ≤ E'.length ∧ n2 ≤ E'.length
  seen : SeenAt w bR S
  kg : w.heap[pg]? = some (.cells #[.int .i64 m, .map (some bF), .map (some bT), .map (some bR)] 58 (0, 0))
  k0 : w.heap[N]? = some (.cells #[.int .i64 0, .map none, .map none, .map none] 58 (0, 0))
  bel : Below N w0 w
  bl : N < bF ∧ bF < bT ∧ bT < bR ∧ bR < pg ∧ pg < B ∧ B = pg + 1
theorem row_ty_ne {w : World} {B k sz n : Nat} {e T : TypeId} {v : Value} {xs : List Value} {cs : Array Value} (h : w.ownsRow B e sz v n xs) (hk : w.heap[k]? = some (.cells cs T (0, 0))) (hT : T ≠ e) : v.ownBlock ≠ some k := by
  obtain ⟨_, h2⟩ := h
  rcases h2 with ⟨rfl, _⟩ | ⟨g, cap, cur, rfl, _, hh, _⟩
  · simp [Value.ownBlock]
  · intro e
    simp only [Value.ownBlock, Option.some.injEq] at e
    subst e
    rw [hh] at hk
    simp only [Option.some.injEq, Obj.cells.injEq] at hk
    exact hT hk.2.1.symm
theorem set_other {w : World} {k j i : Nat} {v : Value} {o : Obj} (h : w.heap[k]? = some o) (hn : k ≠ j) : (w.setCell ⟨j, i, none⟩ v).heap[k]? = some o := by
  simp [World.setCell, Array.getElem?_modify, Ne.symm hn, h]
theorem block_set {w : World} {k : Nat} {cs : Array Value} {T : TypeId} {i : Nat} {v : Value} (h : w.heap[k]? = some (.cells cs T (0, 0))) : (w.setCell ⟨k, i, none⟩ v).heap[k]? = some (.cells (cs.set! i v) T (0, 0)) := by
  simp [World.setCell, Array.getElem?_modify, h]
theorem four_set {w : World} {k : Nat} {T : TypeId} {x0 x1 x2 x3 b0 b1 b2 b3 : Value} (h : w.heap[k]? = some (.cells #[x0, x1, x2, x3] T (0, 0))) : ((((w.setCell ⟨k, 0, none⟩ b0).setCell ⟨k, 1, none⟩ b1).setCell ⟨k, 2, none⟩ b2).setCell ⟨k, 3, none⟩ b3).heap[k]? = some (.cells #[b0, b1, b2, b3] T (0, 0)) := by
  have h0 : (w.setCell ⟨k, 0, none⟩ b0).heap[k]? = some (.cells #[b0, x1, x2, x3] T (0, 0)) := block_set h
  have h1 : ((w.setCell ⟨k, 0, none⟩ b0).setCell ⟨k, 1, none⟩ b1).heap[k]? = some (.cells #[b0, b1, x2, x3] T (0, 0)) := block_set h0
  have h2 : (((w.setCell ⟨k, 0, none⟩ b0).setCell ⟨k, 1, none⟩ b1).setCell ⟨k, 2, none⟩ b2).heap[k]? = some (.cells #[b0, b1, b2, x3] T (0, 0)) := block_set h1
  exact block_set h2
theorem grown_set {w : World} {b i : Nat} {v : Value} : w.grownBy (w.setCell ⟨b, i, none⟩ v) (some b) := ⟨rfl, rfl, rfl, by simp, fun k _ hk => Below.heap_setCell w ⟨b, i, none⟩ v k (fun e => hk (by rw [e]))⟩
theorem gs_start (w : World) {bF bT bR pg : Nat} {n : Int} (h1 : w.heap.size + 1 = bF) (h2 : bF + 1 = bT) (h3 : bT + 1 = bR) (h4 : bR + 1 = pg) : GS w (((((w.alloc (.cells #[.int .i64 0, .map none, .map none, .map none] 58)).alloc (.map #[] 0)).alloc (.map #[] 0)).alloc (.map #[] 0)).alloc (.cells #[.int .i64 n, .map (some bF), .map (some bT), .map (some bR)] 58)) (pg + 1) w.heap.size bF bT bR pg [] n [] := by
  obtain ⟨W0, hW0⟩ : ∃ W, w.alloc (.cells #[.int .i64 0, .map none, .map none, .map none] 58) = W := ⟨_, rfl⟩
  have z0 : W0.heap.size = bF := by rw [← hW0, World.size_alloc]; exact h1
  have k0 : W0.heap[w.heap.size]? = some (.cells #[.int .i64 0, .map none, .map none, .map none] 58 (0, 0)) := by rw [← hW0]; exact alloc_get _ _
  have b0 : Below w.heap.size w W0 := by rw [← hW0]; exact balloc (Below.refl _ _) _
  rw [hW0]
  clear hW0
  have z1 : (W0.alloc (.map #[] 0)).heap.size = bT := by rw [World.size_alloc, z0]; exact h2
  have z2 : ((W0.alloc (.map #[] 0)).alloc (.map #[] 0)).heap.size = bR := by rw [World.size_alloc, z1]; exact h3
  have z3 : (((W0.alloc (.map #[] 0)).alloc (.map #[] 0)).alloc (.map #[] 0)).heap.size = pg := by rw [World.size_alloc, z2]; exact h4
  have g1 := groups_empty W0 (B := pg + 1) (by omega)
  have g2 := groups_empty (W0.alloc (.map #[] 0)) (B := pg + 1) (by omega)
  rw [z0] at g1
  rw [z1] at g2
  have s1 := World.Shuns_made W0 (fun _ => True)
  have s2 := World.Shuns_made (W0.alloc (.map #[] 0)) (fun _ => True)
  rw [z0] at s1
  rw [z1] at s2
  have gr := World.grownBy_alloc (W0.alloc (.map #[] 0)) (.map #[] 0) none
  have t1 : Two ((W0.alloc (.map #[] 0)).alloc (.map #[] 0)) (pg + 1) bF bT 0 0 (.map []) (.map []) :=
    ⟨g1.kept gr (by simp) (g1.rowsAbove (fun j hj => by cases hj)), g2, ⟨_, _, s1.kept gr (groups_lt g1).1 (by simp), s2, fun _ => .inl trivial⟩, by omega⟩
  have t2 := (t1.kept (World.grownBy_alloc _ (.map #[] 0) none) (fun j hj => by cases hj)).kept (World.grownBy_alloc _ (.cells #[.int .i64 n, .map (some bF), .map (some bT), .map (some bR)] 58) none) (fun j hj => by cases hj)
  have sn := seen_made ((W0.alloc (.map #[] 0)).alloc (.map #[] 0))
  rw [z2] at sn
  have kg := alloc_get (((W0.alloc (.map #[] 0)).alloc (.map #[] 0)).alloc (.map #[] 0)) (.cells #[.int .i64 n, .map (some bF), .map (some bT), .map (some bR)] 58)
  rw [z3] at kg
  exact ⟨⟨0, 0, _, _, t2, isMap_empty, isMap_empty, grpD_empty, grpD_empty, Nat.le_refl _, Nat.le_refl _⟩, sn.kept (World.grownBy_alloc _ _ none) (by simp), kg, alloc_lt _ (alloc_lt _ (alloc_lt _ (alloc_lt _ k0))), balloc (balloc (balloc (balloc b0 _) _) _) _, by omega⟩
theorem prd_snoc {E : List (Int × Int)} {t : Nat} {e : Int × Int} (h : E[t]? = some e) (x : Int) : prd (E.take (t + 1)) x = prd (E.take t) x ++ (if edB e && e.2 == x then [e.1] else []) := by
  obtain ⟨h1, h2⟩ := List.getElem?_eq_some_iff.1 h
  unfold prd
  rw [List.take_succ_eq_append_getElem h1, h2, List.filter_append, List.map_append]
  congr 1
  by_cases hc : (edB e && e.2 == x) = true
  · rw [List.filter_cons_of_pos (by simpa using hc), if_pos hc]; rfl
  · rw [List.filter_cons_of_neg (by simpa using hc), if_neg hc]; rfl
theorem suc_snoc {E : List (Int × Int)} {t : Nat} {e : Int × Int} (h : E[t]? = some e) (x : Int) : suc (E.take (t + 1)) x = suc (E.take t) x ++ (if edB e && e.1 == x then [e.2] else []) := by
  obtain ⟨h1, h2⟩ := List.getElem?_eq_some_iff.1 h
  unfold suc
  rw [List.take_succ_eq_append_getElem h1, h2, List.filter_append, List.map_append]
  congr 1
  by_cases hc : (edB e && e.1 == x) = true
  · rw [List.filter_cons_of_pos (by simpa using hc), if_pos hc]; rfl
  · rw [List.filter_cons_of_neg (by simpa using hc), if_neg hc]; rfl
theorem filter_snoc {α : Type} {f : α → Bool} {l : List α} {t : Nat} {x : α} (h : l[t]? = some x) : (l.take (t + 1)).filter f = (l.take t).filter f ++ (if f x then [x] else []) := by
  obtain ⟨h1, h2⟩ := List.getElem?_eq_some_iff.1 h
  rw [List.take_succ_eq_append_getElem h1, h2, List.filter_append]
  congr 1
  by_cases hc : f x = true
  · rw [List.filter_cons_of_pos hc, if_pos hc]; rfl
  · rw [List.filter_cons_of_neg hc, if_neg hc]; rfl
/-- An edge that does not count. -/
theorem GS.skip {w0 w : World} {B N bF bT bR pg : Nat} {E : List (Int × Int)} {n : Int} {S : List Int} {t : Nat} {e : Int × Int} (h : GS w0 w B N bF bT bR pg (E.take t) ((E.take t).foldl vtE n) S) (hx : E[t]? = some e) (he : edB e = false) : GS w0 w B N bF bT bR pg (E.take (t + 1)) ((E.take (t + 1)).foldl vtE n) S := by
  obtain ⟨n1, n2, D1, D2, h1, h2, h3, h4, h5, h6, h7⟩ := h.two
  have hl : (E.take t).length ≤ (E.take (t + 1)).length := by simp only [List.length_take]; omega
  have hm : (E.take (t + 1)).foldl vtE n = (E.take t).foldl vtE n := by
    rw [fold_snoc hx]
    unfold vtE
    unfold edB at he
    rw [if_neg (by simp [he])]
  rw [hm]
  have hp : prd (E.take (t + 1)) = prd (E.take t) := by funext x; rw [prd_snoc hx, he]; simp
  have hs : suc (E.take (t + 1)) = suc (E.take t) := by funext x; rw [suc_snoc hx, he]; simp
  exact ⟨⟨n1, n2, D1, D2, h1, h2, h3, by rw [hp]; exact h4, by rw [hs]; exact h5, Nat.le_trans h6 hl, Nat.le_trans h7 hl⟩, h.seen, h.kg, h.k0, h.bel, h.bl⟩
/-- Over what makes memory alone. -/
theorem GS.below {w0 w w' : World} {B N bF bT bR pg : Nat} {E' : List (Int × Int)} {m : Int} {S : List Int} (h : GS w0 w B N bF bT bR pg E' m S) (hN : N ≤ w.heap.size) (hb : Below w.heap.size w w') : GS w0 w' B N bF bT bR pg E' m S := by
  obtain ⟨n1, n2, D1, D2, h1, h2⟩ := h.two
  exact ⟨⟨n1, n2, D1, D2, h1.kept (grown_of hb) (fun j hj => by cases hj), h2⟩, h.seen.below hb, bblock hb h.kg, bblock hb h.k0, h.bel.trans (hb.mono hN), h.bl⟩
set_option maxRecDepth 100000 in
set_option maxHeartbeats 8000000 in
theorem build_any {w : World} {ve vr : Value} {E : List (Int × Int)} {R : List Int} (he : EdgV w ve E) (hr : IntsV w vr R) (n : Nat) (hn : n ≤ 10001) (hEl : E.length ≤ 1000) (hRl : R.length ≤ 1000) :
    Calls Try.prog 31 #[ve, vr, .int .i64 (n : Int)] w (BuildP w E R n) := by
  obtain ⟨a1, c1, rfl, n1, m1, r1⟩ := he
  obtain ⟨a2, c2, rfl, n2, m2, r2⟩ := hr
  have hd1 : ((n : Int)) ≤ 10001 := by omega
  have hd2 : ¬ (10001 : Int) < (n : Int) := by omega
  have hmm := @run_makeMap Try.prog
  go_enter Try.func31, Try.ntmps31
  go_upto_region 2 with fail
  have hG := gs_start w (n := (n : Int)) rfl rfl rfl rfl
  obtain ⟨bF, hF⟩ : ∃ b, w.heap.size + 1 = b := ⟨_, rfl⟩
  rw [hF] at hG ⊢
  obtain ⟨bT, hT⟩ : ∃ b, bF + 1 = b := ⟨_, rfl⟩
  rw [hT] at hG ⊢
  obtain ⟨bR, hR⟩ : ∃ b, bT + 1 = b := ⟨_, rfl⟩
  rw [hR] at hG ⊢
  obtain ⟨pg, hP⟩ : ∃ b, bR + 1 = b := ⟨_, rfl⟩
  rw [hP] at hG ⊢
  obtain ⟨w1, hw1⟩ : ∃ W, (((((w.alloc (.cells #[.int .i64 0, .map none, .map none, .map none] 58)).alloc (.map #[] 0)).alloc (.map #[] 0)).alloc (.map #[] 0)).alloc (.cells #[.int .i64 n, .map (some bF), .map (some bT), .map (some bR)] 58)) = W := ⟨_, rfl⟩
  rw [hw1] at hG ⊢
  obtain ⟨B, hB⟩ : ∃ B, pg + 1 = B := ⟨_, rfl⟩
  rw [hB] at hG
  clear hw1 hmm hd1 hd2
  have rE := fun t (ht : t < E.length) => EdgV.get r1 ht
  have RE := Lib.hid rE
  have rR := fun t (ht : t < R.length) => IntsV.get r2 ht
  have RR := Lib.hid rR
  have HE := Lib.hid (rfl : E.length = E.length)
  clear r1 r2 rE rR
  obtain ⟨ne, hne⟩ : ∃ k, E.length = k := ⟨_, rfl⟩
  obtain ⟨nr, hnr⟩ : ∃ k, R.length = k := ⟨_, rfl⟩
  rw [hne] at n1 hEl RE ⊢
  rw [hnr] at n2 hRl RR ⊢
  have HNE := Lib.hid hne
  have HNR := Lib.hid hnr
  clear hne hnr HE
  go_wp2
  go_loopw [20] (fun i wr => ∃ t : Nat, t ≤ ne ∧ i = .int .i64 t ∧ GS w wr B w.heap.size bF bT bR pg (E.take t) ((E.take t).foldl vtE (n : Int)) []) (fun i _ => ne - (intOf i).toNat)
  case atStart => exact ⟨0, Nat.zero_le _, rfl, hG⟩
  case round =>
    clear hG
    obtain ⟨t, ht, rfl, hG⟩ := hrel
    by_cases hlt : t < ne
    · obtain ⟨b1, f1, p, q, rfl, hx, q1, q2⟩ := RE.out t hlt
      have hNs : w.heap.size ≤ wr.heap.size := hG.bel.size
      have hpw : pg < wr.heap.size := (Array.getElem?_eq_some_iff.1 hG.kg).1
      have q1 := (hG.bel.cell (World.block_lt_of_cell? _ _ q1)).trans q1
      have q2 := (hG.bel.cell (World.block_lt_of_cell? _ _ q2)).trans q2
      have s1 : ((t : Int)).toNat = t := by omega
      have HX := Lib.hid hx
      have hvp := fun W => vertex_any p W
      have hvq := fun W => vertex_any q W
      clear RE RR hx
      go_wp2_with fail
      refine (hvp _).mono ?_
      rintro e w2 ⟨rfl, hb2⟩
      have hG2 := hG.below hNs (show Below wr.heap.size wr w2 from by (repeat (first | exact Below.refl _ _ | assumption | refine Below.drew ?_ | refine below_drewN ?_ _ | refine balloc ?_ _ | refine Below.setCell ?_ (by first | (simp; done) | (simp; omega) | omega) _ | refine bchain (by assumption) ?_)))
      have kx : w2.heap[wr.heap.size]? = some (.cells #[.int .i64 p, .int .i64 q] 34 (0, 0)) := bblock hb2 (alloc_get _ _)
      have hNs2 : w.heap.size ≤ w2.heap.size := hG2.bel.size
      have hz2 : wr.heap.size < w2.heap.size := (Array.getElem?_eq_some_iff.1 kx).1
      clear hG hb2 hvp q1 q2
      have kx_0 : w2.cell? ⟨wr.heap.size, 0, none⟩ = some (.int .i64 p) := by rw [cell_of_block kx]; rfl
      have kx_1 : w2.cell? ⟨wr.heap.size, 1, none⟩ = some (.int .i64 q) := by rw [cell_of_block kx]; rfl
      cases hp : vB p
      · have hE' := hG2.skip HX.out (show edB (p, q) = false by unfold edB; simp [hp])
        clear hG2 hvq
        go_wp2
        go_roundw
        case rel => exact ⟨t + 1, by omega, by go_num, hE'⟩
        case measure => simp [intOf]; omega
      · go_wp2_with fail
        refine (hvq _).mono ?_
        rintro e w3 ⟨rfl, hb3⟩
        have hG3 := hG2.below hNs2 (show Below w2.heap.size w2 w3 from by (repeat (first | exact Below.refl _ _ | assumption | refine Below.drew ?_ | refine below_drewN ?_ _ | refine balloc ?_ _ | refine Below.setCell ?_ (by first | (simp; done) | (simp; omega) | omega) _ | refine bchain (by assumption) ?_)))
        have hNs3 : w.heap.size ≤ w3.heap.size := hG3.bel.size
        have kx := bblock hb3 kx
        have hz3 : wr.heap.size < w3.heap.size := (Array.getElem?_eq_some_iff.1 kx).1
        clear hG2 hb3 hvq kx_0 kx_1
        have kx_0 : w3.cell? ⟨wr.heap.size, 0, none⟩ = some (.int .i64 p) := by rw [cell_of_block kx]; rfl
        have kx_1 : w3.cell? ⟨wr.heap.size, 1, none⟩ = some (.int .i64 q) := by rw [cell_of_block kx]; rfl
        cases hq : vB q
        · have hE' := hG3.skip HX.out (show edB (p, q) = false by unfold edB; simp [hq])
          clear hG3
          go_wp2
          go_roundw
          case rel => exact ⟨t + 1, by omega, by go_num, hE'⟩
          case measure => simp [intOf]; omega
        · have hp0 := vB_iff.1 hp
          have hq0 := vB_iff.1 hq
          have s2 : wrap64 (p + 1) = p + 1 := IntWalk.wrap64_in _ (by omega)
          have s3 : wrap64 (q + 1) = q + 1 := IntWalk.wrap64_in _ (by omega)
          have s4 : IntKind.i64.wrap (p + 1) = p + 1 := IntWalk.i64_in _ (by omega)
          have s5 : IntKind.i64.wrap (q + 1) = q + 1 := IntWalk.i64_in _ (by omega)
          have HS := Lib.hid (fold_snoc (f := vtE) HX.out (n : Int))
          have hed : edB (p, q) = true := by unfold edB; simp [hp, hq]
          have HV := Lib.hid (fun m0 : Int => show vtE m0 (p, q) = max (max m0 (p + 1)) (q + 1) by unfold vtE; simp [hp, hq])
          have HED := Lib.hid hed
          obtain ⟨i0, hi, hiz0, hiz1, hiz2⟩ := info_parts int31_info
          have hml : maxLen = 9223372036854775807 := rfl
          obtain ⟨n1, n2, D1, D2, hTw, hI1, hI2, hD1, hD2, hn1, hn2⟩ := hG3.two
          have kg := hG3.kg
          generalize (E.take t).foldl vtE (n : Int) = m0 at *
          have kg_0 : w3.cell? ⟨pg, 0, none⟩ = some (.int .i64 m0) := by rw [cell_of_block kg]; rfl
          have kg_f : ∀ i, w3.frozen? ⟨pg, i, none⟩ = false := frozen_of_block kg
          have hzg : pg < w3.heap.size := (Array.getElem?_eq_some_iff.1 kg).1
          clear hp hq hed
          go_upto_region 7 with fail
          have hz : (if (if m0 < p + 1 then p + 1 else m0) < q + 1 then q + 1 else if m0 < p + 1 then p + 1 else m0) = max (max m0 (p + 1)) (q + 1) := by (repeat' split) <;> omega
          rw [hz, ← HV.out m0]
          generalize vtE m0 (p, q) = z at *
          clear hz HV
          have hbl := hG3.bl
          obtain ⟨w4, hw4⟩ : ∃ W, w3.setCell ⟨pg, 0, none⟩ (.int .i64 z) = W := ⟨_, rfl⟩
          have hgs : w3.grownBy w4 (some pg) := by rw [← hw4]; exact grown_set
          have hTw := hTw.kept hgs (fun j hj => by cases hj; omega)
          have hse := hG3.seen.kept hgs (by simp; omega)
          have kg : w4.heap[pg]? = some (.cells #[.int .i64 z, .map (some bF), .map (some bT), .map (some bR)] 58 (0, 0)) := by rw [← hw4]; exact block_set kg
          have kx : w4.heap[wr.heap.size]? = _ := (hgs.block _ hz3 (by simp; omega)).trans kx
          have hb4 : Below w.heap.size w w4 := hG3.bel.grown hgs hNs3 (fun k e => by cases e; omega)
          have k0 : w4.heap[w.heap.size]? = _ := (hgs.block _ (by omega) (by simp; omega)).trans hG3.k0
          have hz4 : wr.heap.size < w4.heap.size := (Array.getElem?_eq_some_iff.1 kx).1
          rw [hw4]
          clear hw4 hgs kg_0 kg_f hG3 kx_0 kx_1 hz3 hz2 hNs2
          have hwq : (Lit.int .i64 q).wf = true := wf_i64 (by omega)
          have hwp : (Lit.int .i64 p).wf = true := wf_i64 (by omega)
          have hlk := HNE.out
          have hl1 : (E.take t).length = t := by rw [List.length_take]; omega
          rw [hl1] at hn1 hn2
          have hBs : B ≤ w4.heap.size := by omega
          clear hlk hl1
          obtain ⟨u, hlook, hoi, hzl, hgrow⟩ := hTw.grow hI1 hD1 (by unfold maxLen; omega) hwq
          have hLA : (Instr.lookup 55 (.map (some bF)) (.int .i64 q) false).run Try.prog w4.drew = .ok u w4.drew := hlook w4.drew rfl
          have hLB : ∀ o, (Instr.lookup 55 (.map (some bF)) (.int .i64 q) false).run Try.prog (w4.alloc o).drew = .ok u (w4.alloc o).drew := fun o => hlook _ (Below.heap_alloc w4 o _ (groups_lt hTw.g1).1)
          have kg_m : w4.cell? ⟨pg, 1, none⟩ = some (.map (some bF)) := by rw [cell_of_block kg]; rfl
          have kx_0 : w4.cell? ⟨wr.heap.size, 0, none⟩ = some (.int .i64 p) := by rw [cell_of_block kx]; rfl
          have kx_1 : w4.cell? ⟨wr.heap.size, 1, none⟩ = some (.int .i64 q) := by rw [cell_of_block kx]; rfl
          have hzg : pg < w4.heap.size := (Array.getElem?_eq_some_iff.1 kg).1
          have hzx : wr.heap.size < w4.heap.size := (Array.getElem?_eq_some_iff.1 kx).1
          have hub : ∀ g, u.ownBlock = some g → B ≤ g := fun g e => (hoi.1.lt g e).1
          have HU := Lib.hid (show some pg ≠ u.ownBlock ∧ some w.heap.size ≠ u.ownBlock ∧ some bR ≠ u.ownBlock ∧ some wr.heap.size ≠ u.ownBlock from ⟨fun e => by have := hub _ e.symm; omega, fun e => by have := hub _ e.symm; omega, fun e => by have := hub _ e.symm; omega, fun e => row_ty_ne hoi.1 kx (by decide) e.symm⟩)
          have HUB := Lib.hid hub
          have HGR := Lib.hid hgrow
          clear hgrow hlook hub
          go_region_held3 (fun w' => w'.cell? ⟨pg, 1, none⟩ = some (.map (some bF)) ∧ w'.cell? ⟨wr.heap.size, 0, none⟩ = some (.int .i64 p) ∧ w'.cell? ⟨wr.heap.size, 1, none⟩ = some (.int .i64 q)) (first | (with_reducible exact ⟨kg_m, kx_0, kx_1⟩) | (with_reducible exact ⟨y0, y1, y2⟩) | go_keep) (first
            | (refine step_append_news (by rfl) (.tmp 50) (.tmp 53) 22 (by rfl) B 3 i0 (.int .i64 0) 1 8 Try.underlying22 hi hiz0 hiz1 hiz2 rfl (by decide) u (prd (E.take t) q).length _ (by rfl) (row_below hoi.1 (show Below w4.heap.size w4 _ from by (repeat (first | exact Below.refl _ _ | assumption | refine Below.drew ?_ | refine below_drewN ?_ _ | refine balloc ?_ _ | refine Below.setCell ?_ (by first | (simp; done) | (simp; omega) | omega) _ | refine bchain (by assumption) ?_)))) _ 1 1 [.int .i64 p] (by rfl) (by rfl) (.inr ⟨_, rfl, ?_⟩) ?_ (by omega) (by omega) ?_ ?_; (intro j z hj; rcases j with _ | j <;> simp at hj <;> subst hj <;> simp [go_sem]); (intro z hz; simp at hz; rw [hz]; rfl); (exact Nat.le_trans (by omega : B ≤ w4.heap.size) (Below.size (show Below w4.heap.size w4 _ from by (repeat (first | exact Below.refl _ _ | assumption | refine Below.drew ?_ | refine below_drewN ?_ _ | refine balloc ?_ _ | refine Below.setCell ?_ (by first | (simp; done) | (simp; omega) | omega) _ | refine bchain (by assumption) ?_))))); intro v5 w5 hown hg hat; have hall := (grown_any (show Below w4.heap.size w4 _ from by (repeat (first | exact Below.refl _ _ | assumption | refine Below.drew ?_ | refine below_drewN ?_ _ | refine balloc ?_ _ | refine Below.setCell ?_ (by first | (simp; done) | (simp; omega) | omega) _ | refine bchain (by assumption) ?_))) u.ownBlock).trans hg; have hoi5 := hoi.appended (by simpa using hown) hwp; obtain ⟨w6, D5, hup, hg6, hTw6, hI6, hD6⟩ := HGR.out w5 v5 p hall hoi5 (hat.imp id (fun h => ⟨_, h, Below.size (show Below w4.heap.size w4 _ from by (repeat (first | exact Below.refl _ _ | assumption | refine Below.drew ?_ | refine below_drewN ?_ _ | refine balloc ?_ _ | refine Below.setCell ?_ (by first | (simp; done) | (simp; omega) | omega) _ | refine bchain (by assumption) ?_)))⟩)); have kg5 := (hall.block pg hzg HU.out.1).trans kg; have kx5 := (hall.block wr.heap.size hzx HU.out.2.2.2).trans kx; have k05 := (hall.block w.heap.size (by omega) HU.out.2.1).trans k0; have kg := (hg6.block pg (Array.getElem?_eq_some_iff.1 kg5).1 (by simp; omega)).trans kg5; have kx := (hg6.block wr.heap.size (Array.getElem?_eq_some_iff.1 kx5).1 (by simp; omega)).trans kx5; have k0 := (hg6.block w.heap.size (Array.getElem?_eq_some_iff.1 k05).1 (by simp; omega)).trans k05; have hse := (hse.kept hall HU.out.2.2.1).kept hg6 (by simp; omega); have hb4 := (hb4.grown hall (by omega) (fun k e => by have := HUB.out k e; omega)).grown hg6 (by have := hall.size; omega) (fun k e => by cases e; omega); have kg_m : w5.cell? ⟨pg, 1, none⟩ = some (.map (some bF)) := (by rw [cell_of_block kg5]; rfl); have kx_0 : w5.cell? ⟨wr.heap.size, 0, none⟩ = some (.int .i64 p) := (by rw [cell_of_block kx5]; rfl); have kx_1 : w5.cell? ⟨wr.heap.size, 1, none⟩ = some (.int .i64 q) := (by rw [cell_of_block kx5]; rfl); have y0 : w6.cell? ⟨pg, 1, none⟩ = some (.map (some bF)) := (by rw [cell_of_block kg]; rfl); have y1 : w6.cell? ⟨wr.heap.size, 0, none⟩ = some (.int .i64 p) := (by rw [cell_of_block kx]; rfl); have y2 : w6.cell? ⟨wr.heap.size, 1, none⟩ = some (.int .i64 q) := (by rw [cell_of_block kx]; rfl); have hBs : B ≤ w6.heap.size := (by have := hall.size; have := hg6.size; omega); clear kg5 kx5 k05 hown hg hat hoi5))
          all_goals
            have hTw7 := hTw6.swap
            have HI6 := hI6
            have HD6 := hD6
            clear hup hTw6 hI6 hD6 kg_m kx_0 kx_1 y0 y1 y2 hLA hLB hoi hzl HGR HU HUB hTw hall hg6 hzg hzx
            go_wp2_with fail
            obtain ⟨u, hlook, hoi, hzl, hgrow⟩ := hTw7.grow hI2 hD2 (by unfold maxLen; omega) hwp
            have hLA : (Instr.lookup 55 (.map (some bT)) (.int .i64 p) false).run Try.prog w6.drew = .ok u w6.drew := hlook w6.drew rfl
            have hLB : ∀ o, (Instr.lookup 55 (.map (some bT)) (.int .i64 p) false).run Try.prog (w6.alloc o).drew = .ok u (w6.alloc o).drew := fun o => hlook _ (Below.heap_alloc w6 o _ (groups_lt hTw7.g1).1)
            have kg_m : w6.cell? ⟨pg, 2, none⟩ = some (.map (some bT)) := by rw [cell_of_block kg]; rfl
            have kx_0 : w6.cell? ⟨wr.heap.size, 0, none⟩ = some (.int .i64 p) := by rw [cell_of_block kx]; rfl
            have kx_1 : w6.cell? ⟨wr.heap.size, 1, none⟩ = some (.int .i64 q) := by rw [cell_of_block kx]; rfl
            have hzg : pg < w6.heap.size := (Array.getElem?_eq_some_iff.1 kg).1
            have hzx : wr.heap.size < w6.heap.size := (Array.getElem?_eq_some_iff.1 kx).1
            have hub : ∀ g, u.ownBlock = some g → B ≤ g := fun g e => (hoi.1.lt g e).1
            have HU := Lib.hid (show some pg ≠ u.ownBlock ∧ some w.heap.size ≠ u.ownBlock ∧ some bR ≠ u.ownBlock ∧ some wr.heap.size ≠ u.ownBlock from ⟨fun e => by have := hub _ e.symm; omega, fun e => by have := hub _ e.symm; omega, fun e => by have := hub _ e.symm; omega, fun e => row_ty_ne hoi.1 kx (by decide) e.symm⟩)
            have HUB := Lib.hid hub
            have HGR := Lib.hid hgrow
            clear hgrow hlook hub
            go_region_held3 (fun w' => w'.cell? ⟨pg, 2, none⟩ = some (.map (some bT)) ∧ w'.cell? ⟨wr.heap.size, 0, none⟩ = some (.int .i64 p) ∧ w'.cell? ⟨wr.heap.size, 1, none⟩ = some (.int .i64 q)) (first | (with_reducible exact ⟨kg_m, kx_0, kx_1⟩) | (with_reducible exact ⟨y0, y1, y2⟩) | go_keep) (first
              | (refine step_append_news (by rfl) (.tmp 63) (.tmp 66) 22 (by rfl) B 3 i0 (.int .i64 0) 1 8 Try.underlying22 hi hiz0 hiz1 hiz2 rfl (by decide) u (suc (E.take t) p).length _ (by rfl) (row_below hoi.1 (show Below w6.heap.size w6 _ from by (repeat (first | exact Below.refl _ _ | assumption | refine Below.drew ?_ | refine below_drewN ?_ _ | refine balloc ?_ _ | refine Below.setCell ?_ (by first | (simp; done) | (simp; omega) | omega) _ | refine bchain (by assumption) ?_)))) _ 1 1 [.int .i64 q] (by rfl) (by rfl) (.inr ⟨_, rfl, ?_⟩) ?_ (by omega) (by omega) ?_ ?_; (intro j z hj; rcases j with _ | j <;> simp at hj <;> subst hj <;> simp [go_sem]); (intro z hz; simp at hz; rw [hz]; rfl); (exact Nat.le_trans (by omega : B ≤ w6.heap.size) (Below.size (show Below w6.heap.size w6 _ from by (repeat (first | exact Below.refl _ _ | assumption | refine Below.drew ?_ | refine below_drewN ?_ _ | refine balloc ?_ _ | refine Below.setCell ?_ (by first | (simp; done) | (simp; omega) | omega) _ | refine bchain (by assumption) ?_))))); intro v7 w5 hown hg hat; have hall := (grown_any (show Below w6.heap.size w6 _ from by (repeat (first | exact Below.refl _ _ | assumption | refine Below.drew ?_ | refine below_drewN ?_ _ | refine balloc ?_ _ | refine Below.setCell ?_ (by first | (simp; done) | (simp; omega) | omega) _ | refine bchain (by assumption) ?_))) u.ownBlock).trans hg; have hoi5 := hoi.appended (by simpa using hown) hwq; obtain ⟨w8, D5, hup, hg6, hTw6, hI6, hD6⟩ := HGR.out w5 v7 q hall hoi5 (hat.imp id (fun h => ⟨_, h, Below.size (show Below w6.heap.size w6 _ from by (repeat (first | exact Below.refl _ _ | assumption | refine Below.drew ?_ | refine below_drewN ?_ _ | refine balloc ?_ _ | refine Below.setCell ?_ (by first | (simp; done) | (simp; omega) | omega) _ | refine bchain (by assumption) ?_)))⟩)); have kg5 := (hall.block pg hzg HU.out.1).trans kg; have kx5 := (hall.block wr.heap.size hzx HU.out.2.2.2).trans kx; have k05 := (hall.block w.heap.size (by omega) HU.out.2.1).trans k0; have kg := (hg6.block pg (Array.getElem?_eq_some_iff.1 kg5).1 (by simp; omega)).trans kg5; have kx := (hg6.block wr.heap.size (Array.getElem?_eq_some_iff.1 kx5).1 (by simp; omega)).trans kx5; have k0 := (hg6.block w.heap.size (Array.getElem?_eq_some_iff.1 k05).1 (by simp; omega)).trans k05; have hse := (hse.kept hall HU.out.2.2.1).kept hg6 (by simp; omega); have hb4 := (hb4.grown hall (by omega) (fun k e => by have := HUB.out k e; omega)).grown hg6 (by have := hall.size; omega) (fun k e => by cases e; omega); have kg_m : w5.cell? ⟨pg, 2, none⟩ = some (.map (some bT)) := (by rw [cell_of_block kg5]; rfl); have kx_0 : w5.cell? ⟨wr.heap.size, 0, none⟩ = some (.int .i64 p) := (by rw [cell_of_block kx5]; rfl); have kx_1 : w5.cell? ⟨wr.heap.size, 1, none⟩ = some (.int .i64 q) := (by rw [cell_of_block kx5]; rfl); have y0 : w8.cell? ⟨pg, 2, none⟩ = some (.map (some bT)) := (by rw [cell_of_block kg]; rfl); have y1 : w8.cell? ⟨wr.heap.size, 0, none⟩ = some (.int .i64 p) := (by rw [cell_of_block kx]; rfl); have y2 : w8.cell? ⟨wr.heap.size, 1, none⟩ = some (.int .i64 q) := (by rw [cell_of_block kx]; rfl); have hBs : B ≤ w8.heap.size := (by have := hall.size; have := hg6.size; omega); clear kg5 kx5 k05 hown hg hat hoi5))
          all_goals
            have hpF : prd (E.take (t + 1)) = fun y => if y = q then prd (E.take t) q ++ [p] else prd (E.take t) y := by
              funext y
              rw [prd_snoc HX.out, HED.out]
              by_cases hy : y = q
              · subst hy; simp
              · have : (q == y) = false := by simpa using fun e => hy e.symm
                simp [hy, this]
            have hpT : suc (E.take (t + 1)) = fun y => if y = p then suc (E.take t) p ++ [q] else suc (E.take t) y := by
              funext y
              rw [suc_snoc HX.out, HED.out]
              by_cases hy : y = p
              · subst hy; simp
              · have : (p == y) = false := by simpa using fun e => hy e.symm
                simp [hy, this]
            have hl2 : (E.take (t + 1)).length = t + 1 := by have := HNE.out; rw [List.length_take]; omega
            have hGS : GS w w8 B w.heap.size bF bT bR pg (E.take (t + 1)) ((E.take (t + 1)).foldl vtE (n : Int)) [] :=
              ⟨⟨_, _, _, _, hTw6.swap, HI6, hI6, by rw [hpF]; exact HD6, by rw [hpT]; exact hD6, by omega, by omega⟩, hse, by rw [HS.out]; exact kg, k0, hb4, hbl⟩
            clear hpF hpT hTw7 hTw6 HI6 HD6 hI6 hD6 hup kg_m kx_0 kx_1 y0 y1 y2 hLA hLB hoi hzl HGR HU HUB hall hg6
            go_wp2
            go_roundw
          all_goals (first | (case rel => exact ⟨t + 1, by omega, by go_num, hGS⟩) | skip)
          all_goals (simp [intOf]; omega)
    · have htn : t = ne := by omega
      subst htn
      have hEt : E.take t = E := by rw [← HNE.out, List.take_length]
      rw [hEt] at hG
      have hM := vtE_rng (E := E) (n := (n : Int)) (by omega) (by omega) t
      rw [hEt] at hM
      have HVN := Lib.hid (show vtN E R n = R.foldl vtR (E.foldl vtE (n : Int)) by unfold vtN; rw [show min (n : Int) 10001 = n by omega])
      obtain ⟨M0, hM0⟩ : ∃ z, E.foldl vtE (n : Int) = z := ⟨_, rfl⟩
      rw [hM0] at hG hM
      have HM0 := Lib.hid hM0
      clear hM0 hEt RE
      go_wp2
      go_loopw [71] (fun i wr => ∃ k : Nat, k ≤ nr ∧ i = .int .i64 k ∧ GS w wr B w.heap.size bF bT bR pg E ((R.take k).foldl vtR M0) ((R.take k).filter vB)) (fun i _ => nr - (intOf i).toNat)
      case atStart => exact ⟨0, Nat.zero_le _, rfl, hG⟩
      case round =>
        clear hG hlt
        obtain ⟨k, hk, rfl, hG⟩ := hrel
        have hNs : w.heap.size ≤ wr.heap.size := hG.bel.size
        by_cases hlt : k < nr
        · obtain ⟨b1, f1, v, rfl, hx, q1⟩ := RR.out k hlt
          have q1 := (hG.bel.cell (World.block_lt_of_cell? _ _ q1)).trans q1
          have s1 : ((k : Int)).toNat = k := by omega
          have hm := vtR_rng (R := R) hM.1 hM.2 k
          have HS := Lib.hid (fold_snoc (f := vtR) hx M0)
          have HF := Lib.hid (filter_snoc (f := vB) hx)
          have hvv := fun W => vertex_any v W
          clear RR hx
          generalize (R.take k).foldl vtR M0 = m0 at *
          generalize hfl : (R.take k).filter vB = S0 at *
          have hS0 : S0.length ≤ k := by rw [← hfl]; exact Nat.le_trans (List.length_filter_le _ _) (by rw [List.length_take]; omega)
          clear hfl
          go_wp2_with fail
          refine (hvv _).mono ?_
          rintro e w2 ⟨rfl, hb2⟩
          have hG2 := hG.below hNs (show Below wr.heap.size wr w2 from by (repeat (first | exact Below.refl _ _ | assumption | refine Below.drew ?_ | refine below_drewN ?_ _ | refine balloc ?_ _ | refine Below.setCell ?_ (by first | (simp; done) | (simp; omega) | omega) _ | refine bchain (by assumption) ?_)))
          have hNs2 : w.heap.size ≤ w2.heap.size := hG2.bel.size
          clear hG hb2 hvv q1
          cases hv : vB v
          · have hm' : vtR m0 v = m0 := by unfold vtR; simp [hv]
            have hG' : GS w w2 B w.heap.size bF bT bR pg E ((R.take (k + 1)).foldl vtR M0) ((R.take (k + 1)).filter vB) := by
              rw [HS.out, hm', HF.out, hv]
              simpa using hG2
            clear hG2 hm'
            go_wp2
            go_roundw
            case rel => exact ⟨k + 1, by omega, by go_num, hG'⟩
            case measure => simp [intOf]; omega
          · have hv0 := vB_iff.1 hv
            have s2 : wrap64 (v + 1) = v + 1 := IntWalk.wrap64_in _ (by omega)
            have s4 : IntKind.i64.wrap (v + 1) = v + 1 := IntWalk.i64_in _ (by omega)
            have HV := Lib.hid (show vtR m0 v = max m0 (v + 1) by unfold vtR; simp [hv])
            have HF := Lib.hid (HF.out.trans (by rw [hv]; rfl : _ = S0 ++ [v]))
            have kg := hG2.kg
            have kg_0 : w2.cell? ⟨pg, 0, none⟩ = some (.int .i64 m0) := by rw [cell_of_block kg]; rfl
            have kg_f : ∀ i, w2.frozen? ⟨pg, i, none⟩ = false := frozen_of_block kg
            have hzg : pg < w2.heap.size := (Array.getElem?_eq_some_iff.1 kg).1
            have hbl := hG2.bl
            clear hv
            go_upto_region 15 with fail
            have hz : (if m0 < v + 1 then v + 1 else m0) = max m0 (v + 1) := by split <;> omega
            rw [hz, ← HV.out]
            generalize vtR m0 v = z at *
            obtain ⟨w4, hw4⟩ : ∃ W, w2.setCell ⟨pg, 0, none⟩ (.int .i64 z) = W := ⟨_, rfl⟩
            have hgs : w2.grownBy w4 (some pg) := by rw [← hw4]; exact grown_set
            obtain ⟨n1, n2, D1, D2, hTw, hrest⟩ := hG2.two
            have hTw := hTw.kept hgs (fun j hj => by cases hj; omega)
            have hse := hG2.seen.kept hgs (by simp; omega)
            have kg : w4.heap[pg]? = some (.cells #[.int .i64 z, .map (some bF), .map (some bT), .map (some bR)] 58 (0, 0)) := by rw [← hw4]; exact block_set kg
            have hb4 : Below w.heap.size w w4 := hG2.bel.grown hgs hNs2 (fun k e => by cases e; omega)
            have k0 : w4.heap[w.heap.size]? = _ := (hgs.block _ (by omega) (by simp; omega)).trans hG2.k0
            have kg_3 : w4.cell? ⟨pg, 3, none⟩ = some (.map (some bR)) := by rw [cell_of_block kg]; rfl
            have hzg : pg < w4.heap.size := (Array.getElem?_eq_some_iff.1 kg).1
            rw [hw4]
            clear hw4 hgs kg_0 kg_f hG2 hz hNs2
            go_wp2_with (at_mapUpdate; refine wpList_seen rfl _ _ _ rfl bR S0 rfl hse (by unfold maxLen; omega) v rfl rfl (by omega) ?_; intro w5 hse5 hg5)
            have e1 : some pg ≠ some bR := fun e => by cases e; omega
            have hGS : GS w w5 B w.heap.size bF bT bR pg E ((R.take (k + 1)).foldl vtR M0) ((R.take (k + 1)).filter vB) := by
              rw [HS.out, HF.out]
              exact ⟨⟨n1, n2, D1, D2, hTw.kept hg5 (fun j hj => by cases hj; omega), hrest⟩, hse5, (hg5.block pg hzg e1).trans kg, (hg5.block _ (by omega) (by simp; omega)).trans k0, hb4.grown hg5 (by omega) (fun k e => by cases e; omega), hbl⟩
            go_roundw
            case rel => exact ⟨k + 1, by omega, by go_num, hGS⟩
            case measure => simp [intOf]; omega
        · have hkn : k = nr := by omega
          subst hkn
          have hRt : R.take k = R := by rw [← HNR.out, List.take_length]
          rw [hRt] at hG
          have HVN := Lib.hid (show vtN E R n = R.foldl vtR M0 by rw [HVN.out, HM0.out])
          generalize R.foldl vtR M0 = V at *
          have kg := hG.kg
          have k0 := hG.k0
          have hbl := hG.bl
          have hNs : w.heap.size ≤ wr.heap.size := hG.bel.size
          have hzg : pg < wr.heap.size := (Array.getElem?_eq_some_iff.1 kg).1
          have kg_0 : wr.cell? ⟨pg, 0, none⟩ = some (.int .i64 V) := by rw [cell_of_block kg]; rfl
          have kg_1 : wr.cell? ⟨pg, 1, none⟩ = some (.map (some bF)) := by rw [cell_of_block kg]; rfl
          have kg_2 : wr.cell? ⟨pg, 2, none⟩ = some (.map (some bT)) := by rw [cell_of_block kg]; rfl
          have kg_3 : wr.cell? ⟨pg, 3, none⟩ = some (.map (some bR)) := by rw [cell_of_block kg]; rfl
          have k0_0 : wr.cell? ⟨w.heap.size, 0, none⟩ = some (.int .i64 0) := by rw [cell_of_block k0]; rfl
          have k0_1 : wr.cell? ⟨w.heap.size, 1, none⟩ = some (.map none) := by rw [cell_of_block k0]; rfl
          have k0_2 : wr.cell? ⟨w.heap.size, 2, none⟩ = some (.map none) := by rw [cell_of_block k0]; rfl
          have k0_3 : wr.cell? ⟨w.heap.size, 3, none⟩ = some (.map none) := by rw [cell_of_block k0]; rfl
          have k0_f : ∀ i, wr.frozen? ⟨w.heap.size, i, none⟩ = false := frozen_of_block k0
          have kz := four_set (b0 := .int .i64 V) (b1 := .map (some bF)) (b2 := .map (some bT)) (b3 := .map (some bR)) k0
          have kz_0 : ((((wr.setCell ⟨w.heap.size, 0, none⟩ (.int .i64 V)).setCell ⟨w.heap.size, 1, none⟩ (.map (some bF))).setCell ⟨w.heap.size, 2, none⟩ (.map (some bT))).setCell ⟨w.heap.size, 3, none⟩ (.map (some bR))).cell? ⟨w.heap.size, 0, none⟩ = some (.int .i64 V) := by rw [cell_of_block kz]; rfl
          have kz_1 : ((((wr.setCell ⟨w.heap.size, 0, none⟩ (.int .i64 V)).setCell ⟨w.heap.size, 1, none⟩ (.map (some bF))).setCell ⟨w.heap.size, 2, none⟩ (.map (some bT))).setCell ⟨w.heap.size, 3, none⟩ (.map (some bR))).cell? ⟨w.heap.size, 1, none⟩ = some (.map (some bF)) := by rw [cell_of_block kz]; rfl
          have kz_2 : ((((wr.setCell ⟨w.heap.size, 0, none⟩ (.int .i64 V)).setCell ⟨w.heap.size, 1, none⟩ (.map (some bF))).setCell ⟨w.heap.size, 2, none⟩ (.map (some bT))).setCell ⟨w.heap.size, 3, none⟩ (.map (some bR))).cell? ⟨w.heap.size, 2, none⟩ = some (.map (some bT)) := by rw [cell_of_block kz]; rfl
          have kz_3 : ((((wr.setCell ⟨w.heap.size, 0, none⟩ (.int .i64 V)).setCell ⟨w.heap.size, 1, none⟩ (.map (some bF))).setCell ⟨w.heap.size, 2, none⟩ (.map (some bT))).setCell ⟨w.heap.size, 3, none⟩ (.map (some bR))).cell? ⟨w.heap.size, 3, none⟩ = some (.map (some bR)) := by rw [cell_of_block kz]; rfl
          obtain ⟨n1, n2, D1, D2, hTw, hI1, hI2, hD1, hD2, hn1, hn2⟩ := hG.two
          have hgz : wr.grownBy ((((wr.setCell ⟨w.heap.size, 0, none⟩ (.int .i64 V)).setCell ⟨w.heap.size, 1, none⟩ (.map (some bF))).setCell ⟨w.heap.size, 2, none⟩ (.map (some bT))).setCell ⟨w.heap.size, 3, none⟩ (.map (some bR))) (some w.heap.size) := ((grown_set.trans grown_set).trans grown_set).trans grown_set
          have hfin : BuildP w E R n (.returned (.agg #[.int .i64 V, .map (some bF), .map (some bT), .map (some bR)])) ((((wr.setCell ⟨w.heap.size, 0, none⟩ (.int .i64 V)).setCell ⟨w.heap.size, 1, none⟩ (.map (some bF))).setCell ⟨w.heap.size, 2, none⟩ (.map (some bT))).setCell ⟨w.heap.size, 3, none⟩ (.map (some bR))) := by
            have hle := HNE.out
            refine ⟨B, bF, bT, bR, R.filter vB, by rw [HVN.out], ⟨⟨n1, n2, D1, D2, hTw.kept hgz (fun j hj => by cases hj; omega), hD1, hD2, by omega, by omega⟩, hG.seen.kept hgz (by simp; omega), by omega⟩, fun x => ?_, List.length_filter_le _ _, hG.bel.grown hgz hNs (fun k e => by cases e; exact Nat.le_refl _)⟩
            unfold rtB
            rw [List.mem_filter, Bool.and_eq_true, List.contains_iff_mem]
            exact And.comm
          clear hG hTw hgz
          go_wp2
          exact bodyPost_ret (v := .agg #[.int .i64 V, .map (some bF), .map (some bT), .map (some bR)]) (by simp [results, Try.results31, go_sem, kz_0, kz_1, kz_2, kz_3]) rfl hfin
end Go.Proofs.Ytbkfjhbebhnijaa
