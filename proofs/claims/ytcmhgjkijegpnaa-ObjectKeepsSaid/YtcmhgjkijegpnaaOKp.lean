/-
  refmeshlaw07.ObjectKeeps.
-/
import Derived.Test.YtcmhgjkijegpnaaGO
import Derived.Test.YtcmhgjkijegpnaaGH
import Derived.Deep.CutRange
import Derived.Deep.RegionHeld3
namespace Go.Proofs.Ytcmhgjkijegpnaa
open Go.RowKit
set_option linter.unusedSimpArgs false
set_option linter.unusedVariables false

set_option maxRecDepth 100000 in
set_option maxHeartbeats 2000000 in
theorem okp_long (kd k c f m s a b i u : Int) (raw : Bool) (A0 : Option Addr) (n cap : Nat) (hcap : n ≤ cap) (hc63 : cap ≤ 9223372036854775807) (w : World) (h : 20 < n) :
    Calls Try.prog 6 #[.slice A0 n cap, .agg #[.int .i64 kd, .int .i64 k, .int .i64 c, .int .i64 f, .int .i64 m, .int .i64 s, .int .i64 a, .int .i64 b, .int .i64 i, .int .u64 u, .bool raw]] w fun e w' => e = .returned (.bool true) ∧ Below w.heap.size w w' := by
  have ha := awake7
  have h1 : decide (20 < n) = true := by simpa using h
  go_enter Try.func6, Try.ntmps6
  go_wp2_with fail
  refine (ha _).mono ?_
  rintro e w1 ⟨rfl, hb1⟩
  have ko : w1.heap[w.heap.size]? = some (.cells #[.int .i64 kd, .int .i64 k, .int .i64 c, .int .i64 f, .int .i64 m, .int .i64 s, .int .i64 a, .int .i64 b, .int .i64 i, .int .u64 u, .bool raw] 58 (0, 0)) := bblock hb1 (alloc_get _ _)
  have ko_0 : w1.cell? ⟨w.heap.size, 0, none⟩ = some (.int .i64 kd) := by rw [cell_of_block ko]; rfl
  have ko_10 : w1.cell? ⟨w.heap.size, 10, none⟩ = some (.bool raw) := by rw [cell_of_block ko]; rfl
  go_wp2
  go_ret
  exact ⟨rfl, by (repeat (first | exact Below.refl _ _ | assumption | refine Below.drew ?_ | refine below_drewN ?_ _ | refine balloc ?_ _ | refine Below.setCell ?_ (by first | (simp; done) | (simp; omega) | omega) _ | refine bchain (by assumption) ?_))⟩
set_option maxRecDepth 100000 in
set_option maxHeartbeats 2000000 in
theorem okp_raw (kd k c f m s a b i u : Int) (raw : Bool) (A0 : Option Addr) (n cap : Nat) (hcap : n ≤ cap) (hc63 : cap ≤ 9223372036854775807) (w : World) (h : ¬ 20 < n) (hr : raw = true) :
    Calls Try.prog 6 #[.slice A0 n cap, .agg #[.int .i64 kd, .int .i64 k, .int .i64 c, .int .i64 f, .int .i64 m, .int .i64 s, .int .i64 a, .int .i64 b, .int .i64 i, .int .u64 u, .bool raw]] w fun e w' => e = .returned (.bool true) ∧ Below w.heap.size w w' := by
  have ha := awake7
  have h1 : decide (20 < n) = false := by simpa using h
  subst hr
  go_enter Try.func6, Try.ntmps6
  go_wp2_with fail
  refine (ha _).mono ?_
  rintro e w1 ⟨rfl, hb1⟩
  have ko : w1.heap[w.heap.size]? = some (.cells #[.int .i64 kd, .int .i64 k, .int .i64 c, .int .i64 f, .int .i64 m, .int .i64 s, .int .i64 a, .int .i64 b, .int .i64 i, .int .u64 u, .bool true] 58 (0, 0)) := bblock hb1 (alloc_get _ _)
  have ko_0 : w1.cell? ⟨w.heap.size, 0, none⟩ = some (.int .i64 kd) := by rw [cell_of_block ko]; rfl
  have ko_10 : w1.cell? ⟨w.heap.size, 10, none⟩ = some (.bool true) := by rw [cell_of_block ko]; rfl
  go_wp2
  go_ret
  exact ⟨rfl, by (repeat (first | exact Below.refl _ _ | assumption | refine Below.drew ?_ | refine below_drewN ?_ _ | refine balloc ?_ _ | refine Below.setCell ?_ (by first | (simp; done) | (simp; omega) | omega) _ | refine bchain (by assumption) ?_))⟩
set_option maxRecDepth 100000 in
set_option maxHeartbeats 2000000 in
theorem okp_low (kd k c f m s a b i u : Int) (raw : Bool) (A0 : Option Addr) (n cap : Nat) (hcap : n ≤ cap) (hc63 : cap ≤ 9223372036854775807) (w : World) (h : ¬ 20 < n) (hr : raw = false) (h2 : kd < 2) :
    Calls Try.prog 6 #[.slice A0 n cap, .agg #[.int .i64 kd, .int .i64 k, .int .i64 c, .int .i64 f, .int .i64 m, .int .i64 s, .int .i64 a, .int .i64 b, .int .i64 i, .int .u64 u, .bool raw]] w fun e w' => e = .returned (.bool true) ∧ Below w.heap.size w w' := by
  have ha := awake7
  have h1 : decide (20 < n) = false := by simpa using h
  have h3 : decide (kd < 2) = true := by simpa using h2
  subst hr
  go_enter Try.func6, Try.ntmps6
  go_wp2_with fail
  refine (ha _).mono ?_
  rintro e w1 ⟨rfl, hb1⟩
  have ko : w1.heap[w.heap.size]? = some (.cells #[.int .i64 kd, .int .i64 k, .int .i64 c, .int .i64 f, .int .i64 m, .int .i64 s, .int .i64 a, .int .i64 b, .int .i64 i, .int .u64 u, .bool false] 58 (0, 0)) := bblock hb1 (alloc_get _ _)
  have ko_0 : w1.cell? ⟨w.heap.size, 0, none⟩ = some (.int .i64 kd) := by rw [cell_of_block ko]; rfl
  have ko_10 : w1.cell? ⟨w.heap.size, 10, none⟩ = some (.bool false) := by rw [cell_of_block ko]; rfl
  go_wp2
  go_ret
  exact ⟨rfl, by (repeat (first | exact Below.refl _ _ | assumption | refine Below.drew ?_ | refine below_drewN ?_ _ | refine balloc ?_ _ | refine Below.setCell ?_ (by first | (simp; done) | (simp; omega) | omega) _ | refine bchain (by assumption) ?_))⟩
set_option maxRecDepth 100000 in
set_option maxHeartbeats 2000000 in
theorem okp_high (kd k c f m s a b i u : Int) (raw : Bool) (A0 : Option Addr) (n cap : Nat) (hcap : n ≤ cap) (hc63 : cap ≤ 9223372036854775807) (w : World) (h : ¬ 20 < n) (hr : raw = false) (h2 : ¬ kd < 2) (h5 : 5 < kd) :
    Calls Try.prog 6 #[.slice A0 n cap, .agg #[.int .i64 kd, .int .i64 k, .int .i64 c, .int .i64 f, .int .i64 m, .int .i64 s, .int .i64 a, .int .i64 b, .int .i64 i, .int .u64 u, .bool raw]] w fun e w' => e = .returned (.bool true) ∧ Below w.heap.size w w' := by
  have ha := awake7
  have h1 : decide (20 < n) = false := by simpa using h
  have h3 : decide (kd < 2) = false := by simpa using h2
  have h4 : decide (5 < kd) = true := by simpa using h5
  subst hr
  go_enter Try.func6, Try.ntmps6
  go_wp2_with fail
  refine (ha _).mono ?_
  rintro e w1 ⟨rfl, hb1⟩
  have ko : w1.heap[w.heap.size]? = some (.cells #[.int .i64 kd, .int .i64 k, .int .i64 c, .int .i64 f, .int .i64 m, .int .i64 s, .int .i64 a, .int .i64 b, .int .i64 i, .int .u64 u, .bool false] 58 (0, 0)) := bblock hb1 (alloc_get _ _)
  have ko_0 : w1.cell? ⟨w.heap.size, 0, none⟩ = some (.int .i64 kd) := by rw [cell_of_block ko]; rfl
  have ko_10 : w1.cell? ⟨w.heap.size, 10, none⟩ = some (.bool false) := by rw [cell_of_block ko]; rfl
  go_wp2
  go_ret
  exact ⟨rfl, by (repeat (first | exact Below.refl _ _ | assumption | refine Below.drew ?_ | refine below_drewN ?_ _ | refine balloc ?_ _ | refine Below.setCell ?_ (by first | (simp; done) | (simp; omega) | omega) _ | refine bchain (by assumption) ?_))⟩
theorem three_cell {w : World} {k i j : Nat} {v b0 b1 b2 : Value} (h : w.cell? ⟨k, i, none⟩ = some v) (hn : k ≠ j) : (((w.setCell ⟨j, 0, none⟩ b0).setCell ⟨j, 1, none⟩ b1).setCell ⟨j, 2, none⟩ b2).cell? ⟨k, i, none⟩ = some v := set_cell_far (set_cell_far (set_cell_far h hn) hn) hn
theorem two_cell7 {w : World} {k i j : Nat} {v b0 b1 : Value} (h : w.cell? ⟨k, i, none⟩ = some v) (hn : k ≠ j) : ((w.setCell ⟨j, 0, none⟩ b0).setCell ⟨j, 1, none⟩ b1).cell? ⟨k, i, none⟩ = some v := set_cell_far (set_cell_far h hn) hn
theorem three_set {w : World} {k : Nat} {T : TypeId} {x0 x1 x2 b0 b1 b2 : Value} (h : w.heap[k]? = some (.cells #[x0, x1, x2] T (0, 0))) : (((w.setCell ⟨k, 0, none⟩ b0).setCell ⟨k, 1, none⟩ b1).setCell ⟨k, 2, none⟩ b2).heap[k]? = some (.cells #[b0, b1, b2] T (0, 0)) := by
  have h0 : (w.setCell ⟨k, 0, none⟩ b0).heap[k]? = some (.cells #[b0, x1, x2] T (0, 0)) := block_set h
  have h1 : ((w.setCell ⟨k, 0, none⟩ b0).setCell ⟨k, 1, none⟩ b1).heap[k]? = some (.cells #[b0, b1, x2] T (0, 0)) := block_set h0
  exact block_set h1
theorem two_set7 {w : World} {k : Nat} {T : TypeId} {x0 x1 b0 b1 : Value} (h : w.heap[k]? = some (.cells #[x0, x1] T (0, 0))) : ((w.setCell ⟨k, 0, none⟩ b0).setCell ⟨k, 1, none⟩ b1).heap[k]? = some (.cells #[b0, b1] T (0, 0)) := by
  have h0 : (w.setCell ⟨k, 0, none⟩ b0).heap[k]? = some (.cells #[b0, x1] T (0, 0)) := block_set h
  exact block_set h0
theorem app_keep {w4 wq W' w2 : World} {B : Nat} {row : Option Nat} (hq : Below wq.heap.size wq W') (hg : W'.grownBy w2 row) (hrow : ∀ G, row = some G → B ≤ G) (hB : B ≤ wq.heap.size) (hbw : Below B w4 wq) : Below B w4 w2 :=
  (hbw.trans (hq.mono hB)).grown hg (Nat.le_trans hB hq.size) hrow
theorem app_row {wq W' w2 : World} {B : Nat} {row : Option Nat} {e : TypeId} {sz : Nat} {v : Value} {n : Nat} {xs : List Value} (hq : Below wq.heap.size wq W') (hg : W'.grownBy w2 row) (h : wq.ownsRow B e sz v n xs) (hne : ∀ G, v.ownBlock = some G → row ≠ some G) : w2.ownsRow B e sz v n xs :=
  row_keep (row_below7 h hq) (fun G o e ho => (hg.block G (Array.getElem?_eq_some_iff.1 ho).1 (fun q => hne G e q.symm)).trans ho)
theorem app_cell {wq W' w2 : World} {row : Option Nat} {V i : Nat} {x : Value} (hq : Below wq.heap.size wq W') (hg : W'.grownBy w2 row) (h : wq.cell? ⟨V, i, none⟩ = some x) (hne : row ≠ some V) : w2.cell? ⟨V, i, none⟩ = some x := by
  have h2 := bcellv hq h
  exact (hg.cell_far ⟨V, i, none⟩ (World.block_lt_of_cell? _ _ h2) (fun q => hne q.symm)).trans h2
theorem app_hold {W' w2 : World} {row : Option Nat} {N : Nat} (hg : W'.grownBy w2 row) (hrow : ∀ G, row = some G → G < N) : ∀ (V i : Nat) (z : Value), N ≤ V → W'.cell? ⟨V, i, none⟩ = some z → w2.cell? ⟨V, i, none⟩ = some z := fun V i z h1 h2 =>
  (hg.cell_far ⟨V, i, none⟩ (World.block_lt_of_cell? _ _ h2) (fun q => by have := hrow V q.symm; omega)).trans h2
theorem app_ne8 {wq W' : World} {B : Nat} {u8 v8 v9 : Value} {e : TypeId} {sz n : Nat} {xs : List Value} (hq : Below wq.heap.size wq W') (hne : ∀ G, u8.ownBlock = some G → v9.ownBlock ≠ some G) (r9 : wq.ownsRow B e sz v9 n xs) (hat : v8.ownBlock = u8.ownBlock ∨ v8.ownBlock = some W'.heap.size) : ∀ G, v8.ownBlock = some G → v9.ownBlock ≠ some G := by
  intro G h h'
  rcases hat with e | e
  · exact hne G (e ▸ h) h'
  · rw [e] at h
    cases h
    have := (row_lt r9 _ h').1
    have := hq.size
    omega
theorem app_ne9 {wq W' : World} {B : Nat} {u9 v8 v9 : Value} {e : TypeId} {sz n : Nat} {xs : List Value} (hq : Below wq.heap.size wq W') (hne : ∀ G, v8.ownBlock = some G → u9.ownBlock ≠ some G) (r8 : wq.ownsRow B e sz v8 n xs) (hat : v9.ownBlock = u9.ownBlock ∨ v9.ownBlock = some W'.heap.size) : ∀ G, v8.ownBlock = some G → v9.ownBlock ≠ some G := by
  intro G h h'
  rcases hat with e | e
  · exact hne G h (e ▸ h')
  · rw [e] at h'
    cases h'
    have := (row_lt r8 _ h).1
    have := hq.size
    omega
/-- The cells of the headers, of the identities. -/
def hcl (wo wy l : List Int) : List Value := l.flatMap fun b => [.int .i64 (HK wo wy b), .int .i64 (HC wo wy b), .int .i64 (HF wo wy b)]
def icl (wo wy l : List Int) : List Value := l.flatMap fun b => [.int .i64 (OM wo wy b), .int .i64 (OS wo wy b)]
theorem hcl_len (wo wy : List Int) : ∀ l : List Int, (hcl wo wy l).length = l.length * 3 := by
  intro l
  induction l with
  | nil => rfl
  | cons b l ih =>
    have e : hcl wo wy (b :: l) = [.int .i64 (HK wo wy b), .int .i64 (HC wo wy b), .int .i64 (HF wo wy b)] ++ hcl wo wy l := rfl
    rw [e, List.length_append, ih]
    simp
    omega
theorem icl_len (wo wy : List Int) : ∀ l : List Int, (icl wo wy l).length = l.length * 2 := by
  intro l
  induction l with
  | nil => rfl
  | cons b l ih =>
    have e : icl wo wy (b :: l) = [.int .i64 (OM wo wy b), .int .i64 (OS wo wy b)] ++ icl wo wy l := rfl
    rw [e, List.length_append, ih]
    simp
    omega
theorem hcl_snoc (wo wy : List Int) {l : List Int} {t : Nat} {b : Int} (h : l[t]? = some b) : hcl wo wy (l.take (t + 1)) = hcl wo wy (l.take t) ++ [.int .i64 (HK wo wy b), .int .i64 (HC wo wy b), .int .i64 (HF wo wy b)] := by
  obtain ⟨h1, h2⟩ := List.getElem?_eq_some_iff.1 h
  rw [List.take_succ_eq_append_getElem h1, h2]
  unfold hcl
  rw [List.flatMap_append]
  rfl
theorem icl_snoc (wo wy : List Int) {l : List Int} {t : Nat} {b : Int} (h : l[t]? = some b) : icl wo wy (l.take (t + 1)) = icl wo wy (l.take t) ++ [.int .i64 (OM wo wy b), .int .i64 (OS wo wy b)] := by
  obtain ⟨h1, h2⟩ := List.getElem?_eq_some_iff.1 h
  rw [List.take_succ_eq_append_getElem h1, h2]
  unfold icl
  rw [List.flatMap_append]
  rfl
theorem hcl_get (wo wy : List Int) {l : List Int} {t : Nat} {b : Int} (h : l[t]? = some b) : (hcl wo wy l)[t * 3]? = some (.int .i64 (HK wo wy b)) ∧ (hcl wo wy l)[t * 3 + 1]? = some (.int .i64 (HC wo wy b)) ∧ (hcl wo wy l)[t * 3 + 2]? = some (.int .i64 (HF wo wy b)) := by
  have h1 := (List.getElem?_eq_some_iff.1 h).1
  have e : hcl wo wy l = hcl wo wy (l.take (t + 1)) ++ hcl wo wy (l.drop (t + 1)) := by
    unfold hcl
    rw [← List.flatMap_append, List.take_append_drop]
  rw [hcl_snoc wo wy h] at e
  have hl : (hcl wo wy (l.take t)).length = t * 3 := by rw [hcl_len, List.length_take, Nat.min_eq_left (by omega)]
  rw [e, List.append_assoc]
  refine ⟨?_, ?_, ?_⟩
  · rw [List.getElem?_append_right (by omega), hl, Nat.sub_self]; rfl
  · rw [List.getElem?_append_right (by omega), hl, show t * 3 + 1 - t * 3 = 1 by omega]; rfl
  · rw [List.getElem?_append_right (by omega), hl, show t * 3 + 2 - t * 3 = 2 by omega]; rfl
theorem icl_get (wo wy : List Int) {l : List Int} {t : Nat} {b : Int} (h : l[t]? = some b) : (icl wo wy l)[t * 2]? = some (.int .i64 (OM wo wy b)) ∧ (icl wo wy l)[t * 2 + 1]? = some (.int .i64 (OS wo wy b)) := by
  have h1 := (List.getElem?_eq_some_iff.1 h).1
  have e : icl wo wy l = icl wo wy (l.take (t + 1)) ++ icl wo wy (l.drop (t + 1)) := by
    unfold icl
    rw [← List.flatMap_append, List.take_append_drop]
  rw [icl_snoc wo wy h] at e
  have hl : (icl wo wy (l.take t)).length = t * 2 := by rw [icl_len, List.length_take, Nat.min_eq_left (by omega)]
  rw [e, List.append_assoc]
  refine ⟨?_, ?_⟩
  · rw [List.getElem?_append_right (by omega), hl, Nat.sub_self]; rfl
  · rw [List.getElem?_append_right (by omega), hl, show t * 2 + 1 - t * 2 = 1 by omega]; rfl
theorem row_openS {w : World} {n0 sz : Nat} {t : TypeId} {v : Value} {n : Nat} {xs : List Value} (h : w.ownsRow n0 t sz v n xs) (hn : 0 < n) : ∃ G cap, v = .slice (some ⟨G, 0, none⟩) n cap ∧ n0 ≤ G ∧ G < w.heap.size ∧ n ≤ cap ∧ cap ≤ 9223372036854775807 ∧ ∀ i x, xs[i]? = some x → w.cell? ⟨G, i, none⟩ = some x := by
  obtain ⟨h1, h2⟩ := h
  rcases h2 with ⟨_, h0⟩ | ⟨g, cap, cur, rfl, hb, hh, hc, hm, hs, ht⟩
  · omega
  · refine ⟨g, cap, rfl, hb, (Array.getElem?_eq_some_iff.1 hh).1, hc, hm, fun i x hx => ?_⟩
    have hi : i < xs.length := (List.getElem?_eq_some_iff.1 hx).1
    rw [cell_of_block hh, ← Array.getElem?_toList]
    have e : (cur.toList.take (n * sz))[i]? = xs[i]? := by rw [ht]
    rw [List.getElem?_take_of_lt (by omega)] at e
    rw [e, hx]
theorem StQ.cast {w : World} {n0 p bO bY : Nat} {lo ly : Int} {lv : Value} {gO gY : Option Nat} {x' y' : S7} {f : FuncId} {a : Array Value} (h : Calls Try.prog f a w (StQ w n0 p bO bY lo ly lv gO gY x')) (e : x' = y') : Calls Try.prog f a w (StQ w n0 p bO bY lo ly lv gO gY y') := e ▸ h
theorem stq_any {w : World} {n0 p : Nat} {lo ly : Int} {x : S7} {bO bY : Nat} {aO : Option Addr} {nO cO : Nat} {aY : Option Addr} {nY cY : Nat} {lv : Value} {gO gY rO rY : Option Nat} (hp0 : n0 ≤ p) (kp : w.heap[p]? = some (.cells (wcs bO bY lo ly aO nO cO aY nY cY lv) 47 (0, 0))) (hI : WIn w n0 bO bY lo ly x aO nO cO aY nY cY lv gO gY rO rY) (hsep : ∀ G, MS bO bY gO gY G ∨ rO = some G ∨ rY = some G ∨ lv.ownBlock = some G → G ≠ p) (hn : n0 ≤ w.heap.size) (kd k c f m s a b i u : Int) (raw : Bool) (hu : U64 u) (h2 : ¬ kd < 2) (h5 : ¬ 5 < kd) :
    Calls Try.prog 22 #[.pointer (some ⟨p, 0, none⟩), .agg #[.int .i64 kd, .int .i64 k, .int .i64 c, .int .i64 f, .int .i64 m, .int .i64 s, .int .i64 a, .int .i64 b, .int .i64 i, .int .u64 u, .bool raw]] w (StQ w n0 p bO bY lo ly lv gO gY (step7 lo ly x ⟨kd, k, c, f, m, s, a, b, i, u, raw⟩)) := by
  by_cases e2 : kd = 2
  · subst e2; exact StQ.cast (stq_2 hp0 kp hI hsep hn k c f m s a b i u raw hu) (by simp [step7])
  by_cases e3 : kd = 3
  · subst e3; exact StQ.cast (stq_3 hp0 kp hI hsep hn k c f m s a b i u raw hu) (by simp [step7])
  by_cases e4 : kd = 4
  · subst e4; exact StQ.cast (stq_4 hp0 kp hI hsep hn k c f m s a b i u raw hu) (by simp [step7])
  have e5 : kd = 5 := by omega
  subst e5; exact StQ.cast (stq_5 hp0 kp hI hsep hn k c f m s a b i u raw) (by simp [step7])
theorem hdr7_info : (Try.prog.info? 23).map (fun i => (i.zero, i.size, i.bytes)) = some (some (.agg #[.int .i64 0, .int .i64 0, .int .i64 0]), 3, 24) := by kernel_rfl
theorem id7_info : (Try.prog.info? 25).map (fun i => (i.zero, i.size, i.bytes)) = some (some (.agg #[.int .i64 0, .int .i64 0]), 2, 16) := by kernel_rfl
set_option maxRecDepth 100000 in
set_option maxHeartbeats 8000000 in
theorem okp_main (kd k c f m s a b i u : Int) (hu : U64 u) (A0 : Option Addr) (l : List Op7) (cap : Nat) (hcap : l.length ≤ cap) (hc63 : cap ≤ 9223372036854775807) (hl : ¬ 20 < l.length) (h2 : ¬ kd < 2) (h5 : ¬ 5 < kd) (w : World) (hops : Ops7 w A0 l) :
    Calls Try.prog 6 #[.slice A0 l.length cap, .agg #[.int .i64 kd, .int .i64 k, .int .i64 c, .int .i64 f, .int .i64 m, .int .i64 s, .int .i64 a, .int .i64 b, .int .i64 i, .int .u64 u, .bool false]] w fun e w' => e = .returned (.bool true) ∧ Below w.heap.size w w' := by
  have ha := awake7
  have hB := fun W (H : Below w.heap.size w W) => built7_any A0 l cap false hcap hc63 (by omega) W (hops.below H)
  have hd1 : decide (20 < l.length) = false := by simpa using hl
  have hd2 : decide (kd < 2) = false := by simpa using h2
  have hd3 : decide (5 < kd) = false := by simpa using h5
  have hXl := run7_len 200 16777416 false l ⟨[], [], []⟩
  simp only [List.length_nil] at hXl
  have hX24 : (run7 200 16777416 false ⟨[], [], []⟩ l).l.length ≤ 24 := by omega
  have hV := inv_run l _ inv_start
  have hlaw := keeps_law hV (o := ⟨kd, k, c, f, m, s, a, b, i, u, false⟩) rfl (by simp only; omega) (by simp only; omega) rfl rfl
  clear hops hXl
  generalize run7 200 16777416 false ⟨[], [], []⟩ l = X at *
  obtain ⟨Y, hY⟩ : ∃ Y, step7 200 16777416 X ⟨kd, k, c, f, m, s, a, b, i, u, false⟩ = Y := ⟨_, rfl⟩
  obtain ⟨ya, hya⟩ : ∃ ya, atW false X.l a = ya := ⟨_, rfl⟩
  simp only at hlaw
  rw [hY, hya] at hlaw
  obtain ⟨lw1, lw2, lw3, lw4, lw5, lw6, lw7, lw8, lw9⟩ := hlaw
  have Hw := And.intro (Lib.hid lw5) (Lib.hid lw6)
  have Hw8 := Lib.hid lw8
  have Hw9 := Lib.hid lw9
  have Hw7 := Lib.hid lw7
  clear lw5 lw6 lw7 lw8 lw9
  generalize l.length = n at *
  go_enter Try.func6, Try.ntmps6
  go_wp2_with fail
  refine (ha _).mono ?_
  rintro e w1 ⟨rfl, hb1⟩
  have hw1 : Below w.heap.size w w1 := by (repeat (first | exact Below.refl _ _ | assumption | refine Below.drew ?_ | refine below_drewN ?_ _ | refine balloc ?_ _ | refine Below.setCell ?_ (by first | (simp; done) | (simp; omega) | omega) _ | refine bchain (by assumption) ?_))
  have ko : w1.heap[w.heap.size]? = some (.cells #[.int .i64 kd, .int .i64 k, .int .i64 c, .int .i64 f, .int .i64 m, .int .i64 s, .int .i64 a, .int .i64 b, .int .i64 i, .int .u64 u, .bool false] 58 (0, 0)) := bblock hb1 (alloc_get _ _)
  have ko_0 : w1.cell? ⟨w.heap.size, 0, none⟩ = some (.int .i64 kd) := by rw [cell_of_block ko]; rfl
  have ko_10 : w1.cell? ⟨w.heap.size, 10, none⟩ = some (.bool false) := by rw [cell_of_block ko]; rfl
  go_wp2_with fail
  refine (hB _ hw1).mono ?_
  rintro e w2 ⟨bO, bY, aO, nO, cO, aY, nY, cY, lv, gO, gY, rO, rY, rfl, hI, hb2⟩
  obtain ⟨A, lc, rfl, hL, hlc, hlc63⟩ := lst_of_row hI.lst
  unfold wcs
  have hw2 := bchain hb2 hw1
  have hn1 : w1.heap.size ≤ w2.heap.size := hb2.size
  have hn2 : w.heap.size < w1.heap.size := (Array.getElem?_eq_some_iff.1 ko).1
  have hMS : ∀ k, MS bO bY gO gY k → w.heap.size ≤ k := fun k hk => Nat.le_trans hw1.size (hI.ms k hk)
  have ko := bblock hb2 ko
  clear hB hb1 hb2 hw1 ha hd1 ko_0 ko_10
  go_upto_region 8 with fail
  have kx : (w2.alloc (.cells #[.pointer (some ⟨bO, 0, none⟩), .pointer (some ⟨bY, 0, none⟩), .int .i64 0, .int .i64 200, .slice aO nO cO, .int .i64 16777216, .int .i64 16777416, .slice aY nY cY, .slice A X.l.length lc] 47)).heap[w2.heap.size]? = some (.cells #[.pointer (some ⟨bO, 0, none⟩), .pointer (some ⟨bY, 0, none⟩), .int .i64 0, .int .i64 200, .slice aO nO cO, .int .i64 16777216, .int .i64 16777416, .slice aY nY cY, .slice A X.l.length lc] 47 (0, 0)) := alloc_get _ _
  have ko : (w2.alloc (.cells #[.pointer (some ⟨bO, 0, none⟩), .pointer (some ⟨bY, 0, none⟩), .int .i64 0, .int .i64 200, .slice aO nO cO, .int .i64 16777216, .int .i64 16777416, .slice aY nY cY, .slice A X.l.length lc] 47)).heap[w.heap.size]? = _ := alloc_lt _ ko
  have hI3 := hI.below (balloc (Below.refl _ w2) (.cells #[.pointer (some ⟨bO, 0, none⟩), .pointer (some ⟨bY, 0, none⟩), .int .i64 0, .int .i64 200, .slice aO nO cO, .int .i64 16777216, .int .i64 16777416, .slice aY nY cY, .slice A X.l.length lc] 47))
  have hpS : ∀ G, MS bO bY gO gY G ∨ rO = some G ∨ rY = some G ∨ (Value.slice A X.l.length lc).ownBlock = some G → G ≠ w2.heap.size := fun G e => Nat.ne_of_lt (hI.lt G e)
  have hw3 : Below w.heap.size w (w2.alloc (.cells #[.pointer (some ⟨bO, 0, none⟩), .pointer (some ⟨bY, 0, none⟩), .int .i64 0, .int .i64 200, .slice aO nO cO, .int .i64 16777216, .int .i64 16777416, .slice aY nY cY, .slice A X.l.length lc] 47)) := hw2.alloc hw2.size _
  obtain ⟨p, hp⟩ : ∃ p, w2.heap.size = p := ⟨_, rfl⟩
  have hp0 : w.heap.size ≤ p := by rw [← hp]; exact hw2.size
  obtain ⟨w3, hw3e⟩ : ∃ w3, (w2.alloc (.cells #[.pointer (some ⟨bO, 0, none⟩), .pointer (some ⟨bY, 0, none⟩), .int .i64 0, .int .i64 200, .slice aO nO cO, .int .i64 16777216, .int .i64 16777416, .slice aY nY cY, .slice A X.l.length lc] 47)) = w3 := ⟨_, rfl⟩
  rw [hw3e] at kx ko hI3 hw3 ⊢
  rw [hp] at kx hpS hn1 ⊢
  have hkx3 := kx
  have HpS := Lib.hid hpS
  clear hw3e hp hI hw2 hL hpS
  have kx_0 : w3.cell? ⟨p, 0, none⟩ = some (.pointer (some ⟨bO, 0, none⟩)) := by rw [cell_of_block kx]; rfl
  have kx_1 : w3.cell? ⟨p, 1, none⟩ = some (.pointer (some ⟨bY, 0, none⟩)) := by rw [cell_of_block kx]; rfl
  have kx_8 : w3.cell? ⟨p, 8, none⟩ = some (.slice A X.l.length lc) := by rw [cell_of_block kx]; rfl
  have hz_kx : p < w3.heap.size := (Array.getElem?_eq_some_iff.1 kx).1
  have hz_ko : w.heap.size < w3.heap.size := (Array.getElem?_eq_some_iff.1 ko).1
  rcases hM : X.l.length with _ | M
  · rw [hM] at kx_8
    go_wp2
    go_ret
    exact ⟨rfl, by (repeat (first | exact Below.refl _ _ | assumption | refine Below.drew ?_ | refine below_drewN ?_ _ | refine balloc ?_ _ | refine Below.setCell ?_ (by first | (simp; done) | (simp; omega) | omega) _ | refine bchain (by assumption) ?_))⟩
  have hm0 : MemAt w3 bO bY 200 16777416 X.wo X.wy gO gY := hI3.mem
  have hn0 := hm0.fresh
  obtain ⟨G0, c0, e0, hG0, hG1, hlc0, _, hq0⟩ := row_openS hI3.lst (by omega)
  cases e0
  have hq : ∀ i x, X.l[i]? = some x → w3.cell? ⟨G0, i, none⟩ = some (.int .i64 x) := fun i x hx => hq0 i _ (by rw [List.getElem?_map, hx]; rfl)
  have hW1 := fun W (H : MemAt W bO bY 200 16777416 X.wo X.wy gO gY) => words7_row H
  rw [hM] at kx kx_8 hX24 hlc
  clear hq0
  go_wp2_with fail
  refine (hW1 _ hm0).mono ?_
  rintro e w4 ⟨vb, rfl, hvb, hb4⟩
  have hvb := row_base7 hvb (Nat.le_refl w3.heap.size)
  have hB4 : Below w3.heap.size w3 w4 := hb4
  have kx := bblock hB4 kx
  have ko := bblock hB4 ko
  have hm4 := hm0.below hB4
  clear kx_0 kx_1 kx_8 hz_kx hz_ko hb4
  have kx_0 : w4.cell? ⟨p, 0, none⟩ = some (.pointer (some ⟨bO, 0, none⟩)) := by rw [cell_of_block kx]; rfl
  have kx_1 : w4.cell? ⟨p, 1, none⟩ = some (.pointer (some ⟨bY, 0, none⟩)) := by rw [cell_of_block kx]; rfl
  have kx_8 : w4.cell? ⟨p, 8, none⟩ = some (.slice (some ⟨G0, 0, none⟩) (M + 1) lc) := by rw [cell_of_block kx]; rfl
  have hz_kx : p < w4.heap.size := (Array.getElem?_eq_some_iff.1 kx).1
  have hz_ko : w.heap.size < w4.heap.size := (Array.getElem?_eq_some_iff.1 ko).1
  have hr8 := (World.ownsRow_made w4 (base := w4.heap.size) (e := 23) (size := 3) #[] 0 (by simp) (Nat.zero_le _) rfl).alloc (.cells #[] 25)
  have hr9 := World.ownsRow_made (w4.alloc (.cells #[] 23)) (base := w4.heap.size) (e := 25) (size := 2) #[] 0 (by simp) (Nat.zero_le _) rfl
  rw [World.size_alloc] at hr9
  go_wp2_with fail
  go_loopw [8, 9, 10] (fun p8 p9 q wr => ∃ t : Nat, t ≤ M + 1 ∧ q = .int .i64 t ∧ wr.ownsRow w4.heap.size 23 3 p8 t (hcl X.wo X.wy (X.l.take t)) ∧ wr.ownsRow w4.heap.size 25 2 p9 t (icl X.wo X.wy (X.l.take t)) ∧ (∀ G, p8.ownBlock = some G → p9.ownBlock ≠ some G) ∧ Below w4.heap.size w4 wr) (fun p8 p9 q wr => M + 1 - (intOf q).toNat)
  case atStart => exact ⟨0, Nat.zero_le _, rfl, by simpa [hcl] using hr8, by simpa [icl] using hr9, fun G e e' => (by simp only [Value.ownBlock, Option.some.injEq] at e e'; omega), balloc (balloc (Below.refl _ _) _) _⟩
  case round =>
    obtain ⟨t, ht, rfl, hr8', hr9', hne, hbr⟩ := hrel
    clear hr8 hr9 kx_0 kx_1 kx_8 hz_kx hz_ko
    have kx := bblock hbr kx
    have ko := bblock hbr ko
    have hmr := hm4.below hbr
    have hvb := row_below7 hvb hbr
    have kx_0 : wr.cell? ⟨p, 0, none⟩ = some (.pointer (some ⟨bO, 0, none⟩)) := by rw [cell_of_block kx]; rfl
    have kx_1 : wr.cell? ⟨p, 1, none⟩ = some (.pointer (some ⟨bY, 0, none⟩)) := by rw [cell_of_block kx]; rfl
    have kx_8 : wr.cell? ⟨p, 8, none⟩ = some (.slice (some ⟨G0, 0, none⟩) (M + 1) lc) := by rw [cell_of_block kx]; rfl
    have hz_kx : p < wr.heap.size := (Array.getElem?_eq_some_iff.1 kx).1
    have hz_ko : w.heap.size < wr.heap.size := (Array.getElem?_eq_some_iff.1 ko).1
    by_cases hlt : t < M + 1
    · obtain ⟨bt, hbt⟩ : ∃ bt, X.l[t]? = some bt := ⟨_, List.getElem?_eq_getElem (by omega)⟩
      have qt : wr.cell? ⟨G0, t, none⟩ = some (.int .i64 bt) := bcellv hbr (bcellv hB4 (hq t bt hbt))
      have hdt : decide ((t : Int) < (M : Int) + 1) = true := by simp; omega
      have hdl : (t : Int) < (M : Int) + 1 := by omega
      have s1 : ((t : Int)).toNat = t := by omega
      have u8lt := fun G e => (row_lt hr8' G e).1
      have u9lt := fun G e => (row_lt hr9' G e).1
      have hH := fun W (H : MemAt W bO bY 200 16777416 X.wo X.wy gO gY) => mhdr_any H bt
      have hD := fun W (H : MemAt W bO bY 200 16777416 X.wo X.wy gO gY) => mid_any H bt
      rw [hV.hd bt (List.mem_of_getElem? hbt)] at hH hD
      go_wp2_with fail
      go_cut [11, 12] from 63 to 99 (fun s11 s12 wx => ∃ V, s11 = .pointer (some ⟨V, 0, none⟩) ∧ s12 = .int .i64 0 ∧ wx.heap[V]? = some (.cells #[.int .i64 (HK X.wo X.wy bt), .int .i64 (HC X.wo X.wy bt), .int .i64 (HF X.wo X.wy bt)] 23 (0, 0)) ∧ wr.heap.size ≤ V ∧ Below wr.heap.size wr wx)
      case first =>
        have hBa : Below wr.heap.size wr (wr.alloc (.cells #[.int .i64 0, .int .i64 0, .int .i64 0] 23)).drew := by (repeat (first | exact Below.refl _ _ | assumption | refine Below.drew ?_ | refine below_drewN ?_ _ | refine balloc ?_ _ | refine Below.setCell ?_ (by first | (simp; done) | (simp; omega) | omega) _ | refine bchain (by assumption) ?_))
        have hBb : Below wr.heap.size wr wr.drew := (Below.refl _ _).drew
        have hmA := hmr.below hBa
        have hmB := hmr.below hBb
        have hne_kx_0 : p ≠ wr.heap.size := Nat.ne_of_lt (World.block_lt_of_cell? _ _ kx_0)
        have hne_kx_1 : p ≠ wr.heap.size := Nat.ne_of_lt (World.block_lt_of_cell? _ _ kx_1)
        have hne_kx_8 : p ≠ wr.heap.size := Nat.ne_of_lt (World.block_lt_of_cell? _ _ kx_8)
        have hne_qt : G0 ≠ wr.heap.size := Nat.ne_of_lt (World.block_lt_of_cell? _ _ qt)
        go_region_held3 (fun w' => w'.cell? ⟨p, 0, none⟩ = some (.pointer (some ⟨bO, 0, none⟩)) ∧ w'.cell? ⟨p, 1, none⟩ = some (.pointer (some ⟨bY, 0, none⟩)) ∧ w'.cell? ⟨p, 8, none⟩ = some (.slice (some ⟨G0, 0, none⟩) (M + 1) lc) ∧ w'.cell? ⟨G0, t, none⟩ = some (.int .i64 bt)) (first | (with_reducible exact ⟨kx_0, kx_1, kx_8, qt⟩) | (with_reducible exact ⟨three_cell kx_0 hne_kx_0, three_cell kx_1 hne_kx_1, three_cell kx_8 hne_kx_8, three_cell qt hne_qt⟩) | go_keep) (first | (go_at_call 17; (with_reducible refine (hH _ hmA).mono ?_); rintro e w6 ⟨rfl, hb6⟩; have kx_0 := bcellv hb6 (show (wr.alloc (.cells #[.int .i64 0, .int .i64 0, .int .i64 0] 23)).drew.cell? _ = _ from bcellv (balloc (Below.refl _ wr) _) kx_0); have kx_1 := bcellv hb6 (show (wr.alloc (.cells #[.int .i64 0, .int .i64 0, .int .i64 0] 23)).drew.cell? _ = _ from bcellv (balloc (Below.refl _ wr) _) kx_1); have kx_8 := bcellv hb6 (show (wr.alloc (.cells #[.int .i64 0, .int .i64 0, .int .i64 0] 23)).drew.cell? _ = _ from bcellv (balloc (Below.refl _ wr) _) kx_8); have qt := bcellv hb6 (show (wr.alloc (.cells #[.int .i64 0, .int .i64 0, .int .i64 0] 23)).drew.cell? _ = _ from bcellv (balloc (Below.refl _ wr) _) qt); have kv := bblock hb6 (show (wr.alloc (.cells #[.int .i64 0, .int .i64 0, .int .i64 0] 23)).drew.heap[_]? = _ from alloc_get wr _); have kv_f : ∀ i, w6.frozen? ⟨wr.heap.size, i, none⟩ = false := frozen_of_block kv; have hzv : wr.heap.size < w6.heap.size := (Array.getElem?_eq_some_iff.1 kv).1; have kv_0 : w6.cell? ⟨wr.heap.size, 0, none⟩ = some (.int .i64 0) := (by rw [cell_of_block kv]; rfl); have kv_1 : w6.cell? ⟨wr.heap.size, 1, none⟩ = some (.int .i64 0) := (by rw [cell_of_block kv]; rfl); have kv_2 : w6.cell? ⟨wr.heap.size, 2, none⟩ = some (.int .i64 0) := (by rw [cell_of_block kv]; rfl)) | (go_at_call 17; (with_reducible refine (hH _ hmB).mono ?_); rintro e w6 ⟨rfl, hb6⟩; have kx_0 := bcellv hb6 (show wr.drew.cell? _ = _ from kx_0); have kx_1 := bcellv hb6 (show wr.drew.cell? _ = _ from kx_1); have kx_8 := bcellv hb6 (show wr.drew.cell? _ = _ from kx_8); have qt := bcellv hb6 (show wr.drew.cell? _ = _ from qt)))
        all_goals (try go_wp2_with fail)
        all_goals go_meet
        all_goals (first | exact ⟨_, rfl, rfl, alloc_get _ _, hb6.size, (by (repeat (first | exact Below.refl _ _ | assumption | refine Below.drew ?_ | refine below_drewN ?_ _ | refine balloc ?_ _ | refine Below.setCell ?_ (by first | (simp; done) | (simp; omega) | omega) _ | refine bchain (by assumption) ?_)))⟩ | exact ⟨_, rfl, rfl, three_set kv, Nat.le_refl _, (by (repeat (first | exact Below.refl _ _ | assumption | refine Below.drew ?_ | refine below_drewN ?_ _ | refine balloc ?_ _ | refine Below.setCell ?_ (by first | (simp; done) | (simp; omega) | omega) _ | refine bchain (by assumption) ?_)))⟩)
      case rest =>
        obtain ⟨V3, rfl, rfl, kV3, hV3, hbc⟩ := hcut
        have kx := bblock hbc kx
        have ko := bblock hbc ko
        have hmc := hmr.below hbc
        have hvb := row_below7 hvb hbc
        have hr8' := row_below7 hr8' hbc
        have hr9' := row_below7 hr9' hbc
        have qt := bcellv hbc qt
        have hsz : wr.heap.size ≤ wc.heap.size := hbc.size
        have hbr := bchain hbc hbr
        clear kx_0 kx_1 kx_8 hz_kx hz_ko hmr hbc
        obtain ⟨w7, hw7⟩ : ∃ w7, w7 = wc := ⟨_, rfl⟩
        subst hw7
        have kx_0 : w7.cell? ⟨p, 0, none⟩ = some (.pointer (some ⟨bO, 0, none⟩)) := by rw [cell_of_block kx]; rfl
        have kx_1 : w7.cell? ⟨p, 1, none⟩ = some (.pointer (some ⟨bY, 0, none⟩)) := by rw [cell_of_block kx]; rfl
        have kx_8 : w7.cell? ⟨p, 8, none⟩ = some (.slice (some ⟨G0, 0, none⟩) (M + 1) lc) := by rw [cell_of_block kx]; rfl
        have hz_kx : p < w7.heap.size := (Array.getElem?_eq_some_iff.1 kx).1
        have hz_ko : w.heap.size < w7.heap.size := (Array.getElem?_eq_some_iff.1 ko).1
        go_wp2_with fail
        go_cut [13, 14] from 63 to 99 (fun s11 s12 wx => ∃ V, s11 = .pointer (some ⟨V, 0, none⟩) ∧ s12 = .int .i64 0 ∧ wx.heap[V]? = some (.cells #[.int .i64 (OM X.wo X.wy bt), .int .i64 (OS X.wo X.wy bt)] 25 (0, 0)) ∧ w7.heap.size ≤ V ∧ Below w7.heap.size w7 wx)
        case first =>
          have hBa : Below w7.heap.size w7 (w7.alloc (.cells #[.int .i64 0, .int .i64 0] 25)).drew := by (repeat (first | exact Below.refl _ _ | assumption | refine Below.drew ?_ | refine below_drewN ?_ _ | refine balloc ?_ _ | refine Below.setCell ?_ (by first | (simp; done) | (simp; omega) | omega) _ | refine bchain (by assumption) ?_))
          have hBb : Below w7.heap.size w7 w7.drew := (Below.refl _ _).drew
          have hmA := hmc.below hBa
          have hmB := hmc.below hBb
          have hne_kx_0 : p ≠ w7.heap.size := Nat.ne_of_lt (World.block_lt_of_cell? _ _ kx_0)
          have hne_kx_1 : p ≠ w7.heap.size := Nat.ne_of_lt (World.block_lt_of_cell? _ _ kx_1)
          have hne_kx_8 : p ≠ w7.heap.size := Nat.ne_of_lt (World.block_lt_of_cell? _ _ kx_8)
          have hne_qt : G0 ≠ w7.heap.size := Nat.ne_of_lt (World.block_lt_of_cell? _ _ qt)
          go_region_held3 (fun w' => w'.cell? ⟨p, 0, none⟩ = some (.pointer (some ⟨bO, 0, none⟩)) ∧ w'.cell? ⟨p, 1, none⟩ = some (.pointer (some ⟨bY, 0, none⟩)) ∧ w'.cell? ⟨p, 8, none⟩ = some (.slice (some ⟨G0, 0, none⟩) (M + 1) lc) ∧ w'.cell? ⟨G0, t, none⟩ = some (.int .i64 bt)) (first | (with_reducible exact ⟨kx_0, kx_1, kx_8, qt⟩) | (with_reducible exact ⟨two_cell7 kx_0 hne_kx_0, two_cell7 kx_1 hne_kx_1, two_cell7 kx_8 hne_kx_8, two_cell7 qt hne_qt⟩) | go_keep) (first | (go_at_call 20; (with_reducible refine (hD _ hmA).mono ?_); rintro e w6 ⟨rfl, hb6⟩; have kx_0 := bcellv hb6 (show (w7.alloc (.cells #[.int .i64 0, .int .i64 0] 25)).drew.cell? _ = _ from bcellv (balloc (Below.refl _ w7) _) kx_0); have kx_1 := bcellv hb6 (show (w7.alloc (.cells #[.int .i64 0, .int .i64 0] 25)).drew.cell? _ = _ from bcellv (balloc (Below.refl _ w7) _) kx_1); have kx_8 := bcellv hb6 (show (w7.alloc (.cells #[.int .i64 0, .int .i64 0] 25)).drew.cell? _ = _ from bcellv (balloc (Below.refl _ w7) _) kx_8); have qt := bcellv hb6 (show (w7.alloc (.cells #[.int .i64 0, .int .i64 0] 25)).drew.cell? _ = _ from bcellv (balloc (Below.refl _ w7) _) qt); have kv := bblock hb6 (show (w7.alloc (.cells #[.int .i64 0, .int .i64 0] 25)).drew.heap[_]? = _ from alloc_get w7 _); have kv_f : ∀ i, w6.frozen? ⟨w7.heap.size, i, none⟩ = false := frozen_of_block kv; have hzv : w7.heap.size < w6.heap.size := (Array.getElem?_eq_some_iff.1 kv).1; have kv_0 : w6.cell? ⟨w7.heap.size, 0, none⟩ = some (.int .i64 0) := (by rw [cell_of_block kv]; rfl); have kv_1 : w6.cell? ⟨w7.heap.size, 1, none⟩ = some (.int .i64 0) := (by rw [cell_of_block kv]; rfl)) | (go_at_call 20; (with_reducible refine (hD _ hmB).mono ?_); rintro e w6 ⟨rfl, hb6⟩; have kx_0 := bcellv hb6 (show w7.drew.cell? _ = _ from kx_0); have kx_1 := bcellv hb6 (show w7.drew.cell? _ = _ from kx_1); have kx_8 := bcellv hb6 (show w7.drew.cell? _ = _ from kx_8); have qt := bcellv hb6 (show w7.drew.cell? _ = _ from qt)))
          all_goals (try go_wp2_with fail)
          all_goals go_meet
          all_goals (first | exact ⟨_, rfl, rfl, alloc_get _ _, hb6.size, (by (repeat (first | exact Below.refl _ _ | assumption | refine Below.drew ?_ | refine below_drewN ?_ _ | refine balloc ?_ _ | refine Below.setCell ?_ (by first | (simp; done) | (simp; omega) | omega) _ | refine bchain (by assumption) ?_)))⟩ | exact ⟨_, rfl, rfl, two_set7 kv, Nat.le_refl _, (by (repeat (first | exact Below.refl _ _ | assumption | refine Below.drew ?_ | refine below_drewN ?_ _ | refine balloc ?_ _ | refine Below.setCell ?_ (by first | (simp; done) | (simp; omega) | omega) _ | refine bchain (by assumption) ?_)))⟩)
        case rest =>
          obtain ⟨V2, rfl, rfl, kV2, hV2, hbc⟩ := hcut
          have kV3 := bblock hbc kV3
          have hr8' := row_below7 hr8' hbc
          have hr9' := row_below7 hr9' hbc
          have hsz2 : wr.heap.size ≤ wc.heap.size := Nat.le_trans hsz hbc.size
          have hbr := bchain hbc hbr
          clear kx_0 kx_1 kx_8 hz_kx hz_ko hmc hbc kx ko hvb
          obtain ⟨w8, hw8⟩ : ∃ w8, w8 = wc := ⟨_, rfl⟩
          subst hw8
          have e0 : w8.cell? ⟨V3, 0, none⟩ = some (.int .i64 (HK X.wo X.wy bt)) := by rw [cell_of_block kV3]; rfl
          have e1 : w8.cell? ⟨V3, 1, none⟩ = some (.int .i64 (HC X.wo X.wy bt)) := by rw [cell_of_block kV3]; rfl
          have e2 : w8.cell? ⟨V3, 2, none⟩ = some (.int .i64 (HF X.wo X.wy bt)) := by rw [cell_of_block kV3]; rfl
          have e3 : w8.cell? ⟨V2, 0, none⟩ = some (.int .i64 (OM X.wo X.wy bt)) := by rw [cell_of_block kV2]; rfl
          have e4 : w8.cell? ⟨V2, 1, none⟩ = some (.int .i64 (OS X.wo X.wy bt)) := by rw [cell_of_block kV2]; rfl
          have hz3 : V3 < w8.heap.size := (Array.getElem?_eq_some_iff.1 kV3).1
          have hz2 : V2 < w8.heap.size := (Array.getElem?_eq_some_iff.1 kV2).1
          obtain ⟨iH, hiH, zH0, zH1, zH2⟩ := info_parts hdr7_info
          obtain ⟨iI, hiI, zI0, zI1, zI2⟩ := info_parts id7_info
          have hml : maxLen = 9223372036854775807 := rfl
          have r8 := hr8'
          have r9 := hr9'
          have hne8 := hne
          have hbq := hbr
          have hz4 : w4.heap.size ≤ w8.heap.size := hbr.size
          have n83 : u8.ownBlock ≠ some V3 := fun e => by have := u8lt V3 e; omega
          have n82 : u8.ownBlock ≠ some V2 := fun e => by have := u8lt V2 e; omega
          have n93 : u9.ownBlock ≠ some V3 := fun e => by have := u9lt V3 e; omega
          have n92 : u9.ownBlock ≠ some V2 := fun e => by have := u9lt V2 e; omega
          clear hr8' hr9' hne hbr kV3 kV2
          have hkeep : True := trivial
          obtain ⟨wq, hwq⟩ : ∃ q, q = w8 := ⟨_, rfl⟩
          subst hwq
          go_wp2_with fail
          go_region_held3 (fun w' => w'.cell? ⟨V3, 0, none⟩ = some (.int .i64 (HK X.wo X.wy bt)) ∧ w'.cell? ⟨V3, 1, none⟩ = some (.int .i64 (HC X.wo X.wy bt)) ∧ w'.cell? ⟨V3, 2, none⟩ = some (.int .i64 (HF X.wo X.wy bt)) ∧ w'.cell? ⟨V2, 0, none⟩ = some (.int .i64 (OM X.wo X.wy bt)) ∧ w'.cell? ⟨V2, 1, none⟩ = some (.int .i64 (OS X.wo X.wy bt))) (first | (with_reducible exact ⟨e0, e1, e2, e3, e4⟩) | go_keep) (first
              | (refine step_append_news (by rfl) (.tmp 92) (.tmp 94) 60 (by rfl) w4.heap.size 23 iH (.agg #[.int .i64 0, .int .i64 0, .int .i64 0]) 3 24 Try.underlying60 hiH zH0 zH1 zH2 rfl (by decide) u8 t _ (by rfl) (row_below7 r8 (show Below wq.heap.size wq _ from by (repeat (first | exact Below.refl _ _ | assumption | refine Below.drew ?_ | refine below_drewN ?_ _ | refine balloc ?_ _ | refine Below.setCell ?_ (by first | (simp; done) | (simp; omega) | omega) _ | refine bchain (by assumption) ?_)))) _ 1 1 [.int .i64 (HK X.wo X.wy bt), .int .i64 (HC X.wo X.wy bt), .int .i64 (HF X.wo X.wy bt)] (by rfl) (by rfl) (.inr ⟨_, rfl, ?_⟩) ?_ (by omega) (by omega) ?_ ?_; (intro j z hj; rcases j with _ | _ | _ | j <;> simp at hj <;> subst hj <;> first | (simp [go_sem]; done) | (simp only [Addr.add_lit]; refine hkeep _ _ _ ?_ ?_; omega; simp [go_sem])); (intro z hz; simp at hz; rcases hz with rfl | rfl | rfl <;> rfl); (exact Nat.le_trans hz4 (Below.size (show Below wq.heap.size wq _ from by (repeat (first | exact Below.refl _ _ | assumption | refine Below.drew ?_ | refine below_drewN ?_ _ | refine balloc ?_ _ | refine Below.setCell ?_ (by first | (simp; done) | (simp; omega) | omega) _ | refine bchain (by assumption) ?_))))); intro v8 wn hown hg hat; have hbz := app_keep (show Below wq.heap.size wq _ from by (repeat (first | exact Below.refl _ _ | assumption | refine Below.drew ?_ | refine below_drewN ?_ _ | refine balloc ?_ _ | refine Below.setCell ?_ (by first | (simp; done) | (simp; omega) | omega) _ | refine bchain (by assumption) ?_))) hg (fun G e => (row_lt r8 G e).2) hz4 hbq; have hkeep := app_hold hg u8lt; have hnn := app_ne8 (show Below wq.heap.size wq _ from by (repeat (first | exact Below.refl _ _ | assumption | refine Below.drew ?_ | refine below_drewN ?_ _ | refine balloc ?_ _ | refine Below.setCell ?_ (by first | (simp; done) | (simp; omega) | omega) _ | refine bchain (by assumption) ?_))) hne8 r9 hat; have r9 := app_row (show Below wq.heap.size wq _ from by (repeat (first | exact Below.refl _ _ | assumption | refine Below.drew ?_ | refine below_drewN ?_ _ | refine balloc ?_ _ | refine Below.setCell ?_ (by first | (simp; done) | (simp; omega) | omega) _ | refine bchain (by assumption) ?_))) hg r9 (fun G e e' => hne8 G e' e); have e0 := app_cell (show Below wq.heap.size wq _ from by (repeat (first | exact Below.refl _ _ | assumption | refine Below.drew ?_ | refine below_drewN ?_ _ | refine balloc ?_ _ | refine Below.setCell ?_ (by first | (simp; done) | (simp; omega) | omega) _ | refine bchain (by assumption) ?_))) hg e0 n83; have e1 := app_cell (show Below wq.heap.size wq _ from by (repeat (first | exact Below.refl _ _ | assumption | refine Below.drew ?_ | refine below_drewN ?_ _ | refine balloc ?_ _ | refine Below.setCell ?_ (by first | (simp; done) | (simp; omega) | omega) _ | refine bchain (by assumption) ?_))) hg e1 n83; have e2 := app_cell (show Below wq.heap.size wq _ from by (repeat (first | exact Below.refl _ _ | assumption | refine Below.drew ?_ | refine below_drewN ?_ _ | refine balloc ?_ _ | refine Below.setCell ?_ (by first | (simp; done) | (simp; omega) | omega) _ | refine bchain (by assumption) ?_))) hg e2 n83; have e3 := app_cell (show Below wq.heap.size wq _ from by (repeat (first | exact Below.refl _ _ | assumption | refine Below.drew ?_ | refine below_drewN ?_ _ | refine balloc ?_ _ | refine Below.setCell ?_ (by first | (simp; done) | (simp; omega) | omega) _ | refine bchain (by assumption) ?_))) hg e3 n82; have e4 := app_cell (show Below wq.heap.size wq _ from by (repeat (first | exact Below.refl _ _ | assumption | refine Below.drew ?_ | refine below_drewN ?_ _ | refine balloc ?_ _ | refine Below.setCell ?_ (by first | (simp; done) | (simp; omega) | omega) _ | refine bchain (by assumption) ?_))) hg e4 n82; have hz4 : w4.heap.size ≤ wn.heap.size := hbz.size; have r8 := hown; have hbq := hbz; have hne8 := hnn; clear hg hat hown hbz hnn; obtain ⟨wq, hwq⟩ : ∃ q, q = wn := ⟨_, rfl⟩; subst hwq)
              | (refine step_append_news (by rfl) (.tmp 96) (.tmp 98) 61 (by rfl) w4.heap.size 25 iI (.agg #[.int .i64 0, .int .i64 0]) 2 16 Try.underlying61 hiI zI0 zI1 zI2 rfl (by decide) u9 t _ (by rfl) (row_below7 r9 (show Below wq.heap.size wq _ from by (repeat (first | exact Below.refl _ _ | assumption | refine Below.drew ?_ | refine below_drewN ?_ _ | refine balloc ?_ _ | refine Below.setCell ?_ (by first | (simp; done) | (simp; omega) | omega) _ | refine bchain (by assumption) ?_)))) _ 1 1 [.int .i64 (OM X.wo X.wy bt), .int .i64 (OS X.wo X.wy bt)] (by rfl) (by rfl) (.inr ⟨_, rfl, ?_⟩) ?_ (by omega) (by omega) ?_ ?_; (intro j z hj; rcases j with _ | _ | _ | j <;> simp at hj <;> subst hj <;> first | (simp [go_sem]; done) | (simp only [Addr.add_lit]; refine hkeep _ _ _ ?_ ?_; omega; simp [go_sem])); (intro z hz; simp at hz; rcases hz with rfl | rfl <;> rfl); (exact Nat.le_trans hz4 (Below.size (show Below wq.heap.size wq _ from by (repeat (first | exact Below.refl _ _ | assumption | refine Below.drew ?_ | refine below_drewN ?_ _ | refine balloc ?_ _ | refine Below.setCell ?_ (by first | (simp; done) | (simp; omega) | omega) _ | refine bchain (by assumption) ?_))))); intro v9 wn hown hg hat; have hbz := app_keep (show Below wq.heap.size wq _ from by (repeat (first | exact Below.refl _ _ | assumption | refine Below.drew ?_ | refine below_drewN ?_ _ | refine balloc ?_ _ | refine Below.setCell ?_ (by first | (simp; done) | (simp; omega) | omega) _ | refine bchain (by assumption) ?_))) hg (fun G e => (row_lt r9 G e).2) hz4 hbq; have hkeep := app_hold hg u9lt; have hnn := app_ne9 (show Below wq.heap.size wq _ from by (repeat (first | exact Below.refl _ _ | assumption | refine Below.drew ?_ | refine below_drewN ?_ _ | refine balloc ?_ _ | refine Below.setCell ?_ (by first | (simp; done) | (simp; omega) | omega) _ | refine bchain (by assumption) ?_))) hne8 r8 hat; have r8 := app_row (show Below wq.heap.size wq _ from by (repeat (first | exact Below.refl _ _ | assumption | refine Below.drew ?_ | refine below_drewN ?_ _ | refine balloc ?_ _ | refine Below.setCell ?_ (by first | (simp; done) | (simp; omega) | omega) _ | refine bchain (by assumption) ?_))) hg r8 (fun G e e' => hne8 G e e'); have e0 := app_cell (show Below wq.heap.size wq _ from by (repeat (first | exact Below.refl _ _ | assumption | refine Below.drew ?_ | refine below_drewN ?_ _ | refine balloc ?_ _ | refine Below.setCell ?_ (by first | (simp; done) | (simp; omega) | omega) _ | refine bchain (by assumption) ?_))) hg e0 n93; have e1 := app_cell (show Below wq.heap.size wq _ from by (repeat (first | exact Below.refl _ _ | assumption | refine Below.drew ?_ | refine below_drewN ?_ _ | refine balloc ?_ _ | refine Below.setCell ?_ (by first | (simp; done) | (simp; omega) | omega) _ | refine bchain (by assumption) ?_))) hg e1 n93; have e2 := app_cell (show Below wq.heap.size wq _ from by (repeat (first | exact Below.refl _ _ | assumption | refine Below.drew ?_ | refine below_drewN ?_ _ | refine balloc ?_ _ | refine Below.setCell ?_ (by first | (simp; done) | (simp; omega) | omega) _ | refine bchain (by assumption) ?_))) hg e2 n93; have e3 := app_cell (show Below wq.heap.size wq _ from by (repeat (first | exact Below.refl _ _ | assumption | refine Below.drew ?_ | refine below_drewN ?_ _ | refine balloc ?_ _ | refine Below.setCell ?_ (by first | (simp; done) | (simp; omega) | omega) _ | refine bchain (by assumption) ?_))) hg e3 n92; have e4 := app_cell (show Below wq.heap.size wq _ from by (repeat (first | exact Below.refl _ _ | assumption | refine Below.drew ?_ | refine below_drewN ?_ _ | refine balloc ?_ _ | refine Below.setCell ?_ (by first | (simp; done) | (simp; omega) | omega) _ | refine bchain (by assumption) ?_))) hg e4 n92; have hz4 : w4.heap.size ≤ wn.heap.size := hbz.size; have r9 := hown; have hbq := hbz; have hne8 := hnn; clear hg hat hown hbz hnn; obtain ⟨wq, hwq⟩ : ∃ q, q = wn := ⟨_, rfl⟩; subst hwq))
          all_goals (go_wp2; go_roundw)
          all_goals (first | (case rel => exact ⟨t + 1, by omega, by go_num, by rw [hcl_snoc X.wo X.wy hbt]; exact r8, by rw [icl_snoc X.wo X.wy hbt]; exact r9, hne8, hbq⟩) | skip)
          all_goals (simp [intOf]; omega)
    · have htM : t = M + 1 := by omega
      subst htM
      have hdt : decide ((M : Int) + 1 < (M : Int) + 1) = false := by simp
      rw [List.take_of_length_le (by omega)] at hr8' hr9'
      obtain ⟨G8, c8, rfl, g80, g81, g82, g83, q8⟩ := row_openS hr8' (by omega)
      obtain ⟨G9, c9, rfl, g90, g91, g92, g93, q9⟩ := row_openS hr9' (by omega)
      have hB3r : Below w3.heap.size w3 wr := bchain hbr hB4
      have hlst := row_below7 hI3.lst hB3r
      have hat := fun W (H : Below wr.heap.size wr W) => wat_row (.pointer (some ⟨bO, 0, none⟩)) (.pointer (some ⟨bY, 0, none⟩)) (.int .i64 0) (.int .i64 200) (.slice aO nO cO) (.int .i64 16777216) (.int .i64 16777416) (.slice aY nY cY) kd k c f m s a b i u false a (row_below7 hlst H)
      rw [hM, hya] at hat
      have hstep := fun W (H : Below wr.heap.size wr W) => stq_any (w := W) hn1 (bblock H (bblock hB3r hkx3)) ((hI3.below hB3r).below H) HpS.out (by have := H.size; have := hB3r.size; omega) kd k c f m s a b i u false hu (by omega) (by omega)
      rw [hY] at hstep
      clear kx_0 kx_1 kx_8 q8 q9 hW1 hmr hdt hne
      have kx_0 : wr.cell? ⟨p, 0, none⟩ = some (.pointer (some ⟨bO, 0, none⟩)) := by rw [cell_of_block kx]; rfl
      have kx_1 : wr.cell? ⟨p, 1, none⟩ = some (.pointer (some ⟨bY, 0, none⟩)) := by rw [cell_of_block kx]; rfl
      have kx_2 : wr.cell? ⟨p, 2, none⟩ = some (.int .i64 0) := by rw [cell_of_block kx]; rfl
      have kx_3 : wr.cell? ⟨p, 3, none⟩ = some (.int .i64 200) := by rw [cell_of_block kx]; rfl
      have kx_4 : wr.cell? ⟨p, 4, none⟩ = some (.slice aO nO cO) := by rw [cell_of_block kx]; rfl
      have kx_5 : wr.cell? ⟨p, 5, none⟩ = some (.int .i64 16777216) := by rw [cell_of_block kx]; rfl
      have kx_6 : wr.cell? ⟨p, 6, none⟩ = some (.int .i64 16777416) := by rw [cell_of_block kx]; rfl
      have kx_7 : wr.cell? ⟨p, 7, none⟩ = some (.slice aY nY cY) := by rw [cell_of_block kx]; rfl
      have kx_8 : wr.cell? ⟨p, 8, none⟩ = some (.slice (some ⟨G0, 0, none⟩) (M + 1) lc) := by rw [cell_of_block kx]; rfl
      have ko_0 : wr.cell? ⟨w.heap.size, 0, none⟩ = some (.int .i64 kd) := by rw [cell_of_block ko]; rfl
      have ko_1 : wr.cell? ⟨w.heap.size, 1, none⟩ = some (.int .i64 k) := by rw [cell_of_block ko]; rfl
      have ko_2 : wr.cell? ⟨w.heap.size, 2, none⟩ = some (.int .i64 c) := by rw [cell_of_block ko]; rfl
      have ko_3 : wr.cell? ⟨w.heap.size, 3, none⟩ = some (.int .i64 f) := by rw [cell_of_block ko]; rfl
      have ko_4 : wr.cell? ⟨w.heap.size, 4, none⟩ = some (.int .i64 m) := by rw [cell_of_block ko]; rfl
      have ko_5 : wr.cell? ⟨w.heap.size, 5, none⟩ = some (.int .i64 s) := by rw [cell_of_block ko]; rfl
      have ko_6 : wr.cell? ⟨w.heap.size, 6, none⟩ = some (.int .i64 a) := by rw [cell_of_block ko]; rfl
      have ko_7 : wr.cell? ⟨w.heap.size, 7, none⟩ = some (.int .i64 b) := by rw [cell_of_block ko]; rfl
      have ko_8 : wr.cell? ⟨w.heap.size, 8, none⟩ = some (.int .i64 i) := by rw [cell_of_block ko]; rfl
      have ko_9 : wr.cell? ⟨w.heap.size, 9, none⟩ = some (.int .u64 u) := by rw [cell_of_block ko]; rfl
      have ko_10 : wr.cell? ⟨w.heap.size, 10, none⟩ = some (.bool false) := by rw [cell_of_block ko]; rfl
      go_wp2_with fail
      refine (hat _ (by (repeat (first | exact Below.refl _ _ | assumption | refine Below.drew ?_ | refine below_drewN ?_ _ | refine balloc ?_ _ | refine Below.setCell ?_ (by first | (simp; done) | (simp; omega) | omega) _ | refine bchain (by assumption) ?_)))).mono ?_
      rintro e w5 ⟨rfl, hb5⟩
      have hB5 : Below wr.heap.size wr w5 := by (repeat (first | exact Below.refl _ _ | assumption | refine Below.drew ?_ | refine below_drewN ?_ _ | refine balloc ?_ _ | refine Below.setCell ?_ (by first | (simp; done) | (simp; omega) | omega) _ | refine bchain (by assumption) ?_))
      have kx := bblock hB5 kx
      have ko := bblock hB5 ko
      clear hz_kx hz_ko hb5 kx_0 kx_1 kx_2 kx_3 kx_4 kx_5 kx_6 kx_7 kx_8 ko_0 ko_1 ko_2 ko_3 ko_4 ko_5 ko_6 ko_7 ko_8 ko_9 ko_10
      have kx_0 : w5.cell? ⟨p, 0, none⟩ = some (.pointer (some ⟨bO, 0, none⟩)) := by rw [cell_of_block kx]; rfl
      have kx_1 : w5.cell? ⟨p, 1, none⟩ = some (.pointer (some ⟨bY, 0, none⟩)) := by rw [cell_of_block kx]; rfl
      have kx_2 : w5.cell? ⟨p, 2, none⟩ = some (.int .i64 0) := by rw [cell_of_block kx]; rfl
      have kx_3 : w5.cell? ⟨p, 3, none⟩ = some (.int .i64 200) := by rw [cell_of_block kx]; rfl
      have kx_4 : w5.cell? ⟨p, 4, none⟩ = some (.slice aO nO cO) := by rw [cell_of_block kx]; rfl
      have kx_5 : w5.cell? ⟨p, 5, none⟩ = some (.int .i64 16777216) := by rw [cell_of_block kx]; rfl
      have kx_6 : w5.cell? ⟨p, 6, none⟩ = some (.int .i64 16777416) := by rw [cell_of_block kx]; rfl
      have kx_7 : w5.cell? ⟨p, 7, none⟩ = some (.slice aY nY cY) := by rw [cell_of_block kx]; rfl
      have kx_8 : w5.cell? ⟨p, 8, none⟩ = some (.slice (some ⟨G0, 0, none⟩) (M + 1) lc) := by rw [cell_of_block kx]; rfl
      have ko_0 : w5.cell? ⟨w.heap.size, 0, none⟩ = some (.int .i64 kd) := by rw [cell_of_block ko]; rfl
      have ko_1 : w5.cell? ⟨w.heap.size, 1, none⟩ = some (.int .i64 k) := by rw [cell_of_block ko]; rfl
      have ko_2 : w5.cell? ⟨w.heap.size, 2, none⟩ = some (.int .i64 c) := by rw [cell_of_block ko]; rfl
      have ko_3 : w5.cell? ⟨w.heap.size, 3, none⟩ = some (.int .i64 f) := by rw [cell_of_block ko]; rfl
      have ko_4 : w5.cell? ⟨w.heap.size, 4, none⟩ = some (.int .i64 m) := by rw [cell_of_block ko]; rfl
      have ko_5 : w5.cell? ⟨w.heap.size, 5, none⟩ = some (.int .i64 s) := by rw [cell_of_block ko]; rfl
      have ko_6 : w5.cell? ⟨w.heap.size, 6, none⟩ = some (.int .i64 a) := by rw [cell_of_block ko]; rfl
      have ko_7 : w5.cell? ⟨w.heap.size, 7, none⟩ = some (.int .i64 b) := by rw [cell_of_block ko]; rfl
      have ko_8 : w5.cell? ⟨w.heap.size, 8, none⟩ = some (.int .i64 i) := by rw [cell_of_block ko]; rfl
      have ko_9 : w5.cell? ⟨w.heap.size, 9, none⟩ = some (.int .u64 u) := by rw [cell_of_block ko]; rfl
      have ko_10 : w5.cell? ⟨w.heap.size, 10, none⟩ = some (.bool false) := by rw [cell_of_block ko]; rfl
      have hz_kx : p < w5.heap.size := (Array.getElem?_eq_some_iff.1 kx).1
      have hz_ko : w.heap.size < w5.heap.size := (Array.getElem?_eq_some_iff.1 ko).1
      go_wp2_with fail
      refine (hstep _ (by (repeat (first | exact Below.refl _ _ | assumption | refine Below.drew ?_ | refine below_drewN ?_ _ | refine balloc ?_ _ | refine Below.setCell ?_ (by first | (simp; done) | (simp; omega) | omega) _ | refine bchain (by assumption) ?_)))).mono ?_
      rintro e w6 ⟨rfl, ⟨aO', nO', cO', aY', nY', cY', rO', rY', kp6, hI6, hsp6⟩, hX6⟩
      have hp3 : p < w3.heap.size := (Array.getElem?_eq_some_iff.1 hkx3).1
      have hps : ∀ G, w3.heap.size ≤ G → ¬ (G = p ∨ MS bO bY gO gY G) := fun G hG e => e.elim (fun e => by omega) (hn0 G hG)
      have hvb5 := row_below7 hvb hB5
      have hvb := row_keep hvb5 (fun G o e ho => mblock hX6 ho (hps G (row_lt hvb5 G e).2))
      have hr85 := row_below7 hr8' hB5
      have hr8 := row_keep hr85 (fun G o e ho => mblock hX6 ho (hps G (Nat.le_trans hB4.size (row_lt hr85 G e).2)))
      have hr95 := row_below7 hr9' hB5
      have hr9 := row_keep hr95 (fun G o e ho => mblock hX6 ho (hps G (Nat.le_trans hB4.size (row_lt hr95 G e).2)))
      have ko := mblock hX6 ko (fun e => e.elim (fun e => by omega) (fun e => by have := hI3.ms _ e; omega))
      have kx : w6.heap[p]? = some (.cells #[.pointer (some ⟨bO, 0, none⟩), .pointer (some ⟨bY, 0, none⟩), .int .i64 0, .int .i64 200, .slice aO' nO' cO', .int .i64 16777216, .int .i64 16777416, .slice aY' nY' cY', .slice (some ⟨G0, 0, none⟩) X.l.length lc] 47 (0, 0)) := kp6
      rw [hM] at kx
      have hmY := hI6.mem
      have hl6 := hI6.lst
      rw [lw1] at hl6
      obtain ⟨_, _, e6, _, _, _, _, hq6⟩ := row_openS hl6 (by omega)
      cases e6
      have hqY : ∀ i x, X.l[i]? = some x → w6.cell? ⟨G0, i, none⟩ = some (.int .i64 x) := fun i x hx => hq6 i _ (by rw [List.getElem?_map, hx]; rfl)
      have hW2 := fun W (H : MemAt W bO bY 200 16777416 Y.wo Y.wy gO gY) => words7_row H
      have hB36 : Mods (fun k => k = p ∨ MS bO bY gO gY k) w3 w6 := (Mods.of_below (bchain hB5 hB3r)).trans hX6 (fun i hi => .inl hi)
      clear hstep hat hq6 hl6 kp6 hsp6 hX6 hI6 hvb5 hr85 hr95 hr8' hr9' hlst hB5 hB3r hbr hz_kx hz_ko kx_0 kx_1 kx_2 kx_3 kx_4 kx_5 kx_6 kx_7 kx_8 ko_0 ko_1 ko_2 ko_3 ko_4 ko_5 ko_6 ko_7 ko_8 ko_9 ko_10
      have kx_0 : w6.cell? ⟨p, 0, none⟩ = some (.pointer (some ⟨bO, 0, none⟩)) := by rw [cell_of_block kx]; rfl
      have kx_1 : w6.cell? ⟨p, 1, none⟩ = some (.pointer (some ⟨bY, 0, none⟩)) := by rw [cell_of_block kx]; rfl
      have kx_8 : w6.cell? ⟨p, 8, none⟩ = some (.slice (some ⟨G0, 0, none⟩) (M + 1) lc) := by rw [cell_of_block kx]; rfl
      have hz_kx : p < w6.heap.size := (Array.getElem?_eq_some_iff.1 kx).1
      have hz_ko : w.heap.size < w6.heap.size := (Array.getElem?_eq_some_iff.1 ko).1
      go_wp2_with fail
      refine (hW2 _ hmY).mono ?_
      rintro e w7 ⟨vc, rfl, hvc, hb7⟩
      have hB7 : Below w6.heap.size w6 w7 := hb7
      have kx := bblock hB7 kx
      have ko := bblock hB7 ko
      have hm7 := hmY.below hB7
      have hvb := row_below7 hvb hB7
      have hr8 := row_below7 hr8 hB7
      have hr9 := row_below7 hr9 hB7
      obtain ⟨_, _, e8, _, _, _, _, q8⟩ := row_openS hr8 (by omega)
      cases e8
      obtain ⟨_, _, e9, _, _, _, _, q9⟩ := row_openS hr9 (by omega)
      cases e9
      have hq7 : ∀ i x, X.l[i]? = some x → w7.cell? ⟨G0, i, none⟩ = some (.int .i64 x) := fun i x hx => bcellv hB7 (hqY i x hx)
      have hM7 := Mods.chain hB7 hB36
      clear kx_0 kx_1 kx_8 hz_kx hz_ko hqY hmY hb7 hW2 hB7 hB36
      go_wp2_with fail
      go_loopw [17] (fun q wr => ∃ t : Nat, t ≤ M + 1 ∧ q = .int .i64 t ∧ Below w7.heap.size w7 wr) (fun q wr => M + 1 - (intOf q).toNat)
      case atStart => exact ⟨0, Nat.zero_le _, rfl, Below.refl _ _⟩
      case round =>
        obtain ⟨t, ht, rfl, hbr⟩ := hrel
        have kx := bblock hbr kx
        have ko := bblock hbr ko
        have hmr := hm7.below hbr
        have kx_0 : wr.cell? ⟨p, 0, none⟩ = some (.pointer (some ⟨bO, 0, none⟩)) := by rw [cell_of_block kx]; rfl
        have kx_1 : wr.cell? ⟨p, 1, none⟩ = some (.pointer (some ⟨bY, 0, none⟩)) := by rw [cell_of_block kx]; rfl
        have kx_8 : wr.cell? ⟨p, 8, none⟩ = some (.slice (some ⟨G0, 0, none⟩) (M + 1) lc) := by rw [cell_of_block kx]; rfl
        have hz_kx : p < wr.heap.size := (Array.getElem?_eq_some_iff.1 kx).1
        have hz_ko : w.heap.size < wr.heap.size := (Array.getElem?_eq_some_iff.1 ko).1
        by_cases hlt : t < M + 1
        · obtain ⟨bt, hbt⟩ : ∃ bt, X.l[t]? = some bt := ⟨_, List.getElem?_eq_getElem (by omega)⟩
          have qt : wr.cell? ⟨G0, t, none⟩ = some (.int .i64 bt) := bcellv hbr (hq7 t bt hbt)
          have hdt : decide ((t : Int) < (M : Int) + 1) = true := by simp; omega
          have hdl : (t : Int) < (M : Int) + 1 := by omega
          have s1 : ((t : Int)).toNat = t := by omega
          have hH := fun W (H : MemAt W bO bY 200 16777416 Y.wo Y.wy gO gY) => mhdr_any H bt
          have hD := fun W (H : MemAt W bO bY 200 16777416 Y.wo Y.wy gO gY) => mid_any H bt
          obtain ⟨z1, z2, z3, z4, z5, z6, z7⟩ := Hw.1.out bt (List.mem_of_getElem? hbt)
          rw [z2, z5, z6] at hH
          rw [z2, z3, z4] at hD
          obtain ⟨p1, p2, p3⟩ := hcl_get X.wo X.wy hbt
          obtain ⟨p4, p5⟩ := icl_get X.wo X.wy hbt
          have c80 := bcellv hbr (q8 _ _ p1)
          have c81 := bcellv hbr (q8 _ _ p2)
          have c82 := bcellv hbr (q8 _ _ p3)
          have c90 := bcellv hbr (q9 _ _ p4)
          have c91 := bcellv hbr (q9 _ _ p5)
          generalize hkY : HK Y.wo Y.wy bt = hk' at *
          generalize HK X.wo X.wy bt = hkX at *
          generalize HC X.wo X.wy bt = hcX at *
          generalize HF X.wo X.wy bt = hfX at *
          generalize OM X.wo X.wy bt = omX at *
          generalize OS X.wo X.wy bt = osX at *
          clear z1 z2 z3 z4 z5 z6 p1 p2 p3 p4 p5 hkY
          go_wp2_with fail
          go_cut [18, 19] from 111 to 192 (fun s11 s12 wx => ∃ V, s11 = .pointer (some ⟨V, 0, none⟩) ∧ s12 = .int .i64 0 ∧ wx.heap[V]? = some (.cells #[.int .i64 hk', .int .i64 hcX, .int .i64 hfX] 23 (0, 0)) ∧ wr.heap.size ≤ V ∧ Below wr.heap.size wr wx)
          case first =>
            have hBa : Below wr.heap.size wr (wr.alloc (.cells #[.int .i64 0, .int .i64 0, .int .i64 0] 23)).drew := by (repeat (first | exact Below.refl _ _ | assumption | refine Below.drew ?_ | refine below_drewN ?_ _ | refine balloc ?_ _ | refine Below.setCell ?_ (by first | (simp; done) | (simp; omega) | omega) _ | refine bchain (by assumption) ?_))
            have hBb : Below wr.heap.size wr wr.drew := (Below.refl _ _).drew
            have hmA := hmr.below hBa
            have hmB := hmr.below hBb
            have hne_kx_0 : p ≠ wr.heap.size := Nat.ne_of_lt (World.block_lt_of_cell? _ _ kx_0)
            have hne_kx_1 : p ≠ wr.heap.size := Nat.ne_of_lt (World.block_lt_of_cell? _ _ kx_1)
            have hne_kx_8 : p ≠ wr.heap.size := Nat.ne_of_lt (World.block_lt_of_cell? _ _ kx_8)
            have hne_qt : G0 ≠ wr.heap.size := Nat.ne_of_lt (World.block_lt_of_cell? _ _ qt)
            go_region_held3 (fun w' => w'.cell? ⟨p, 0, none⟩ = some (.pointer (some ⟨bO, 0, none⟩)) ∧ w'.cell? ⟨p, 1, none⟩ = some (.pointer (some ⟨bY, 0, none⟩)) ∧ w'.cell? ⟨p, 8, none⟩ = some (.slice (some ⟨G0, 0, none⟩) (M + 1) lc) ∧ w'.cell? ⟨G0, t, none⟩ = some (.int .i64 bt)) (first | (with_reducible exact ⟨kx_0, kx_1, kx_8, qt⟩) | (with_reducible exact ⟨three_cell kx_0 hne_kx_0, three_cell kx_1 hne_kx_1, three_cell kx_8 hne_kx_8, three_cell qt hne_qt⟩) | go_keep) (first | (go_at_call 17; (with_reducible refine (hH _ hmA).mono ?_); rintro e w6 ⟨rfl, hb6⟩; have kx_0 := bcellv hb6 (show (wr.alloc (.cells #[.int .i64 0, .int .i64 0, .int .i64 0] 23)).drew.cell? _ = _ from bcellv (balloc (Below.refl _ wr) _) kx_0); have kx_1 := bcellv hb6 (show (wr.alloc (.cells #[.int .i64 0, .int .i64 0, .int .i64 0] 23)).drew.cell? _ = _ from bcellv (balloc (Below.refl _ wr) _) kx_1); have kx_8 := bcellv hb6 (show (wr.alloc (.cells #[.int .i64 0, .int .i64 0, .int .i64 0] 23)).drew.cell? _ = _ from bcellv (balloc (Below.refl _ wr) _) kx_8); have qt := bcellv hb6 (show (wr.alloc (.cells #[.int .i64 0, .int .i64 0, .int .i64 0] 23)).drew.cell? _ = _ from bcellv (balloc (Below.refl _ wr) _) qt); have kv := bblock hb6 (show (wr.alloc (.cells #[.int .i64 0, .int .i64 0, .int .i64 0] 23)).drew.heap[_]? = _ from alloc_get wr _); have kv_f : ∀ i, w6.frozen? ⟨wr.heap.size, i, none⟩ = false := frozen_of_block kv; have hzv : wr.heap.size < w6.heap.size := (Array.getElem?_eq_some_iff.1 kv).1; have kv_0 : w6.cell? ⟨wr.heap.size, 0, none⟩ = some (.int .i64 0) := (by rw [cell_of_block kv]; rfl); have kv_1 : w6.cell? ⟨wr.heap.size, 1, none⟩ = some (.int .i64 0) := (by rw [cell_of_block kv]; rfl); have kv_2 : w6.cell? ⟨wr.heap.size, 2, none⟩ = some (.int .i64 0) := (by rw [cell_of_block kv]; rfl)) | (go_at_call 17; (with_reducible refine (hH _ hmB).mono ?_); rintro e w6 ⟨rfl, hb6⟩; have kx_0 := bcellv hb6 (show wr.drew.cell? _ = _ from kx_0); have kx_1 := bcellv hb6 (show wr.drew.cell? _ = _ from kx_1); have kx_8 := bcellv hb6 (show wr.drew.cell? _ = _ from kx_8); have qt := bcellv hb6 (show wr.drew.cell? _ = _ from qt)))
            all_goals (try go_wp2_with fail)
            all_goals go_meet
            all_goals (first | exact ⟨_, rfl, rfl, alloc_get _ _, hb6.size, (by (repeat (first | exact Below.refl _ _ | assumption | refine Below.drew ?_ | refine below_drewN ?_ _ | refine balloc ?_ _ | refine Below.setCell ?_ (by first | (simp; done) | (simp; omega) | omega) _ | refine bchain (by assumption) ?_)))⟩ | exact ⟨_, rfl, rfl, three_set kv, Nat.le_refl _, (by (repeat (first | exact Below.refl _ _ | assumption | refine Below.drew ?_ | refine below_drewN ?_ _ | refine balloc ?_ _ | refine Below.setCell ?_ (by first | (simp; done) | (simp; omega) | omega) _ | refine bchain (by assumption) ?_)))⟩)
          case rest =>
            obtain ⟨V3, rfl, rfl, kV3, hV3, hbc⟩ := hcut
            have kx := bblock hbc kx
            have ko := bblock hbc ko
            have hmc := hmr.below hbc
            have c80 := bcellv hbc c80
            have c81 := bcellv hbc c81
            have c82 := bcellv hbc c82
            have c90 := bcellv hbc c90
            have c91 := bcellv hbc c91
            have qt := bcellv hbc qt
            have hbr := bchain hbc hbr
            clear kx_0 kx_1 kx_8 hz_kx hz_ko hmr hbc
            obtain ⟨w8, hw8⟩ : ∃ q, q = wc := ⟨_, rfl⟩
            subst hw8
            have kx_0 : w8.cell? ⟨p, 0, none⟩ = some (.pointer (some ⟨bO, 0, none⟩)) := by rw [cell_of_block kx]; rfl
            have kx_1 : w8.cell? ⟨p, 1, none⟩ = some (.pointer (some ⟨bY, 0, none⟩)) := by rw [cell_of_block kx]; rfl
            have kx_8 : w8.cell? ⟨p, 8, none⟩ = some (.slice (some ⟨G0, 0, none⟩) (M + 1) lc) := by rw [cell_of_block kx]; rfl
            have hz_kx : p < w8.heap.size := (Array.getElem?_eq_some_iff.1 kx).1
            have hz_ko : w.heap.size < w8.heap.size := (Array.getElem?_eq_some_iff.1 ko).1
            go_wp2_with fail
            go_cut [20, 21] from 111 to 192 (fun s11 s12 wx => ∃ V, s11 = .pointer (some ⟨V, 0, none⟩) ∧ s12 = .int .i64 0 ∧ wx.heap[V]? = some (.cells #[.int .i64 omX, .int .i64 osX] 25 (0, 0)) ∧ w8.heap.size ≤ V ∧ Below w8.heap.size w8 wx)
            case first =>
              have hBa : Below w8.heap.size w8 (w8.alloc (.cells #[.int .i64 0, .int .i64 0] 25)).drew := by (repeat (first | exact Below.refl _ _ | assumption | refine Below.drew ?_ | refine below_drewN ?_ _ | refine balloc ?_ _ | refine Below.setCell ?_ (by first | (simp; done) | (simp; omega) | omega) _ | refine bchain (by assumption) ?_))
              have hBb : Below w8.heap.size w8 w8.drew := (Below.refl _ _).drew
              have hmA := hmc.below hBa
              have hmB := hmc.below hBb
              have hne_kx_0 : p ≠ w8.heap.size := Nat.ne_of_lt (World.block_lt_of_cell? _ _ kx_0)
              have hne_kx_1 : p ≠ w8.heap.size := Nat.ne_of_lt (World.block_lt_of_cell? _ _ kx_1)
              have hne_kx_8 : p ≠ w8.heap.size := Nat.ne_of_lt (World.block_lt_of_cell? _ _ kx_8)
              have hne_qt : G0 ≠ w8.heap.size := Nat.ne_of_lt (World.block_lt_of_cell? _ _ qt)
              go_region_held3 (fun w' => w'.cell? ⟨p, 0, none⟩ = some (.pointer (some ⟨bO, 0, none⟩)) ∧ w'.cell? ⟨p, 1, none⟩ = some (.pointer (some ⟨bY, 0, none⟩)) ∧ w'.cell? ⟨p, 8, none⟩ = some (.slice (some ⟨G0, 0, none⟩) (M + 1) lc) ∧ w'.cell? ⟨G0, t, none⟩ = some (.int .i64 bt)) (first | (with_reducible exact ⟨kx_0, kx_1, kx_8, qt⟩) | (with_reducible exact ⟨two_cell7 kx_0 hne_kx_0, two_cell7 kx_1 hne_kx_1, two_cell7 kx_8 hne_kx_8, two_cell7 qt hne_qt⟩) | go_keep) (first | (go_at_call 20; (with_reducible refine (hD _ hmA).mono ?_); rintro e w6 ⟨rfl, hb6⟩; have kx_0 := bcellv hb6 (show (w8.alloc (.cells #[.int .i64 0, .int .i64 0] 25)).drew.cell? _ = _ from bcellv (balloc (Below.refl _ w8) _) kx_0); have kx_1 := bcellv hb6 (show (w8.alloc (.cells #[.int .i64 0, .int .i64 0] 25)).drew.cell? _ = _ from bcellv (balloc (Below.refl _ w8) _) kx_1); have kx_8 := bcellv hb6 (show (w8.alloc (.cells #[.int .i64 0, .int .i64 0] 25)).drew.cell? _ = _ from bcellv (balloc (Below.refl _ w8) _) kx_8); have qt := bcellv hb6 (show (w8.alloc (.cells #[.int .i64 0, .int .i64 0] 25)).drew.cell? _ = _ from bcellv (balloc (Below.refl _ w8) _) qt); have kv := bblock hb6 (show (w8.alloc (.cells #[.int .i64 0, .int .i64 0] 25)).drew.heap[_]? = _ from alloc_get w8 _); have kv_f : ∀ i, w6.frozen? ⟨w8.heap.size, i, none⟩ = false := frozen_of_block kv; have hzv : w8.heap.size < w6.heap.size := (Array.getElem?_eq_some_iff.1 kv).1; have kv_0 : w6.cell? ⟨w8.heap.size, 0, none⟩ = some (.int .i64 0) := (by rw [cell_of_block kv]; rfl); have kv_1 : w6.cell? ⟨w8.heap.size, 1, none⟩ = some (.int .i64 0) := (by rw [cell_of_block kv]; rfl)) | (go_at_call 20; (with_reducible refine (hD _ hmB).mono ?_); rintro e w6 ⟨rfl, hb6⟩; have kx_0 := bcellv hb6 (show w8.drew.cell? _ = _ from kx_0); have kx_1 := bcellv hb6 (show w8.drew.cell? _ = _ from kx_1); have kx_8 := bcellv hb6 (show w8.drew.cell? _ = _ from kx_8); have qt := bcellv hb6 (show w8.drew.cell? _ = _ from qt)))
              all_goals (try go_wp2_with fail)
              all_goals go_meet
              all_goals (first | exact ⟨_, rfl, rfl, alloc_get _ _, hb6.size, (by (repeat (first | exact Below.refl _ _ | assumption | refine Below.drew ?_ | refine below_drewN ?_ _ | refine balloc ?_ _ | refine Below.setCell ?_ (by first | (simp; done) | (simp; omega) | omega) _ | refine bchain (by assumption) ?_)))⟩ | exact ⟨_, rfl, rfl, two_set7 kv, Nat.le_refl _, (by (repeat (first | exact Below.refl _ _ | assumption | refine Below.drew ?_ | refine below_drewN ?_ _ | refine balloc ?_ _ | refine Below.setCell ?_ (by first | (simp; done) | (simp; omega) | omega) _ | refine bchain (by assumption) ?_)))⟩)
            case rest =>
              obtain ⟨V2, rfl, rfl, kV2, hV2, hbc⟩ := hcut
              have kx := bblock hbc kx
              have ko := bblock hbc ko
              have kV3 := bblock hbc kV3
              have c80 := bcellv hbc c80
              have c81 := bcellv hbc c81
              have c82 := bcellv hbc c82
              have c90 := bcellv hbc c90
              have c91 := bcellv hbc c91
              have qt := bcellv hbc qt
              have hbr := bchain hbc hbr
              clear kx_0 kx_1 kx_8 hz_kx hz_ko hmc hbc
              obtain ⟨w9, hw9⟩ : ∃ q, q = wc := ⟨_, rfl⟩
              subst hw9
              have hz_kx : p < w9.heap.size := (Array.getElem?_eq_some_iff.1 kx).1
              by_cases hba : bt = ya
              · have bba : (bt != ya) = false := by simpa using hba
                go_wp2_with fail
                have o_x8 : ∀ x, (over w9 x).cell? ⟨p, 8, none⟩ = some (.slice (some ⟨G0, 0, none⟩) (M + 1) lc) := over_cell (by rw [cell_of_block kx]; rfl)
                have o_v0 : ∀ x, (over w9 x).cell? ⟨V3, 0, none⟩ = some (.int .i64 hk') := over_cell (by rw [cell_of_block kV3]; rfl)
                have o_v1 : ∀ x, (over w9 x).cell? ⟨V3, 1, none⟩ = some (.int .i64 hcX) := over_cell (by rw [cell_of_block kV3]; rfl)
                have o_v2 : ∀ x, (over w9 x).cell? ⟨V3, 2, none⟩ = some (.int .i64 hfX) := over_cell (by rw [cell_of_block kV3]; rfl)
                have o_i0 : ∀ x, (over w9 x).cell? ⟨V2, 0, none⟩ = some (.int .i64 omX) := over_cell (by rw [cell_of_block kV2]; rfl)
                have o_i1 : ∀ x, (over w9 x).cell? ⟨V2, 1, none⟩ = some (.int .i64 osX) := over_cell (by rw [cell_of_block kV2]; rfl)
                have o_h0 : ∀ x, (over w9 x).cell? ⟨G8, t * 3, none⟩ = some (.int .i64 hkX) := over_cell (c80)
                have o_h1 : ∀ x, (over w9 x).cell? ⟨G8, t * 3 + 1, none⟩ = some (.int .i64 hcX) := over_cell (c81)
                have o_h2 : ∀ x, (over w9 x).cell? ⟨G8, t * 3 + 2, none⟩ = some (.int .i64 hfX) := over_cell (c82)
                have o_d0 : ∀ x, (over w9 x).cell? ⟨G9, t * 2, none⟩ = some (.int .i64 omX) := over_cell (c90)
                have o_d1 : ∀ x, (over w9 x).cell? ⟨G9, t * 2 + 1, none⟩ = some (.int .i64 osX) := over_cell (c91)
                have o_q : ∀ x, (over w9 x).cell? ⟨G0, t, none⟩ = some (.int .i64 bt) := over_cell (qt)
                (refine wp_region_over (by kernel_rfl) (by kernel_rfl) ?_); (repeat (go_big_quiet_step ((fail)))); (refine wpQuiet_nil ?_)
                intro w10 hb10
                clear o_x8 o_v0 o_v1 o_v2 o_i0 o_i1 o_h0 o_h1 o_h2 o_d0 o_d1 o_q
                have hbr := bchain hb10 hbr
                go_wp2
                go_roundw
                case rel => exact ⟨t + 1, by omega, by go_num, by (repeat (first | exact Below.refl _ _ | assumption | refine Below.drew ?_ | refine below_drewN ?_ _ | refine balloc ?_ _ | refine Below.setCell ?_ (by first | (simp; done) | (simp; omega) | omega) _ | refine bchain (by assumption) ?_))⟩
                case measure => simp [intOf]; omega
              · have bba : (bt != ya) = true := by simpa using hba
                have z7 := z7 hba
                subst z7
                go_wp2_with fail
                have o_x8 : ∀ x, (over w9 x).cell? ⟨p, 8, none⟩ = some (.slice (some ⟨G0, 0, none⟩) (M + 1) lc) := over_cell (by rw [cell_of_block kx]; rfl)
                have o_v0 : ∀ x, (over w9 x).cell? ⟨V3, 0, none⟩ = some (.int .i64 hk') := over_cell (by rw [cell_of_block kV3]; rfl)
                have o_v1 : ∀ x, (over w9 x).cell? ⟨V3, 1, none⟩ = some (.int .i64 hcX) := over_cell (by rw [cell_of_block kV3]; rfl)
                have o_v2 : ∀ x, (over w9 x).cell? ⟨V3, 2, none⟩ = some (.int .i64 hfX) := over_cell (by rw [cell_of_block kV3]; rfl)
                have o_i0 : ∀ x, (over w9 x).cell? ⟨V2, 0, none⟩ = some (.int .i64 omX) := over_cell (by rw [cell_of_block kV2]; rfl)
                have o_i1 : ∀ x, (over w9 x).cell? ⟨V2, 1, none⟩ = some (.int .i64 osX) := over_cell (by rw [cell_of_block kV2]; rfl)
                have o_h0 : ∀ x, (over w9 x).cell? ⟨G8, t * 3, none⟩ = some (.int .i64 hk') := over_cell (c80)
                have o_h1 : ∀ x, (over w9 x).cell? ⟨G8, t * 3 + 1, none⟩ = some (.int .i64 hcX) := over_cell (c81)
                have o_h2 : ∀ x, (over w9 x).cell? ⟨G8, t * 3 + 2, none⟩ = some (.int .i64 hfX) := over_cell (c82)
                have o_d0 : ∀ x, (over w9 x).cell? ⟨G9, t * 2, none⟩ = some (.int .i64 omX) := over_cell (c90)
                have o_d1 : ∀ x, (over w9 x).cell? ⟨G9, t * 2 + 1, none⟩ = some (.int .i64 osX) := over_cell (c91)
                have o_q : ∀ x, (over w9 x).cell? ⟨G0, t, none⟩ = some (.int .i64 bt) := over_cell (qt)
                (refine wp_region_over (by kernel_rfl) (by kernel_rfl) ?_); (repeat (go_big_quiet_step ((fail)))); (refine wpQuiet_nil ?_)
                intro w10 hb10
                clear o_x8 o_v0 o_v1 o_v2 o_i0 o_i1 o_h0 o_h1 o_h2 o_d0 o_d1 o_q
                have hbr := bchain hb10 hbr
                go_wp2
                go_roundw
                case rel => exact ⟨t + 1, by omega, by go_num, by (repeat (first | exact Below.refl _ _ | assumption | refine Below.drew ?_ | refine below_drewN ?_ _ | refine balloc ?_ _ | refine Below.setCell ?_ (by first | (simp; done) | (simp; omega) | omega) _ | refine bchain (by assumption) ?_))⟩
                case measure => simp [intOf]; omega
        · have htM : t = M + 1 := by omega
          subst htM
          have hdt : decide ((M : Int) + 1 < (M : Int) + 1) = false := by simp
          have hHa := fun W (H : MemAt W bO bY 200 16777416 Y.wo Y.wy gO gY) => mhdr_any H ya
          have hTp := fun W (H : MemAt W bO bY 200 16777416 Y.wo Y.wy gO gY) => top_any H.old H.okO
          have hvb := row_below7 hvb hbr
          have hvc := row_below7 hvc hbr
          have hMr := Mods.chain hbr hM7
          have hyb : 0 ≤ ya ∧ ya ≤ 33554432 := by
            rcases Hw.2.out with e | e
            · omega
            · have u1 := (HE_bd (Hw.1.out ya e).1)
              obtain ⟨_, _, _, u4, u5⟩ := u1
              have u6 := (HE_hd lw4.1 (Hw.1.out ya e).1).2.2.2.1
              unfold bsA at u4 u5
              unfold wsA at u5
              by_cases g : 16777216 ≤ ya
              · simp only [if_pos g] at u4 u5
                omega
              · simp only [if_neg g] at u4 u5
                omega
          clear hbr hM7 hm7 q8 q9 hr8 hr9 hq7
          go_wp2_with fail
          refine (hHa _ (hmr.below (by (repeat (first | exact Below.refl _ _ | assumption | refine Below.drew ?_ | refine below_drewN ?_ _ | refine balloc ?_ _ | refine Below.setCell ?_ (by first | (simp; done) | (simp; omega) | omega) _ | refine bchain (by assumption) ?_))))).mono ?_
          rintro e w11 ⟨rfl, hb11⟩
          have hB11 : Below wr.heap.size wr w11 := by (repeat (first | exact Below.refl _ _ | assumption | refine Below.drew ?_ | refine below_drewN ?_ _ | refine balloc ?_ _ | refine Below.setCell ?_ (by first | (simp; done) | (simp; omega) | omega) _ | refine bchain (by assumption) ?_))
          have kx := bblock hB11 kx
          have ko := bblock hB11 ko
          have hm11 := hmr.below hB11
          have hvb := row_below7 hvb hB11
          have hvc := row_below7 hvc hB11
          have hM11 := Mods.chain hB11 hMr
          clear kx_0 kx_1 kx_8 hz_kx hz_ko hmr hb11 hMr
          have kx_0 : w11.cell? ⟨p, 0, none⟩ = some (.pointer (some ⟨bO, 0, none⟩)) := by rw [cell_of_block kx]; rfl
          have kx_1 : w11.cell? ⟨p, 1, none⟩ = some (.pointer (some ⟨bY, 0, none⟩)) := by rw [cell_of_block kx]; rfl
          have hz_kx : p < w11.heap.size := (Array.getElem?_eq_some_iff.1 kx).1
          have hz_ko : w.heap.size < w11.heap.size := (Array.getElem?_eq_some_iff.1 ko).1
          go_upto_if 201 with fail
          go_cut [22, 24] from 193 to 262 (fun s22 s24 wx => s22 = .int .i64 (szK Y.wo Y.wy ya) ∧ Below w11.heap.size w11 wx)
          case first =>
            by_cases hE : HE Y.wo Y.wy ya = 0
            · have hs : szK Y.wo Y.wy ya = 2 + max 2 (HF Y.wo Y.wy ya) := by unfold szK; rw [if_pos hE]
              have hfb := Hw7.out hE
              rw [hE]
              generalize HF Y.wo Y.wy ya = hf at *
              have s2 : wrap64 (2 + max 2 hf) = 2 + max 2 hf := IntWalk.wrap64_in _ (by omega)
              have s3 : IntKind.i64.wrap (2 + max 2 hf) = 2 + max 2 hf := IntWalk.i64_in _ (by omega)
              go_wp2
              go_meet
              exact ⟨by rw [hs], by (repeat (first | exact Below.refl _ _ | assumption | refine Below.drew ?_ | refine below_drewN ?_ _ | refine balloc ?_ _ | refine Below.setCell ?_ (by first | (simp; done) | (simp; omega) | omega) _ | refine bchain (by assumption) ?_))⟩
            · have hs : szK Y.wo Y.wy ya = 0 := by unfold szK; rw [if_neg hE]
              have hbE : (HE Y.wo Y.wy ya == 0) = false := by simpa using hE
              generalize HE Y.wo Y.wy ya = he at *
              go_wp2
              go_meet
              exact ⟨by rw [hs], by (repeat (first | exact Below.refl _ _ | assumption | refine Below.drew ?_ | refine below_drewN ?_ _ | refine balloc ?_ _ | refine Below.setCell ?_ (by first | (simp; done) | (simp; omega) | omega) _ | refine bchain (by assumption) ?_))⟩
          case rest =>
            obtain ⟨rfl, hbc⟩ := hcut
            have kx := bblock hbc kx
            have ko := bblock hbc ko
            have hm11 := hm11.below hbc
            have hvb := row_below7 hvb hbc
            have hvc := row_below7 hvc hbc
            have hM11 := Mods.chain hbc hM11
            have hszb : 0 ≤ szK Y.wo Y.wy ya ∧ szK Y.wo Y.wy ya ≤ 32 := by
              unfold szK
              split
              · rename_i hE
                have := Hw7.out hE
                omega
              · omega
            clear kx_0 kx_1 hz_kx hz_ko hbc
            obtain ⟨w12, hw12⟩ : ∃ q, q = wc := ⟨_, rfl⟩
            subst hw12
            have kx_0 : w12.cell? ⟨p, 0, none⟩ = some (.pointer (some ⟨bO, 0, none⟩)) := by rw [cell_of_block kx]; rfl
            have kx_1 : w12.cell? ⟨p, 1, none⟩ = some (.pointer (some ⟨bY, 0, none⟩)) := by rw [cell_of_block kx]; rfl
            have hz_kx : p < w12.heap.size := (Array.getElem?_eq_some_iff.1 kx).1
            have hz_ko : w.heap.size < w12.heap.size := (Array.getElem?_eq_some_iff.1 ko).1
            generalize szK Y.wo Y.wy ya = sz at *
            go_upto_if 208 with fail
            go_cut [25] from 193 to 262 (fun s25 wx => s25 = .int .i64 (ixA X.wo ya) ∧ Below w12.heap.size w12 wx)
            case first =>
              obtain ⟨N, hN⟩ : ∃ N : Int, (0 : Int) + (Y.wo.length : Int) = N := ⟨_, rfl⟩
              rw [hN] at hTp
              have hNb : 0 ≤ N ∧ N ≤ 16777216 := by have := lw4.1; rw [← lw2] at this; omega
              by_cases hyB : 16777216 ≤ ya
              · have d1 : decide (16777216 ≤ ya) = true := by simpa using hyB
                have s2 : wrap64 (N + ya) = N + ya := IntWalk.wrap64_in _ (by omega)
                have s3 : wrap64 (N + ya - 16777216) = N + ya - 16777216 := IntWalk.wrap64_in _ (by omega)
                have hix : ixA X.wo ya = N + ya - 16777216 := by unfold ixA; rw [if_pos hyB, ← hN, lw2]; omega
                go_wp2_with fail
                refine (hTp _ (hm11.below (by (repeat (first | exact Below.refl _ _ | assumption | refine Below.drew ?_ | refine below_drewN ?_ _ | refine balloc ?_ _ | refine Below.setCell ?_ (by first | (simp; done) | (simp; omega) | omega) _ | refine bchain (by assumption) ?_))))).mono ?_
                rintro e w13 ⟨rfl, hb13⟩
                go_wp2
                go_meet
                exact ⟨by rw [hix], by (repeat (first | exact Below.refl _ _ | assumption | refine Below.drew ?_ | refine below_drewN ?_ _ | refine balloc ?_ _ | refine Below.setCell ?_ (by first | (simp; done) | (simp; omega) | omega) _ | refine bchain (by assumption) ?_))⟩
              · have d1 : decide (16777216 ≤ ya) = false := by simpa using hyB
                have hix : ixA X.wo ya = ya := by unfold ixA; rw [if_neg hyB]
                go_wp2
                go_meet
                exact ⟨by rw [hix], by (repeat (first | exact Below.refl _ _ | assumption | refine Below.drew ?_ | refine below_drewN ?_ _ | refine balloc ?_ _ | refine Below.setCell ?_ (by first | (simp; done) | (simp; omega) | omega) _ | refine bchain (by assumption) ?_))⟩
            case rest =>
              obtain ⟨rfl, hbc⟩ := hcut
              have kx := bblock hbc kx
              have ko := bblock hbc ko
              have hvb := row_below7 hvb hbc
              have hvc := row_below7 hvc hbc
              have hM11 := Mods.chain hbc hM11
              have hixb : 0 ≤ ixA X.wo ya ∧ ixA X.wo ya ≤ 50331648 := by
                have := lw4.1
                unfold ixA
                split <;> omega
              clear kx_0 kx_1 hz_kx hz_ko hbc
              obtain ⟨w14, hw14⟩ : ∃ q, q = wc := ⟨_, rfl⟩
              subst hw14
              have ko_0 : w14.cell? ⟨w.heap.size, 0, none⟩ = some (.int .i64 kd) := by rw [cell_of_block ko]; rfl
              obtain ⟨N, hN⟩ : ∃ N, (X.wo ++ X.wy).length = N := ⟨_, rfl⟩
              have hN2 : (Y.wo ++ Y.wy).length = N := by rw [← hN, List.length_append, List.length_append, lw2, lw3]
              have hN0 : 0 < N := by
                obtain ⟨b0, hb0⟩ : ∃ b0, X.l[0]? = some b0 := ⟨_, List.getElem?_eq_getElem (by omega)⟩
                obtain ⟨v0, v1, _, v3, _⟩ := HE_hd lw4.1 (Hw.1.out b0 (List.mem_of_getElem? hb0)).1
                rw [← hN, List.length_append]
                unfold wsA at v1
                split at v1 <;> omega
              have hNb : N ≤ 33554432 := by rw [← hN, List.length_append]; omega
              rw [hN] at hvb
              rw [hN2] at hvc
              have hw8 := Hw8.out
              have hw9 := Hw9.out
              rw [hN] at hw8
              have Hw8 := Lib.hid hw8
              have Hw9 := Lib.hid hw9
              generalize ixA X.wo ya = ix at *
              generalize hxs : X.wo ++ X.wy = xs at *
              generalize hys : Y.wo ++ Y.wy = ys at *
              clear hw8 hw9 hxs hys
              have hdz : difs xs ys 0 = 0 := rfl
              go_wp2_with fail
              go_loopw [26, 27] (fun q6 q7 wr => ∃ t : Nat, t ≤ N ∧ q7 = .int .i64 t ∧ q6 = .int .i64 (difs xs ys t : Nat) ∧ Below w14.heap.size w14 wr) (fun q6 q7 wr => N - (intOf q7).toNat)
              case atStart => exact ⟨0, Nat.zero_le _, rfl, by rw [hdz]; rfl, Below.refl _ _⟩
              case round =>
                obtain ⟨t, ht, rfl, rfl, hbr⟩ := hrel
                have hdb := difs_le xs ys t
                by_cases hlt : t < N
                · obtain ⟨Gb, cb, rfl, _, _, hb1, hb2, qb⟩ := row_openS hvb (by omega)
                  obtain ⟨Gc, cc, rfl, _, _, hc1, hc2, qc⟩ := row_openS hvc (by omega)
                  obtain ⟨x, hx⟩ : ∃ x, xs[t]? = some x := ⟨_, List.getElem?_eq_getElem (by omega)⟩
                  obtain ⟨y, hy⟩ : ∃ y, ys[t]? = some y := ⟨_, List.getElem?_eq_getElem (by omega)⟩
                  have kb := bcellv hbr (qb t (.int .u64 x) (by rw [List.getElem?_map, hx]; rfl))
                  have kc := bcellv hbr (qc t (.int .u64 y) (by rw [List.getElem?_map, hy]; rfl))
                  have s1 : ((t : Int)).toNat = t := by omega
                  have hds := difs_succ xs ys t
                  rw [hx, hy] at hds
                  have hdt : decide ((t : Int) < (N : Int)) = true := by simpa using hlt
                  have hdl : (t : Int) < (N : Int) := by omega
                  have hr8 := Hw8.out t hlt
                  rw [hx, hy] at hr8
                  clear qb qc hx hy hvb hvc
                  go_wp2_with fail
                  have o_b : ∀ q, (over wr q).cell? ⟨Gb, t, none⟩ = some (.int .u64 x) := over_cell kb
                  have o_c : ∀ q, (over wr q).cell? ⟨Gc, t, none⟩ = some (.int .u64 y) := over_cell kc
                  by_cases hxy : x = y
                  · have bxy : (x != y) = false := by simpa using hxy
                    have hds : difs xs ys (t + 1) = difs xs ys t := by rw [hds, hxy]; simp
                    clear hr8
                    (refine wp_region_over (by kernel_rfl) (by kernel_rfl) ?_); (repeat (go_big_quiet_step ((fail)))); (refine wpQuiet_nil ?_)
                    intro w15 hb15
                    clear o_b o_c
                    have hbr := bchain hb15 hbr
                    go_wp2
                    go_roundw
                    case rel => exact ⟨t + 1, by omega, by go_num, by rw [hds], by (repeat (first | exact Below.refl _ _ | assumption | refine Below.drew ?_ | refine below_drewN ?_ _ | refine balloc ?_ _ | refine Below.setCell ?_ (by first | (simp; done) | (simp; omega) | omega) _ | refine bchain (by assumption) ?_))⟩
                    case measure => simp [intOf]; omega
                  · have bxy : (x != y) = true := by simpa using hxy
                    have hds : difs xs ys (t + 1) = difs xs ys t + 1 := by rw [hds]; simp [hxy]
                    obtain ⟨hr1, hr2⟩ := hr8 (fun e => hxy (by cases e; rfl))
                    have d1 : decide ((t : Int) < ix) = false := by simpa using hr1
                    have d2 : decide (ix + sz ≤ (t : Int)) = false := by simpa using hr2
                    have s2 : wrap64 (ix + sz) = ix + sz := IntWalk.wrap64_in _ (by omega)
                    have s3 : IntKind.i64.wrap (ix + sz) = ix + sz := IntWalk.i64_in _ (by omega)
                    (refine wp_region_over (by kernel_rfl) (by kernel_rfl) ?_); (repeat (go_big_quiet_step ((fail)))); (refine wpQuiet_nil ?_)
                    intro w15 hb15
                    clear o_b o_c
                    have hbr := bchain hb15 hbr
                    go_wp2
                    go_roundw
                    case rel => exact ⟨t + 1, by omega, by go_num, by rw [hds]; go_num, by (repeat (first | exact Below.refl _ _ | assumption | refine Below.drew ?_ | refine below_drewN ?_ _ | refine balloc ?_ _ | refine Below.setCell ?_ (by first | (simp; done) | (simp; omega) | omega) _ | refine bchain (by assumption) ?_))⟩
                    case measure => simp [intOf]; omega
                · have htN : t = N := by omega
                  subst htN
                  have hdt : decide ((t : Int) < (t : Int)) = false := by simp
                  have ko_0 := bcellv hbr ko_0
                  have hz_ko := World.block_lt_of_cell? _ _ ko_0
                  obtain ⟨Gb, cb, rfl, _, _, hb1, hb2, _⟩ := row_openS hvb hN0
                  obtain ⟨Gc, cc, rfl, _, _, hc1, hc2, _⟩ := row_openS hvc hN0
                  have hMr := Mods.chain hbr hM11
                  clear hvb hvc
                  by_cases e2 : kd = 2
                  · have d1 := Hw9.out e2 t
                    have d2 : decide (((difs xs ys t : Nat) : Int) ≤ 1) = true := by simp; omega
                    have d3 : (kd != 2) = false := by simpa using e2
                    clear d1
                    generalize difs xs ys t = df at *
                    go_wp2
                    go_ret
                    exact ⟨rfl, hw3.trans ((Mods.chain (show Below wr.heap.size wr _ from by (repeat (first | exact Below.refl _ _ | assumption | refine Below.drew ?_ | refine below_drewN ?_ _ | refine balloc ?_ _ | refine Below.setCell ?_ (by first | (simp; done) | (simp; omega) | omega) _ | refine bchain (by assumption) ?_))) hMr).below hw3.size (fun k hk => hk.elim (fun e => by omega) (hMS k)))⟩
                  · have d3 : (kd != 2) = true := by simpa using e2
                    generalize difs xs ys t = df at *
                    go_wp2
                    go_ret
                    exact ⟨rfl, hw3.trans ((Mods.chain (show Below wr.heap.size wr _ from by (repeat (first | exact Below.refl _ _ | assumption | refine Below.drew ?_ | refine below_drewN ?_ _ | refine balloc ?_ _ | refine Below.setCell ?_ (by first | (simp; done) | (simp; omega) | omega) _ | refine bchain (by assumption) ?_))) hMr).below hw3.size (fun k hk => hk.elim (fun e => by omega) (hMS k)))⟩
theorem okp_any (kd k c f m s a b i u : Int) (raw : Bool) (hu : U64 u) (A0 : Option Addr) (l : List Op7) (cap : Nat) (hcap : l.length ≤ cap) (hc63 : cap ≤ 9223372036854775807) (w : World) (hops : Ops7 w A0 l) :
    Calls Try.prog 6 #[.slice A0 l.length cap, .agg #[.int .i64 kd, .int .i64 k, .int .i64 c, .int .i64 f, .int .i64 m, .int .i64 s, .int .i64 a, .int .i64 b, .int .i64 i, .int .u64 u, .bool raw]] w fun e w' => e = .returned (.bool true) ∧ Below w.heap.size w w' := by
  by_cases h : 20 < l.length
  · exact okp_long kd k c f m s a b i u raw A0 l.length cap hcap hc63 w h
  by_cases hr : raw = true
  · exact okp_raw kd k c f m s a b i u raw A0 l.length cap hcap hc63 w h hr
  have hr : raw = false := by simpa using hr
  by_cases h2 : kd < 2
  · exact okp_low kd k c f m s a b i u raw A0 l.length cap hcap hc63 w h hr h2
  by_cases h5 : 5 < kd
  · exact okp_high kd k c f m s a b i u raw A0 l.length cap hcap hc63 w h hr h2 h5
  subst hr
  exact okp_main kd k c f m s a b i u hu A0 l cap hcap hc63 h h2 h5 w hops
end Go.Proofs.Ytcmhgjkijegpnaa
