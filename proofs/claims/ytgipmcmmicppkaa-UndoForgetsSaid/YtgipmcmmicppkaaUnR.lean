/-
  law 13: the reference's log: Begin, Commit, Note.
-/
import Derived.Test.YtgipmcmmicppkaaUnN
namespace Go.Proofs.Ytgipmcmmicppkaa
open Go.RowKit
set_option linter.unusedSimpArgs false
set_option linter.unusedVariables false

def atCells (nt : List (Int × Int)) : List Value := nt.map fun x => .int .i64 x.1
def wdCells (nt : List (Int × Int)) : List Value := nt.map fun x => .int .u64 x.2
structure LgAt (w : World) (nt : List (Int × Int)) (vA vW : Value) : Prop where
  at_ : w.ownsRow 0 3 1 vA nt.length (atCells nt)
  wd : w.ownsRow 0 43 1 vW nt.length (wdCells nt)
  wf : ∀ x ∈ nt, U64 x.2
def lgV (op : Bool) (top : Int) (vA vW : Value) : Value := .agg #[.bool op, .int .i64 top, vA, vW]
def mmV (lo ly : Int) (aO : Option Addr) (nO cO : Nat) (aY : Option Addr) (nY cY : Nat) : Value := .agg #[.int .i64 0, .int .i64 lo, .slice aO nO cO, .int .i64 16777216, .int .i64 ly, .slice aY nY cY]
theorem LgAt.mods {S : Nat → Prop} {w w' : World} {nt : List (Int × Int)} {vA vW : Value} (h : LgAt w nt vA vW) (hM : Mods S w w') (hA : ∀ G, vA.ownBlock = some G → ¬ S G) (hW : ∀ G, vW.ownBlock = some G → ¬ S G) : LgAt w' nt vA vW :=
  ⟨nrow_keep h.at_ (fun G o e ho => mblock hM ho (hA G e)), nrow_keep h.wd (fun G o e ho => mblock hM ho (hW G e)), h.wf⟩
theorem LgAt.below {w w' : World} {nt : List (Int × Int)} {vA vW : Value} (h : LgAt w nt vA vW) (hb : Below w.heap.size w w') : LgAt w' nt vA vW := h.mods (S := fun _ => False) (Mods.of_below hb) (fun _ _ h => h) (fun _ _ h => h)
theorem LgAt.nil (w : World) : LgAt w [] (.slice none 0 0) (.slice none 0 0) := ⟨World.ownsRow_nil _ _ _ _, World.ownsRow_nil _ _ _ _, fun x hx => by cases hx⟩
theorem row_form1 {w : World} {e : TypeId} {sz n : Nat} {v : Value} {xs : List Value} (h : w.ownsRow 0 e sz v n xs) : ∃ a c, v = .slice a n c ∧ n ≤ c ∧ c ≤ 9223372036854775807 := by
  obtain ⟨_, h2⟩ := h
  rcases h2 with ⟨rfl, h0⟩ | ⟨g, cap, cur, rfl, _, _, h3, h4, _⟩
  · rw [h0]; exact ⟨_, _, rfl, by omega, by omega⟩
  · exact ⟨_, _, rfl, h3, h4⟩
theorem row_news {w : World} {e : TypeId} {v : Value} {n : Nat} {xs : List Value} (h : w.ownsRow 0 e 1 v n xs) {a : Option Addr} {c : Nat} (hv : v = .slice a n c) : NewsAt w a n c xs := by
  obtain ⟨h1, h2⟩ := h
  rcases h2 with ⟨rfl, h0⟩ | ⟨g, cap, cur, rfl, _, hh, hn, hm, hs, ht⟩
  · simp only [Value.slice.injEq] at hv
    obtain ⟨rfl, h3, rfl⟩ := hv
    exact .inl ⟨rfl, h0, rfl⟩
  · simp only [Value.slice.injEq] at hv
    obtain ⟨rfl, _, rfl⟩ := hv
    refine .inr ⟨_, rfl, fun j u hj => ?_⟩
    have hj' : j < xs.length := (List.getElem?_eq_some_iff.1 hj).1
    rw [Addr.add_lit, cell_of_block hh, ← Array.getElem?_toList, Nat.zero_add]
    have e : (cur.toList.take (n * 1))[j]? = xs[j]? := by rw [ht]
    rw [List.getElem?_take_of_lt (by omega)] at e
    rw [e]
    exact hj
theorem at_one (nt : List (Int × Int)) : ∀ u ∈ atCells nt, u.oneCell' = true := fun u hu => by
  obtain ⟨x, _, rfl⟩ := List.mem_map.1 hu
  rfl
theorem wd_one (nt : List (Int × Int)) : ∀ u ∈ wdCells nt, u.oneCell' = true := fun u hu => by
  obtain ⟨x, _, rfl⟩ := List.mem_map.1 hu
  rfl
theorem int_info13 : (Try.prog.info? 3).map (fun i => (i.zero, i.size, i.bytes)) = some (some (.int .i64 0), 1, 8) := by kernel_rfl
set_option maxRecDepth 100000 in
set_option maxHeartbeats 1000000 in
theorem rcommit_any {w : World} {op : Bool} {top : Int} {nt : List (Int × Int)} {vA vW : Value} (h : LgAt w nt vA vW) :
    Calls Try.prog 44 #[lgV op top vA vW] w fun e w' => e = .returned (.tuple #[if op then lgV false 0 (.slice none 0 0) (.slice none 0 0) else lgV op top vA vW, .int .i64 (if op then 0 else 9)]) ∧ Below w.heap.size w w' := by
  obtain ⟨a1, c1, rfl, _⟩ := row_form1 h.at_
  obtain ⟨a2, c2, rfl, _⟩ := row_form1 h.wd
  generalize nt.length = n at *
  clear h
  unfold lgV
  have hb : Below w.heap.size w ((w.alloc (.cells #[.bool op, .int .i64 top, .slice a1 n c1, .slice a2 n c2] 38)).alloc (.cells #[.bool false, .int .i64 0, .slice none 0 0, .slice none 0 0] 38)) := by (repeat (first | exact Below.refl _ _ | assumption | refine Below.drew ?_ | refine below_drewN ?_ _ | refine balloc ?_ _ | refine Below.setCell ?_ (by first | (simp; done) | (simp; omega) | omega) _ | refine bchain (by assumption) ?_))
  cases op
  · go_enter Try.func44, Try.ntmps44
    go_wp2
    refine bodyPost_ret (v := .tuple #[.agg #[.bool false, .int .i64 top, .slice a1 n c1, .slice a2 n c2], .int .i64 9]) (by simp [results, Try.results44, go_sem]) rfl ?_
    exact ⟨rfl, by (repeat (first | exact Below.refl _ _ | assumption | refine Below.drew ?_ | refine below_drewN ?_ _ | refine balloc ?_ _ | refine Below.setCell ?_ (by first | (simp; done) | (simp; omega) | omega) _ | refine bchain (by assumption) ?_))⟩
  · go_enter Try.func44, Try.ntmps44
    go_wp2
    refine bodyPost_ret (v := .tuple #[.agg #[.bool false, .int .i64 0, .slice none 0 0, .slice none 0 0], .int .i64 0]) (by simp [results, Try.results44, go_sem]) rfl ?_
    exact ⟨rfl, by (repeat (first | exact Below.refl _ _ | assumption | refine Below.drew ?_ | refine below_drewN ?_ _ | refine balloc ?_ _ | refine Below.setCell ?_ (by first | (simp; done) | (simp; omega) | omega) _ | refine bchain (by assumption) ?_))⟩
set_option maxRecDepth 100000 in
set_option maxHeartbeats 1000000 in
theorem rbegin_any {w : World} {op : Bool} {top : Int} {nt : List (Int × Int)} {vA vW : Value} (h : LgAt w nt vA vW) {aO : Option Addr} {nO cO : Nat} {aY : Option Addr} {nY cY : Nat} {lo ly : Int} {wo wy : List Int} {rO rY : Option Nat} (hm : RMem w aO nO cO aY nY cY lo ly wo wy rO rY) :
    Calls Try.prog 23 #[lgV op top vA vW, mmV lo ly aO nO cO aY nY cY] w fun e w' => e = .returned (.tuple #[if op then lgV op top vA vW else lgV true (16777216 + wy.length) (.slice none 0 0) (.slice none 0 0), .int .i64 (if op then 9 else 0)]) ∧ Below w.heap.size w w' := by
  obtain ⟨a1, c1, rfl, _⟩ := row_form1 h.at_
  obtain ⟨a2, c2, rfl, _⟩ := row_form1 h.wd
  generalize nt.length = n at *
  clear h
  have HT := Lib.hid (fun W (H : Below w.heap.size w W) => rtop_any (hm.below H).mdY hm.okY)
  unfold lgV mmV
  clear hm
  have kl : (((w.alloc (.cells #[.bool op, .int .i64 top, .slice a1 n c1, .slice a2 n c2] 38)).alloc (.cells #[.int .i64 0, .int .i64 lo, .slice aO nO cO, .int .i64 16777216, .int .i64 ly, .slice aY nY cY] 35)).alloc (.cells #[.bool false, .int .i64 0, .slice none 0 0, .slice none 0 0] 38)).heap[w.heap.size]? = some (.cells #[.bool op, .int .i64 top, .slice a1 n c1, .slice a2 n c2] 38 (0, 0)) := alloc_lt _ (alloc_lt _ (alloc_get _ _))
  have km : (((w.alloc (.cells #[.bool op, .int .i64 top, .slice a1 n c1, .slice a2 n c2] 38)).alloc (.cells #[.int .i64 0, .int .i64 lo, .slice aO nO cO, .int .i64 16777216, .int .i64 ly, .slice aY nY cY] 35)).alloc (.cells #[.bool false, .int .i64 0, .slice none 0 0, .slice none 0 0] 38)).heap[w.heap.size + 1]? = some (.cells #[.int .i64 0, .int .i64 lo, .slice aO nO cO, .int .i64 16777216, .int .i64 ly, .slice aY nY cY] 35 (0, 0)) := alloc_lt _ (alloc_at _ (by simp))
  have kr : (((w.alloc (.cells #[.bool op, .int .i64 top, .slice a1 n c1, .slice a2 n c2] 38)).alloc (.cells #[.int .i64 0, .int .i64 lo, .slice aO nO cO, .int .i64 16777216, .int .i64 ly, .slice aY nY cY] 35)).alloc (.cells #[.bool false, .int .i64 0, .slice none 0 0, .slice none 0 0] 38)).heap[w.heap.size + 2]? = some (.cells #[.bool false, .int .i64 0, .slice none 0 0, .slice none 0 0] 38 (0, 0)) := alloc_at _ (by simp)
  have hb1 : Below w.heap.size w (((w.alloc (.cells #[.bool op, .int .i64 top, .slice a1 n c1, .slice a2 n c2] 38)).alloc (.cells #[.int .i64 0, .int .i64 lo, .slice aO nO cO, .int .i64 16777216, .int .i64 ly, .slice aY nY cY] 35)).alloc (.cells #[.bool false, .int .i64 0, .slice none 0 0, .slice none 0 0] 38)) := by (repeat (first | exact Below.refl _ _ | assumption | refine Below.drew ?_ | refine below_drewN ?_ _ | refine balloc ?_ _ | refine Below.setCell ?_ (by first | (simp; done) | (simp; omega) | omega) _ | refine bchain (by assumption) ?_))
  cases op
  · have q0 : (((w.alloc (.cells #[.bool false, .int .i64 top, .slice a1 n c1, .slice a2 n c2] 38)).alloc (.cells #[.int .i64 0, .int .i64 lo, .slice aO nO cO, .int .i64 16777216, .int .i64 ly, .slice aY nY cY] 35)).alloc (.cells #[.bool false, .int .i64 0, .slice none 0 0, .slice none 0 0] 38)).cell? ⟨w.heap.size, 0, none⟩ = some (.bool false) := by rw [cell_of_block kl]; rfl
    have q3 : (((w.alloc (.cells #[.bool false, .int .i64 top, .slice a1 n c1, .slice a2 n c2] 38)).alloc (.cells #[.int .i64 0, .int .i64 lo, .slice aO nO cO, .int .i64 16777216, .int .i64 ly, .slice aY nY cY] 35)).alloc (.cells #[.bool false, .int .i64 0, .slice none 0 0, .slice none 0 0] 38)).cell? ⟨w.heap.size + 1, 3, none⟩ = some (.int .i64 16777216) := by rw [cell_of_block km]; rfl
    have q4 : (((w.alloc (.cells #[.bool false, .int .i64 top, .slice a1 n c1, .slice a2 n c2] 38)).alloc (.cells #[.int .i64 0, .int .i64 lo, .slice aO nO cO, .int .i64 16777216, .int .i64 ly, .slice aY nY cY] 35)).alloc (.cells #[.bool false, .int .i64 0, .slice none 0 0, .slice none 0 0] 38)).cell? ⟨w.heap.size + 1, 4, none⟩ = some (.int .i64 ly) := by rw [cell_of_block km]; rfl
    have q5 : (((w.alloc (.cells #[.bool false, .int .i64 top, .slice a1 n c1, .slice a2 n c2] 38)).alloc (.cells #[.int .i64 0, .int .i64 lo, .slice aO nO cO, .int .i64 16777216, .int .i64 ly, .slice aY nY cY] 35)).alloc (.cells #[.bool false, .int .i64 0, .slice none 0 0, .slice none 0 0] 38)).cell? ⟨w.heap.size + 1, 5, none⟩ = some (.slice aY nY cY) := by rw [cell_of_block km]; rfl
    have HKR := Lib.hid kr
    clear kl km kr
    go_enter Try.func23, Try.ntmps23
    go_wp2_with fail
    refine (HT.out _ (by (repeat (first | exact Below.refl _ _ | assumption | refine Below.drew ?_ | refine below_drewN ?_ _ | refine balloc ?_ _ | refine Below.setCell ?_ (by first | (simp; done) | (simp; omega) | omega) _ | refine bchain (by assumption) ?_)))).mono ?_
    rintro e w2 ⟨rfl, hb2⟩
    have hb02 := bchain hb2 hb1
    have kr := bblock hb2 HKR.out
    have r0 : w2.cell? ⟨w.heap.size + 2, 0, none⟩ = some (.bool false) := by rw [cell_of_block kr]; rfl
    have r1 : w2.cell? ⟨w.heap.size + 2, 1, none⟩ = some (.int .i64 0) := by rw [cell_of_block kr]; rfl
    have r2 : w2.cell? ⟨w.heap.size + 2, 2, none⟩ = some (.slice none 0 0) := by rw [cell_of_block kr]; rfl
    have r3 : w2.cell? ⟨w.heap.size + 2, 3, none⟩ = some (.slice none 0 0) := by rw [cell_of_block kr]; rfl
    have rf : ∀ i, w2.frozen? ⟨w.heap.size + 2, i, none⟩ = false := frozen_of_block kr
    clear hb2 kr
    go_wp2
    refine bodyPost_ret (v := .tuple #[.agg #[.bool true, .int .i64 (16777216 + wy.length), .slice none 0 0, .slice none 0 0], .int .i64 0]) (by simp [results, Try.results23, go_sem, r0, r1, r2, r3, rf]) rfl ?_
    exact ⟨rfl, by (repeat (first | exact Below.refl _ _ | assumption | refine Below.drew ?_ | refine below_drewN ?_ _ | refine balloc ?_ _ | refine Below.setCell ?_ (by first | (simp; done) | (simp; omega) | omega) _ | refine bchain (by assumption) ?_))⟩
  · have q0 : (((w.alloc (.cells #[.bool true, .int .i64 top, .slice a1 n c1, .slice a2 n c2] 38)).alloc (.cells #[.int .i64 0, .int .i64 lo, .slice aO nO cO, .int .i64 16777216, .int .i64 ly, .slice aY nY cY] 35)).alloc (.cells #[.bool false, .int .i64 0, .slice none 0 0, .slice none 0 0] 38)).cell? ⟨w.heap.size, 0, none⟩ = some (.bool true) := by rw [cell_of_block kl]; rfl
    clear kl km kr
    go_enter Try.func23, Try.ntmps23
    go_wp2
    refine bodyPost_ret (v := .tuple #[.agg #[.bool true, .int .i64 top, .slice a1 n c1, .slice a2 n c2], .int .i64 9]) (by simp [results, Try.results23, go_sem]) rfl ?_
    exact ⟨rfl, by (repeat (first | exact Below.refl _ _ | assumption | refine Below.drew ?_ | refine below_drewN ?_ _ | refine balloc ?_ _ | refine Below.setCell ?_ (by first | (simp; done) | (simp; omega) | omega) _ | refine bchain (by assumption) ?_))⟩
end Go.Proofs.Ytgipmcmmicppkaa
