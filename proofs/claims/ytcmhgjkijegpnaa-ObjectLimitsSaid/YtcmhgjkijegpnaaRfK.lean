/-
  object.New, refmeshref07.New.
-/
import Derived.Test.YtcmhgjkijegpnaaRfJ
namespace Go.Proofs.Ytcmhgjkijegpnaa
open Go.RowKit
set_option linter.unusedSimpArgs false
set_option linter.unusedVariables false

/-- The limit of a new memory. -/
def nmL (limit : Int) : Int := if limit < 0 then 0 else if limit ≤ 16777216 then limit else 16777216
theorem nmL_bd (limit : Int) : 0 ≤ nmL limit ∧ nmL limit ≤ 16777216 := by unfold nmL; split <;> (try split) <;> omega
theorem newLm_at {b L : Int} (h0 : 0 ≤ b) (h1 : 0 ≤ L) (h2 : L ≤ 16777216) (h3 : b ≤ 16777216) : newLm b (b + L) = b + L := by unfold newLm; omega
theorem new_ok {b L : Int} (h0 : 0 ≤ b) (h1 : 0 ≤ L) (h2 : L ≤ 16777216) (h3 : b ≤ 16777216) : SpOk b (b + L) [] := ⟨h0, by simp; omega, by omega, fun x h => by cases h⟩
theorem space_made {w : World} {k : Nat} {b lm : Int} (h : w.heap[k]? = some (.cells #[.int .i64 b, .int .i64 lm, .slice none 0 0] 88 (0, 0))) : SpAt w k b lm [] none := ⟨none, 0, h, ⟨by simp, by omega, .inl ⟨rfl, rfl⟩⟩, by simp⟩
theorem mem_made {w : World} {b1 b2 : Nat} {L : Int} (h0 : 0 ≤ L) (h1 : L ≤ 16777216) (h : w.heap[b1]? = some (.cells #[.int .i64 0, .int .i64 L, .slice none 0 0] 88 (0, 0))) (h' : w.heap[b2]? = some (.cells #[.int .i64 16777216, .int .i64 (16777216 + L), .slice none 0 0] 88 (0, 0))) (hn : b1 ≠ b2) : MemAt w b1 b2 L (16777216 + L) [] [] none none :=
  ⟨space_made h, space_made h', (by have := new_ok (b := 0) (by omega) h0 h1 (by omega); rwa [show (0 : Int) + L = L by omega] at this), new_ok (by omega) h0 h1 (by omega), h1, hn, by simp, by simp, by simp⟩
def NewMem (w : World) (L : Int) (e : Ending) (w' : World) : Prop := ∃ b1 b2, w.heap.size ≤ b1 ∧ w.heap.size ≤ b2 ∧ e = .returned (.agg #[.pointer (some ⟨b1, 0, none⟩), .pointer (some ⟨b2, 0, none⟩)]) ∧ MemAt w' b1 b2 L (16777216 + L) [] [] none none ∧ Below w.heap.size w w'
set_option maxRecDepth 100000 in
set_option maxHeartbeats 1000000 in
theorem onew_any (limit : Int) (w : World) : Calls Try.prog 10 #[.int .i64 limit] w (NewMem w (nmL limit)) := by
  obtain ⟨l0, l1⟩ := nmL_bd limit
  have hX : min (max limit 0) 16777216 = nmL limit := by unfold nmL; split <;> (try split) <;> omega
  generalize nmL limit = L at *
  have n1 := fun W => new_any 0 L W
  have n2 := fun W => new_any 16777216 (16777216 + L) W
  rw [show max (0 : Int) 0 = 0 by decide, show newLm 0 L = L by have := newLm_at (b := 0) (by omega) l0 l1 (by omega); rwa [show (0 : Int) + L = L by omega] at this] at n1
  rw [show max (16777216 : Int) 0 = 16777216 by decide, newLm_at (by omega) l0 l1 (by omega)] at n2
  have hm := fun (W : World) => mem_made (w := W) (b1 := w.heap.size + 1) (b2 := w.heap.size + 2) l0 l1
  go_enter Try.func10, Try.ntmps10
  go_wp2_with fail
  refine (n1 _).mono ?_
  rintro e _ ⟨rfl, rfl⟩
  go_wp2_with fail
  refine (n2 _).mono ?_
  rintro e _ ⟨rfl, rfl⟩
  go_wp2
  refine bodyPost_ret (v := .agg #[.pointer (some ⟨w.heap.size + 1, 0, none⟩), .pointer (some ⟨w.heap.size + 2, 0, none⟩)]) (by simp [results, Try.results10, go_sem]) rfl ?_
  refine ⟨w.heap.size + 1, w.heap.size + 2, by omega, by omega, rfl, hm _ ?_ ?_ (by omega), by (repeat (first | exact Below.refl _ _ | assumption | refine Below.drew ?_ | refine below_drewN ?_ _ | refine balloc ?_ _ | refine Below.setCell ?_ (by first | (simp; done) | (simp; omega) | omega) _ | refine bchain (by assumption) ?_))⟩
  · repeat (first | exact alloc_at _ (by simp) | refine alloc_lt _ ?_)
  · repeat (first | exact alloc_at _ (by simp) | refine alloc_lt _ ?_)
def RNew (w : World) (L : Int) (e : Ending) (w' : World) : Prop := ∃ (aO : Option Addr) (cO : Nat) (aY : Option Addr) (cY : Nat), e = .returned (.agg #[.int .i64 0, .int .i64 L, .slice aO 0 cO, .int .i64 16777216, .int .i64 (16777216 + L), .slice aY 0 cY]) ∧ RMem w' aO 0 cO aY 0 cY L (16777216 + L) [] [] none none ∧ Below w.heap.size w w'
set_option maxRecDepth 100000 in
set_option maxHeartbeats 1000000 in
theorem rmnew_any (limit : Int) (w : World) : Calls Try.prog 11 #[.int .i64 limit] w (RNew w (nmL limit)) := by
  obtain ⟨l0, l1⟩ := nmL_bd limit
  have hX : max 0 (min limit 16777216) = nmL limit := by unfold nmL; split <;> (try split) <;> omega
  generalize nmL limit = L at *
  have n1 := fun W => rnew_any 0 L W
  have n2 := fun W => rnew_any 16777216 (16777216 + L) W
  rw [show max (0 : Int) 0 = 0 by decide, show newLm 0 L = L by have := newLm_at (b := 0) (by omega) l0 l1 (by omega); rwa [show (0 : Int) + L = L by omega] at this] at n1
  rw [show max (16777216 : Int) 0 = 16777216 by decide, newLm_at (by omega) l0 l1 (by omega)] at n2
  have ok1 : SpOk 0 L [] := by have := new_ok (b := 0) (by omega) l0 l1 (by omega); rwa [show (0 : Int) + L = L by omega] at this
  have ok2 : SpOk 16777216 (16777216 + L) [] := new_ok (by omega) l0 l1 (by omega)
  go_enter Try.func11, Try.ntmps11
  go_wp2_with fail
  refine (n1 _).mono ?_
  rintro e w1 ⟨⟨v1, rfl, hv1⟩, hb1⟩
  obtain ⟨aO, cO, rfl, hrO⟩ := hv1
  have r := bblock hb1 (alloc_at (w := w) (.cells #[.int .i64 0, .int .i64 0, .slice none 0 0, .int .i64 0, .int .i64 0, .slice none 0 0] 35) (k := w.heap.size) rfl)
  have hw1 : Below w.heap.size w w1 := by (repeat (first | exact Below.refl _ _ | assumption | refine Below.drew ?_ | refine below_drewN ?_ _ | refine balloc ?_ _ | refine Below.setCell ?_ (by first | (simp; done) | (simp; omega) | omega) _ | refine bchain (by assumption) ?_))
  have HO := Lib.hid hrO
  clear hrO hb1
  go_wp2_with fail
  refine (n2 _).mono ?_
  rintro e w2 ⟨⟨v2, rfl, hv2⟩, hb2⟩
  obtain ⟨aY, cY, rfl, hrY⟩ := hv2
  have r := bblock hb2 r
  have hw2 := bchain hb2 hw1
  have hRM : RMem w2 aO 0 cO aY 0 cY L (16777216 + L) [] [] none none := ⟨rfl, rfl, HO.out.keep (fun G o e => by cases e), hrY, ok1, ok2, l1⟩
  clear hrY HO hb2 n1 n2
  have r_0 : w2.cell? ⟨w.heap.size, 0, none⟩ = some (.int .i64 0) := by rw [cell_of_block r]; rfl
  have r_1 : w2.cell? ⟨w.heap.size, 1, none⟩ = some (.int .i64 0) := by rw [cell_of_block r]; rfl
  have r_2 : w2.cell? ⟨w.heap.size, 2, none⟩ = some (.slice none 0 0) := by rw [cell_of_block r]; rfl
  have r_3 : w2.cell? ⟨w.heap.size, 3, none⟩ = some (.int .i64 0) := by rw [cell_of_block r]; rfl
  have r_4 : w2.cell? ⟨w.heap.size, 4, none⟩ = some (.int .i64 0) := by rw [cell_of_block r]; rfl
  have r_5 : w2.cell? ⟨w.heap.size, 5, none⟩ = some (.slice none 0 0) := by rw [cell_of_block r]; rfl
  have r_f : ∀ i, w2.frozen? ⟨w.heap.size, i, none⟩ = false := frozen_of_block r
  have hz_r : w.heap.size < w2.heap.size := (Array.getElem?_eq_some_iff.1 r).1
  go_wp2
  refine bodyPost_ret (v := .agg #[.int .i64 0, .int .i64 L, .slice aO 0 cO, .int .i64 16777216, .int .i64 (16777216 + L), .slice aY 0 cY]) (by simp [results, Try.results11, go_sem, r_0, r_1, r_2, r_3, r_4, r_5, hz_r]) rfl ?_
  refine ⟨aO, cO, aY, cY, rfl, ⟨rfl, rfl, hRM.old.keep (fun G o e => by cases e), hRM.yng.keep (fun G o e => by cases e), ok1, ok2, l1⟩, ?_⟩
  (repeat (first | (with_reducible refine balloc ?_ _) | (with_reducible refine below_set ?_ _ _ _ (Nat.le_refl _)) | (with_reducible refine below_set ?_ _ _ _ (Nat.le_add_right _ _)) | (with_reducible assumption)))
end Go.Proofs.Ytcmhgjkijegpnaa
