/-
  A card table.
-/
import Derived.Test.YtgjaafcagnkfdaaTsA
namespace Go.Proofs.Ytgjaafcagnkfdaa
open Go.RowKit Go.Maps
set_option linter.unusedSimpArgs false
set_option linter.unusedVariables false

structure TabAt (w : World) (tb mb : Nat) (S : List Int) : Prop where
  blk : w.heap[tb]? = some (.cells #[.map (some mb)] 73 (0, 0))
  sn : SeenAt w mb S
  ne : tb ≠ mb
theorem SeenAt.mods {S0 : Nat → Prop} {w w' : World} {b : Nat} {S : List Int} (h : SeenAt w b S) (hM : Mods S0 w w') (hn : ¬ S0 b) : SeenAt w' b S := by
  obtain ⟨D, ⟨es, clock, hb, h1⟩, h2, h3⟩ := h
  exact ⟨D, ⟨es, clock, mblock hM hb hn, h1⟩, h2, h3⟩
theorem TabAt.mods {S0 : Nat → Prop} {w w' : World} {tb mb : Nat} {S : List Int} (h : TabAt w tb mb S) (hM : Mods S0 w w') (h1 : ¬ S0 tb) (h2 : ¬ S0 mb) : TabAt w' tb mb S := ⟨mblock hM h.blk h1, h.sn.mods hM h2, h.ne⟩
theorem TabAt.below {w w' : World} {tb mb : Nat} {S : List Int} (h : TabAt w tb mb S) (hb : Below w.heap.size w w') : TabAt w' tb mb S := h.mods (S0 := fun _ => False) (Mods.of_below hb) (fun h => h) (fun h => h)
theorem TabAt.cell {w : World} {tb mb : Nat} {S : List Int} (h : TabAt w tb mb S) : w.cell? ⟨tb, 0, none⟩ = some (.map (some mb)) := by rw [cell_of_block h.blk]; rfl
theorem Mods.of_grown {w w' : World} {b : Nat} (h : w.grownBy w' (some b)) : Mods (fun k => k = b) w w' := ⟨h.os, h.tape, h.output, h.size, fun k hk hn => h.block k hk (fun e => hn (by cases e; rfl))⟩
/-- cards.New. -/
def TabNew (w : World) (e : Ending) (w' : World) : Prop := ∃ tb mb, e = .returned (.pointer (some ⟨tb, 0, none⟩)) ∧ TabAt w' tb mb [] ∧ Below w.heap.size w w' ∧ w.heap.size ≤ tb ∧ w.heap.size ≤ mb
set_option maxRecDepth 100000 in
set_option maxHeartbeats 2000000 in
theorem cnew_any (w : World) : Calls Try.prog 12 #[] w (TabNew w) := by
  have hmm := @run_makeMap Try.prog
  go_enter Try.func12, Try.ntmps12
  go_wp2
  go_ret
  have hs := seen_made w
  have hb := balloc (balloc (Below.refl _ w) (.map #[] 0)) (.cells #[.map (some w.heap.size)] 73)
  exact ⟨_, _, rfl, ⟨alloc_at _ (by simp), hs.below (balloc (Below.refl _ _) _), by simp⟩, hb, by simp, Nat.le_refl _⟩
set_option maxRecDepth 100000 in
theorem cold_any (a : Int) (w : World) : Calls Try.prog 53 #[.int .i64 a] w fun e w' => e = .returned (.bool (decide (0 ≤ a ∧ a < 16777216))) ∧ Below w.heap.size w w' := by
  go_enter Try.func53, Try.ntmps53
  go_wp2
  all_goals go_ret
  all_goals exact ⟨ret_bool (by rw [Bool.eq_iff_iff]; simp; try omega), by (repeat (first | exact Below.refl _ _ | assumption | refine Below.drew ?_ | refine below_drewN ?_ _ | refine balloc ?_ _ | refine Below.setCell ?_ (by first | (simp; done) | (simp; omega) | omega) _ | refine bchain (by assumption) ?_))⟩
set_option maxRecDepth 100000 in
set_option maxHeartbeats 2000000 in
theorem mark_any {w : World} {tb mb : Nat} {S : List Int} (h : TabAt w tb mb S) (a : Int) (h0 : 0 ≤ a) (h1 : a < 16777216) (hS : S.length < 4611686018427387904) : Calls Try.prog 36 #[.pointer (some ⟨tb, 0, none⟩), .int .i64 a] w fun e w' => e = .returned (.int .i64 0) ∧ TabAt w' tb mb (S ++ [a / 16]) ∧ Mods (fun k => k = mb) w w' := by
  have hO := fun W => cold_any a W
  have hd : decide (0 ≤ a ∧ a < 16777216) = true := by simp; omega
  rw [hd] at hO
  have hml : maxLen = 9223372036854775807 := rfl
  have hq : Int.tdiv a 16 = a / 16 := Int.tdiv_eq_ediv_of_nonneg h0
  have H := Lib.hid h
  clear h hd
  go_enter Try.func36, Try.ntmps36
  go_wp2_with fail
  refine (hO _).mono ?_
  rintro e w1 ⟨rfl, hb⟩
  have h1' := H.out.below hb
  have c0 := h1'.cell
  have hsn := h1'.sn
  have hz : tb < w1.heap.size := (Array.getElem?_eq_some_iff.1 h1'.blk).1
  have HB := Lib.hid hb
  have H1 := Lib.hid h1'
  clear hb h1' hO
  go_wp2_with (refine wpList_seen (by rfl) _ _ _ (by rfl) mb S (by rfl) hsn (by omega) (a / 16) (by simp [go_sem, hq]) (by rfl) (by omega) ?_; intro w2 hs2 hg2)
  have hM := Mods.of_grown hg2
  have hT : TabAt w2 tb mb (S ++ [a / 16]) := ⟨mblock hM H1.out.blk H1.out.ne, hs2, H1.out.ne⟩
  clear hg2
  go_wp2
  go_ret
  exact ⟨rfl, hT, (Mods.of_below (S := fun k => k = mb) HB.out).trans hM (fun i hi => .inl hi)⟩
set_option maxRecDepth 100000 in
set_option maxHeartbeats 2000000 in
theorem marked_any {w : World} {tb mb : Nat} {S : List Int} (h : TabAt w tb mb S) (a : Int) (h0 : 0 ≤ a) (h1 : a < 16777216) : Calls Try.prog 42 #[.pointer (some ⟨tb, 0, none⟩), .int .i64 a] w fun e w' => e = .returned (.bool (decide (a / 16 ∈ S))) ∧ Below w.heap.size w w' := by
  have hO := fun W => cold_any a W
  have hd : decide (0 ≤ a ∧ a < 16777216) = true := by simp; omega
  rw [hd] at hO
  have hq : Int.tdiv a 16 = a / 16 := Int.tdiv_eq_ediv_of_nonneg h0
  have H := Lib.hid h
  clear h hd
  go_enter Try.func42, Try.ntmps42
  go_wp2_with fail
  refine (hO _).mono ?_
  rintro e w1 ⟨rfl, hb⟩
  have h1' := H.out.below hb
  have c0 := h1'.cell
  have hz : tb < w1.heap.size := (Array.getElem?_eq_some_iff.1 h1'.blk).1
  have hlk := h1'.sn.look (x := a / 16) (by omega)
  have HB := Lib.hid hb
  clear hb h1' hO
  go_wp2
  go_ret
  exact ⟨by simp, HB.out⟩
theorem run_clear {w : World} {mb : Nat} {es : Array MapEntry} {clock : Nat} (hb : w.heap[mb]? = some (.map es clock)) (ty : TypeId) : ∃ c, (Builtin.clear_ #[71] ty #[.map (some mb)]).run Try.prog w = .ok (.tuple #[]) { w with heap := w.heap.setIfInBounds mb (.map #[] c) } := by
  refine ⟨clock, ?_⟩
  simp [Builtin.clear_, run_underlying Try.underlying71, MapKept.run_getObj_map hb, MapKept.run_setObj_map _ hb, Result.andThen]
theorem wpList_clear {ops : Array Oper} {rest : List Oper} {o : Oper} {a : Act} {w : World} {Q : Exit → Act → World → Prop} (hgd : o.guard = none) (s : Operand)
    (ho : o.op = .call { callee := .builtin .clear, args := #[s], argTypes := #[71] }) (mb : Nat) (S : List Int) (hs : a.eval s = .map (some mb)) (hsn : SeenAt w mb S)
    (h : ∀ w', SeenAt w' mb [] → w.grownBy w' (some mb) → wpList Try.prog ops Q rest (a.put o.dst (.tuple #[])) w') : wpList Try.prog ops Q (o :: rest) a w := by
  obtain ⟨D, ⟨es, clock, hb, _⟩, _, _⟩ := hsn
  obtain ⟨c, hr⟩ := run_clear hb o.type
  have hlt : mb < w.heap.size := (Array.getElem?_eq_some_iff.1 hb).1
  refine wpList_plain hgd fun K hK => ?_
  unfold Oper.wp execOp
  simp only [ho, resolve, invoke, builtin, Sem.run_bind, Sem.run_pure, Result.andThen_ok, List.map_toArray, List.map_cons, List.map_nil, hs, hr]
  refine hK _ _ (h _ ⟨.map [], ⟨#[], c, ?_, ⟨by simp, MapKept.stamped_empty c, by simp⟩, Nat.le_refl _, rfl⟩, isMap_empty, fun x => by simp [DataW.atKey]⟩ ⟨rfl, rfl, rfl, by simp, fun k hk hn => ?_⟩)
  · simp [Array.getElem?_setIfInBounds, hlt]
  · have hne : mb ≠ k := fun e => hn (by rw [e])
    simp [Array.getElem?_setIfInBounds, hne]
set_option maxRecDepth 100000 in
set_option maxHeartbeats 2000000 in
theorem clear_any {w : World} {tb mb : Nat} {S : List Int} (h : TabAt w tb mb S) : Calls Try.prog 27 #[.pointer (some ⟨tb, 0, none⟩)] w fun e w' => e = .returned (.tuple #[]) ∧ TabAt w' tb mb [] ∧ Mods (fun k => k = mb) w w' := by
  have c0 := h.cell
  have hsn := h.sn
  have hz : tb < w.heap.size := (Array.getElem?_eq_some_iff.1 h.blk).1
  have H := Lib.hid h
  clear h
  go_enter Try.func27, Try.ntmps27
  go_wp2_with (refine wpList_clear (by rfl) _ (by rfl) mb S (by rfl) hsn ?_; intro w2 hs2 hg2)
  have hM := Mods.of_grown hg2
  have hT : TabAt w2 tb mb [] := ⟨mblock hM H.out.blk H.out.ne, hs2, H.out.ne⟩
  clear hg2
  go_wp2
  exact bodyPost_end (v := .tuple #[]) (by simp [results, Try.results27, go_sem]) rfl ⟨rfl, hT, hM⟩
end Go.Proofs.Ytgjaafcagnkfdaa
