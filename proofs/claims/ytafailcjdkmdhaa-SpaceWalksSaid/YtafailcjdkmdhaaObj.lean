/-
  (*Space).Objects.
-/
import Derived.RangeFuncBox
import Derived.Maps.AppendAt
import Derived.Lib.Walk
import Derived.Test.YtafailcjdkmdhaaTr
namespace Go.Proofs.Ytafailcjdkmdhaa
open Go.RowKit Go.Shelf
set_option linter.unusedSimpArgs false
set_option linter.unusedVariables false
attribute [local go_sem] Oper.semAt_some

theorem objs_len {ws : List Int} : ∀ (n i : Nat), ws.length - i ≤ n → i ≤ ws.length → (objs ws i).length + i ≤ ws.length := by
  intro n
  induction n with
  | zero =>
    intro i hn hi
    cases hz : szB ws i
    · rw [objs_no hz]; simpa using hi
    · have := szN_bd hz; omega
  | succ n ih =>
    intro i hn hi
    cases hz : szB ws i
    · rw [objs_no hz]; simpa using hi
    · have hb := szN_bd hz
      have := ih (i + szN ws i) (by omega) hb.2.2
      rw [objs_yes hz]
      simp
      omega
theorem seqL_len {bs : Int} {ws : List Int} : (seqL bs ws 0).length ≤ ws.length + 1 := by
  have := objs_len (ws := ws) ws.length 0 (by omega) (by omega)
  unfold seqL
  simp
  omega
/-- What Objects collects. -/
def pick (l : List (Int × Bool)) : List Int := (l.filter (fun x => x.2)).map (fun x => x.1)
theorem pick_hit (pre : List (Int × Bool)) (a : Int) : pick (pre ++ [(a, true)]) = pick pre ++ [a] := by simp [pick]
theorem pick_miss (pre : List (Int × Bool)) (a : Int) : pick (pre ++ [(a, false)]) = pick pre := by simp [pick]
theorem pick_len (pre : List (Int × Bool)) : (pick pre).length ≤ pre.length := by
  unfold pick
  rw [List.length_map]
  exact List.length_filter_le _ _
/-- The addresses of the objects. -/
def objA (bs : Int) (ws : List Int) : List Int := (objs ws 0).map (fun (j : Nat) => bs + (j : Int))
theorem pick_seqL {bs : Int} {ws : List Int} : pick (seqL bs ws 0) = objA bs ws := by
  unfold pick seqL objA
  rw [List.filter_append, List.map_append]
  simp
  rw [List.filter_eq_self.2 (by simp)]
  simp [Function.comp_def]
theorem int_info : (Try.prog.info? 3).map (fun i => (i.zero, i.size, i.bytes)) = some (some (.int .i64 0), 1, 8) := by kernel_rfl

set_option maxRecDepth 100000 in
set_option maxHeartbeats 2000000 in
theorem objects_any {w : World} {b : Nat} {bs lm : Int} {ws : List Int} {g : Option Nat} (h : SpAt w b bs lm ws g) (hk : SpOk bs lm ws) :
    Calls Try.prog 22 #[.pointer (some ⟨b, 0, none⟩)] w fun e w' => ∃ v, e = .returned v ∧ w'.ownsRow w.heap.size 3 1 v (objA bs ws).length ((objA bs ws).map (Value.int .i64)) ∧ Below w.heap.size w w' := by
  obtain ⟨i0, hi, hz0, hz1, hz2⟩ := info_parts int_info
  refine (callsIn_wide (n := 9)).1 ?_
  refine callsIn_of_wp_marks Try.func22 rfl trivial ?_ rfl
  simp only [Try.ntmps22, List.size_toArray, List.length_cons, List.length_nil, Nat.reduceAdd, Nat.reduceSub, Array.replicate_succ, Array.replicate_zero, List.push_toArray, List.append_toArray, List.nil_append, List.cons_append]
  gi_wp2_with fail
  refine ⟨trivial, (callsIn_wide.2 (walk_any b _)).mono ?_⟩
  rintro e w2 ⟨rfl, hw2⟩
  have hB0 : Below w.heap.size w w2 := by rw [hw2]; exact balloc (balloc (Below.refl _ _) _) _
  have hz : w2.heap.size = w.heap.size + 2 := by rw [hw2]; simp
  have hs2 := h.below hB0
  have bO : Boxed w2 w.heap.size 52 (.slice none 0 0) := by rw [hw2]; exact (Boxed.new w 52 (.slice none 0 0)).alloc _
  have bN : Boxed w2 (w.heap.size + 1) 25 (.pointer (some ⟨b, 0, none⟩)) := by
    have := Boxed.new (w.alloc (.cells #[.slice none 0 0] 52)) 25 (.pointer (some ⟨b, 0, none⟩))
    rw [World.size_alloc] at this
    rw [hw2]
    exact this
  have hbl := h.lt
  have hgl := h.glt
  have hK : ∀ k, WkK (w.heap.size + 1) b g k → k < w2.heap.size := by
    rintro k (rfl | rfl | e)
    · omega
    · omega
    · have := hgl k e; omega
  have hwl : (ws.length : Int) ≤ 1099511627776 := by have := hk.top; have := hk.lm1; have := hk.b0; omega
  have hsl := seqL_len (bs := bs) (ws := ws)
  have hml : maxLen = 9223372036854775807 := rfl
  simp only [World.size_alloc, Nat.add_assoc, Nat.reduceAdd]
  clear hw2
  gi_wp2_with fail
  refine wpIn_rangeFunc_ownF rfl (by omega) (gf := 47) (lb := #[.pointer (some ⟨w.heap.size + 1, 0, none⟩)]) rfl trivial (enters_of Try.func47 (by kernel_rfl) rfl)
    (walk_stops _ (by omega) bN.cell hs2 hk) KeepB.t (KeepB.b hK) (Below.refl _ _) (fun _ => rfl)
    (fun pre W => ((∃ v, Boxed W w.heap.size 52 v ∧ W.ownsRow w.heap.size 3 1 v (pick pre).length ((pick pre).map (Value.int .i64)) ∧ True) ∧ Boxed W (w.heap.size + 1) 25 (.pointer (some ⟨b, 0, none⟩))) ∧ Below w.heap.size w W)
    (fun _ _ _ => False)
    (OwnFrom.and (OwnFrom.and (Own.from (holdsRow_own w.heap.size w.heap.size 52 3 1 (fun pre => (pick pre).length) (fun pre => (pick pre).map (Value.int .i64)) (fun _ _ => True)) _) (fun s A B row hs hg hr => hs.kept hg (fun e' => by obtain ⟨_, o, ho, hc⟩ := hr _ e'.symm; rw [show A.heap[w.heap.size + 1]? = _ from hs] at ho; cases ho; cases hc))) (ownFrom_below (Nat.le_refl _) (by omega)))
    (fun _ _ _ _ _ hs _ _ => hs)
    ⟨⟨⟨_, bO, World.ownsRow_nil _ _ _ _, trivial⟩, bN⟩, hB0⟩
    (fun x => { tmps := #[.pointer (some ⟨b, 0, none⟩), undef, .slice none 0 0, .pointer (some ⟨w.heap.size, 0, none⟩), .int .i64 x.1, .bool x.2, .pointer (some ⟨b, 0, none⟩), .func (.func 47) #[] #[.pointer (some ⟨w.heap.size + 1, 0, none⟩)], .int .i64 x.1, .bool x.2, undef, undef, undef, undef, undef, undef], defers := [] }) ?assign ?body ?done ?stop
  case assign =>
    intro l x W K hK
    gi_wp2
    exact hK
  case body =>
    rintro l pre ⟨a, ob⟩ W ⟨⟨⟨v, hv, hrow, _⟩, hvN⟩, hB⟩ hlt
    have hc := hv.cell
    have hpl := pick_len pre
    cases ob
    · gi_wp2
      exact ⟨KeepsOthers.refl _, fun _ _ => rfl, ⟨⟨v, hv, by rw [pick_miss]; exact hrow, trivial⟩, hvN⟩, hB⟩
    · gi_wp2_with (gi_at_builtin; refine wpListIn_append_own _ rfl _ _ 52 rfl w.heap.size 3 i0 (.int .i64 0) 1 8 Try.underlying52 hi hz0 hz1 hz2 rfl (by decide) _ _ _ rfl (hrow.alloc _) ⟨W.heap.size, 0, none⟩ 1 1 [.int .i64 a] rfl rfl (cell_one_new _ _ _) (by simp [Value.oneCell']) (by omega) (by omega) (by have := hB.size; simp; omega) ?_; intro v' w1 hown' hgrow _; obtain ⟨g', cap', rfl⟩ := ownsRow_succ hown'; obtain ⟨hv1, hv2, hr2, hk2, hb2⟩ := hv.appended (by decide) hrow hB.size (Nat.le_refl _) hown' hgrow; have hc1 := hv1.cell; have hf1 := hv1.frozen)
      have hN1 : Boxed w1 (w.heap.size + 1) 25 (.pointer (some ⟨b, 0, none⟩)) := (hvN.alloc _).kept hgrow (hvN.not_row (by decide) hrow)
      have hN2 := hN1.kept (grownBy_setCell' w1 w.heap.size (.slice (some ⟨g', 0, none⟩) ((pick pre).length + 1) cap')) (by simp)
      refine ⟨hk2, ?_, ⟨⟨_, hv2, by rw [pick_hit]; simpa using hr2, trivial⟩, hN2⟩, hB.trans hb2⟩
      rintro k (rfl | rfl | e)
      · exact hN2.trans (show _ = W.heap[_]? from hvN.symm)
      · exact hb2.block k hbl
      · exact hb2.block k (hgl k e)
  case done =>
    rintro D ys W hD rfl ⟨⟨⟨v, hv, hrow, _⟩, _⟩, hB⟩ hK'
    have hc := hv.cell
    gi_wp2
    refine ⟨by simp, .inl ⟨_, _, rfl, run_takeDeferred hK', ?_⟩⟩
    refine ⟨_, results_tmp rfl _ _ _, v, rfl, ?_, hB.trans (belowK_b (w := w) (Nat.le_refl _) W D _ _ (by omega) hK' rfl rfl)⟩
    rw [← pick_seqL]
    exact ownsRow_putObj hrow _ hK' rfl
  case stop =>
    rintro D c pre W _ _ h _
    exact h.elim
end Go.Proofs.Ytafailcjdkmdhaa
