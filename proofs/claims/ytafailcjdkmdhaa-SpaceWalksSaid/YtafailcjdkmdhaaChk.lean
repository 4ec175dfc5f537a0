/-
  (*Space).walk, Check, Objects, Truncate: loops over the iterator.
-/
import Derived.RangeFuncFrom
import Derived.RangeFuncCalls
import Derived.RegionIn
import Derived.Shelf.RegionOpen
import Derived.Test.YtafailcjdkmdhaaWi
namespace Go.Proofs.Ytafailcjdkmdhaa
open Go.RowKit Go.Shelf
set_option linter.unusedSimpArgs false
set_option linter.unusedVariables false
attribute [local go_sem] Oper.semAt_some

theorem walk_any (b : Nat) (w : World) :
    Calls Try.prog 38 #[.pointer (some ⟨b, 0, none⟩)] w fun e w' => e = .returned (.func (.func 47) #[] #[.pointer (some ⟨w.heap.size, 0, none⟩)]) ∧ w' = w.alloc (.cells #[.pointer (some ⟨b, 0, none⟩)] 25) := by
  go_enter Try.func38, Try.ntmps38
  go_wp2
  go_ret
  exact ⟨rfl, rfl⟩
theorem walk_stops (n : Nat) (hn : 1 ≤ n) {w : World} {b Bn : Nat} {bs lm : Int} {ws : List Int} {g : Option Nat} (hc : w.cell? ⟨Bn, 0, none⟩ = some (.pointer (some ⟨b, 0, none⟩))) (h : SpAt w b bs lm ws g) (hk : SpOk bs lm ws) :
    SeqStopsK Fence.wide n Try.prog 47 #[.pointer (some ⟨Bn, 0, none⟩)] (fun x : Int × Bool => #[Value.int .i64 x.1, Value.bool x.2]) (KeepB (WkK Bn b g)) (fun ys => ys = seqL bs ws 0) (fun pre => pre <+: seqL bs ws 0) (seqL bs ws 0).length w :=
  fun l J Jx W hW hJ hJx hY h0 => walk1_in n hn l Bn hk _ J Jx hJ hJx (fun pre x W _ => hY pre x W) W (bcellv hW hc) (h.below hW) h0
theorem seqL_false {bs : Int} {ws : List Int} {i : Nat} {x : Int} (h : (x, false) ∈ seqL bs ws i) : x = bs + (stopAt ws i : Nat) := by
  unfold seqL at h
  simp at h
  exact h
theorem sp_own {W W' : World} {row : Option Nat} {b : Nat} {bs lm : Int} {ws : List Int} {g : Option Nat} (h : SpAt W b bs lm ws g) (hg : W.grownBy W' row) (hr : ∀ r, row = some r → ∃ o : Obj, W.heap[r]? = some o ∧ o.isCells = false) : SpAt W' b bs lm ws g := by
  have key : ∀ (k : Nat) (o : Obj), W.heap[k]? = some o → o.isCells = true → W'.heap[k]? = some o := fun k o ho hc => (grownBy_keeps_cells hg hr ho hc).trans ho
  obtain ⟨a, cap, h1, ⟨r1, r2, r3⟩, h3⟩ := h
  refine ⟨a, cap, key _ _ h1 rfl, ⟨r1, r2, ?_⟩, h3⟩
  rcases r3 with r3 | ⟨G, cur, rfl, ha, hh, hs, ht⟩
  · exact .inl r3
  · exact .inr ⟨G, cur, rfl, ha, key _ _ hh rfl, hs, ht⟩
theorem others_below {A B : World} (h : Below A.heap.size A B) : KeepsOthers A B := KeepsOthers.of_grownBy (grown_of h) (fun j o e => by cases e)

def chkI (ws : List Int) : Int := if stopAt ws 0 = ws.length then 0 else 11
set_option maxRecDepth 100000 in
set_option maxHeartbeats 2000000 in
theorem check_any {w : World} {b : Nat} {bs lm : Int} {ws : List Int} {g : Option Nat} (h : SpAt w b bs lm ws g) (hk : SpOk bs lm ws) :
    Calls Try.prog 23 #[.pointer (some ⟨b, 0, none⟩)] w fun e w' => e = .returned (.int .i64 (chkI ws)) ∧ Below w.heap.size w w' := by
  refine (callsIn_wide (n := 9)).1 ?_
  refine callsIn_of_wp_marks Try.func23 rfl trivial ?_ rfl
  simp only [Try.ntmps23, List.size_toArray, List.length_cons, List.length_nil, Nat.reduceAdd, Nat.reduceSub, Array.replicate_succ, Array.replicate_zero, List.push_toArray, List.append_toArray, List.nil_append, List.cons_append]
  gi_wp2_with fail
  refine ⟨trivial, (callsIn_wide.2 (walk_any b _)).mono ?_⟩
  rintro e w3 ⟨rfl, hw3⟩
  have hB0 : Below w.heap.size w w3 := by rw [hw3]; exact balloc (balloc (balloc (Below.refl _ _) _) _) _
  have hz : w3.heap.size = w.heap.size + 3 := by rw [hw3]; simp
  have hs3 := h.below hB0
  have c0 : w3.cell? ⟨w.heap.size, 0, none⟩ = some (.pointer (some ⟨b, 0, none⟩)) := by rw [hw3]; simp [go_sem]
  have c1 : w3.cell? ⟨w.heap.size + 1, 0, none⟩ = some (.int .i64 0) := by rw [hw3]; simp [go_sem]
  have f1 : w3.frozen? ⟨w.heap.size + 1, 0, none⟩ = false := by rw [hw3]; simp [go_sem]
  have c2 : w3.cell? ⟨w.heap.size + 2, 0, none⟩ = some (.pointer (some ⟨b, 0, none⟩)) := by rw [hw3]; simp [go_sem]
  have hbl := h.lt
  have hgl := h.glt
  have hK : ∀ k, WkK (w.heap.size + 2) b g k → k < w3.heap.size := by
    rintro k (rfl | rfl | e)
    · omega
    · omega
    · have := hgl k e; omega
  simp only [World.size_alloc, Nat.add_assoc, Nat.reduceAdd]
  clear hw3
  gi_wp2_with fail
  refine wpIn_rangeFunc_ownF rfl (by omega) (gf := 47) (lb := #[.pointer (some ⟨w.heap.size + 2, 0, none⟩)]) rfl trivial (enters_of Try.func47 (by kernel_rfl) rfl)
    (walk_stops _ (by omega) c2 hs3 hk) KeepB.t (KeepB.b hK) (Below.refl _ _) (fun _ => rfl)
    (fun pre W => ((∀ x ∈ pre, x.2 = false → x.1 = bs + ws.length) ∧ W.cell? ⟨w.heap.size, 0, none⟩ = some (.pointer (some ⟨b, 0, none⟩)) ∧ W.cell? ⟨w.heap.size + 1, 0, none⟩ = some (.int .i64 0) ∧ W.frozen? ⟨w.heap.size + 1, 0, none⟩ = false ∧ SpAt W b bs lm ws g ∧ w3.heap.size ≤ W.heap.size) ∧ Below w.heap.size w W)
    (fun c pre W => (c = .ret ∧ (∃ x, (x, false) ∈ pre ∧ x ≠ bs + ws.length) ∧ W.cell? ⟨w.heap.size + 1, 0, none⟩ = some (.int .i64 11)) ∧ Below w.heap.size w W)
    (OwnFrom.and (Own.from (fun s A B row hs hg hr => ⟨hs.1, cell_kept hs.2.1 hg hr, cell_kept hs.2.2.1 hg hr, (frozen_kept hs.2.2.1 hg hr).trans hs.2.2.2.1, sp_own hs.2.2.2.2.1 hg hr, Nat.le_trans hs.2.2.2.2.2 hg.size⟩) _) (ownFrom_below (Nat.le_refl _) (by omega)))
    (fun c => OwnFrom.and (Own.from (fun s A B row hs hg hr => ⟨hs.1, hs.2.1, cell_kept hs.2.2 hg hr⟩) _) (ownFrom_below (Nat.le_refl _) (by omega)))
    ⟨⟨by simp, c0, c1, f1, hs3, Nat.le_refl _⟩, hB0⟩
    (fun x => { tmps := #[.pointer (some ⟨b, 0, none⟩), .pointer (some ⟨w.heap.size, 0, none⟩), .pointer (some ⟨w.heap.size + 1, 0, none⟩), .int .i64 x.1, .bool x.2, .pointer (some ⟨b, 0, none⟩), .func (.func 47) #[] #[.pointer (some ⟨w.heap.size + 2, 0, none⟩)], .int .i64 x.1, .bool x.2, undef, undef, undef, undef, undef, undef, undef, undef], defers := [] }) ?assign ?body ?done ?stop
  case assign =>
    intro l x W K hK
    gi_wp2
    exact hK
  case body =>
    rintro l pre ⟨a, ob⟩ W ⟨⟨hp, d0, d1, fr, hsp, hz3⟩, hB⟩ _
    cases ob
    · gi_wp2_with fail
      refine ⟨trivial, CallsIn.inRound l ((callsIn_wide.2 (top_any hsp hk)).mono ?_)⟩
      rintro e W2 ⟨rfl, hb2⟩
      have e1 := bcellv hb2 d1
      have e0 := bcellv hb2 d0
      have hB2 := bchain hb2 hB
      have ot := others_below hb2
      have kb := KeepB.of_below (K := WkK (w.heap.size + 2) b g) hb2 (fun k hk => by have := hK k hk; omega)
      have fr2 : W2.frozen? ⟨w.heap.size + 1, 0, none⟩ = false := (World.frozen?_of_block (hb2.block _ (World.block_lt_of_cell? W _ d1))).trans fr
      have sp2 := hsp.below hb2
      by_cases hx : a = bs + ws.length
      · gi_wp2
        exact ⟨ot, kb, ⟨fun x hx' hf => (List.mem_append.1 hx').elim (fun h' => hp x h' hf) (fun h' => by simp at h'; rw [h']; exact hx), e0, e1, fr2, sp2, Nat.le_trans hz3 hb2.size⟩, hB2⟩
      · gi_wp2
        exact ⟨ot.trans (KeepsOthers.setCell _ _ _), ⟨rfl, ⟨a, by simp, hx⟩, World.cell?_setCell_same' _ _ _ (by rw [e1]; rfl)⟩, hB2.setCell (p := ⟨w.heap.size + 1, 0, none⟩) (by simp) _⟩
    · gi_wp2
      refine ⟨trivial, ?_⟩
      gi_wp2
      exact ⟨KeepsOthers.refl _, fun _ _ => rfl, ⟨fun x hx' hf => (List.mem_append.1 hx').elim (fun h' => hp x h' hf) (fun h' => by simp at h'; rw [h'] at hf; cases hf), d0, d1, fr, hsp, hz3⟩, hB⟩
  case done =>
    rintro D ys W hD rfl ⟨⟨hp, d0, d1, fr, hsp, hz3⟩, hB⟩ hK'
    have hst : chkI ws = 0 := by
      have := hp (bs + (stopAt ws 0 : Nat), false) (by unfold seqL; simp) rfl
      unfold chkI
      rw [if_pos (by simp at this; omega)]
    gi_wp2
    have hK2 := (KeepsOthers.setCell W ⟨w.heap.size + 1, 0, none⟩ (.int .i64 0)).same D _ hK' rfl
    refine ⟨by simp, .inl ⟨_, _, rfl, run_takeDeferred hK2, ?_⟩⟩
    have hc5 := cell_kept (World.cell?_setCell_same' W ⟨w.heap.size + 1, 0, none⟩ (.int .i64 0) (by rw [d1]; rfl)) (grownBy_putObj' _ D (.deferred none)) (fun r e => by cases e; exact ⟨_, hK2, rfl⟩)
    refine ⟨.int .i64 0, ?_, by rw [hst], (hB.setCell (p := ⟨w.heap.size + 1, 0, none⟩) (by simp) _).trans (belowK_b (w := w) (Nat.le_refl _) _ D _ _ (by omega) hK2 rfl rfl)⟩
    simp [results, Try.f23, go_sem, hc5]
  case stop =>
    rintro D c pre W hD hpre ⟨⟨rfl, ⟨x, hin, hx⟩, hcr⟩, hB⟩ hK'
    have hst : chkI ws = 11 := by
      have := seqL_false (hpre.subset hin)
      unfold chkI
      rw [if_neg (by omega)]
    gi_wp2
    refine ⟨by simp, .inl ⟨_, _, rfl, run_takeDeferred hK', ?_⟩⟩
    have hc5 := cell_kept hcr (grownBy_putObj' _ D (.deferred none)) (fun r e => by cases e; exact ⟨_, hK', rfl⟩)
    refine ⟨.int .i64 11, ?_, by rw [hst], hB.trans (belowK_b (w := w) (Nat.le_refl _) W D _ _ (by omega) hK' rfl rfl)⟩
    simp [results, Try.f23, go_sem, hc5]
end Go.Proofs.Ytafailcjdkmdhaa
