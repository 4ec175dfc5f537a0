/-
  refmeshlaw06.step: an operation on a space and on the reference.
-/
import Derived.Test.YtafailcjdkmdhaaAnyT
import Derived.Deep.RegionHeld3
namespace Go.Proofs.Ytafailcjdkmdhaa
open Go.RowKit
set_option linter.unusedSimpArgs false
set_option linter.unusedVariables false

/-- A space and its reference, side by side: the same words, in rows that lie apart. -/
structure PairAt (w : World) (b : Nat) (v : Value) (bs lm : Int) (ws : List Int) (g gm : Option Nat) : Prop where
  sp : SpAt w b bs lm ws g
  md : MdAt w v bs lm ws gm
  ok : SpOk bs lm ws
  ap : ∀ G, gm = some G → ¬ SpS b g G
theorem MdAt.lt {w : World} {v : Value} {bs lm : Int} {ws : List Int} {g : Option Nat} (h : MdAt w v bs lm ws g) : ∀ G, g = some G → G < w.heap.size := by
  rintro G rfl
  obtain ⟨a, cap, _, _, _, h3⟩ := h
  rcases h3 with ⟨h3, _⟩ | ⟨G', cur, e, _, hh, _⟩
  · cases h3
  · cases e
    exact (Array.getElem?_eq_some_iff.1 hh).1
/-- What step comes to. -/
def StepPost (w : World) (b : Nat) (bs lm : Int) (g gm : Option Nat) (e : Ending) (w' : World) : Prop :=
  ∃ v' ws' g' gm', e = .returned (.tuple #[v', .bool true]) ∧ PairAt w' b v' bs lm ws' g' gm' ∧ Mods (SpS b g) w w' ∧ (∀ G, g' = some G → g = some G ∨ w.heap.size ≤ G) ∧ ∀ G, gm' = some G → gm = some G ∨ w.heap.size ≤ G
theorem StepPost.mk {w w3 W : World} {b : Nat} {bs lm : Int} {ws' : List Int} {g gm g' gm' : Option Nat} {v' : Value} (hs : SpAt w3 b bs lm ws' g') (hm : MdAt w3 v' bs lm ws' gm') (hk : SpOk bs lm ws') (hM : Mods (SpS b g) w w3) (hF : Mods (fun k => k = w.heap.size + 2) w3 W) (hbl : b < w.heap.size) (hgl : ∀ G, g = some G → G < w.heap.size) (hml : ∀ G, gm = some G → G < w.heap.size) (hap : ∀ G, gm = some G → ¬ SpS b g G)
    (h1 : ∀ G, g' = some G → g = some G ∨ w.heap.size + 3 ≤ G) (h2 : ∀ G, gm' = some G → gm = some G ∨ w.heap.size + 3 ≤ G) (h3 : ∀ G, g' = some G → gm' = some G → gm = some G ∧ g = some G) : StepPost w b bs lm g gm (.returned (.tuple #[v', .bool true])) W := by
  refine ⟨v', ws', g', gm', rfl, ⟨hs.mods hF (by omega) (fun G e => ?_), hm.mods hF (fun G e => ?_), hk, fun G e => ?_⟩, hM.trans hF (fun i hi => .inr (by omega)), fun G e => (h1 G e).imp id (fun h => by omega), fun G e => (h2 G e).imp id (fun h => by omega)⟩
  · rcases h1 G e with h | h
    · have := hgl G h; omega
    · omega
  · rcases h2 G e with h | h
    · have := hml G h; omega
    · omega
  · rintro (h | h)
    · rcases h2 G e with h' | h'
      · exact hap G h' (.inl h)
      · omega
    · obtain ⟨h4, h5⟩ := h3 G h e
      exact hap G h4 (.inr h5)
theorem Mods.narrow {S : Nat → Prop} {w w' : World} (h : Mods (fun k => w.heap.size ≤ k) w w') : Mods S w w' := ⟨h.os, h.tape, h.output, h.size, fun k hk _ => h.block k hk (by omega)⟩
theorem StepPost.of_mods {w W : World} {b : Nat} {bs lm : Int} {ws : List Int} {g gm : Option Nat} {v : Value} (h : PairAt w b v bs lm ws g gm) (hF : Mods (fun k => w.heap.size ≤ k) w W) (hbl : b < w.heap.size) (hgl : ∀ G, g = some G → G < w.heap.size) (hml : ∀ G, gm = some G → G < w.heap.size) : StepPost w b bs lm g gm (.returned (.tuple #[v, .bool true])) W :=
  ⟨v, ws, g, gm, rfl, ⟨h.sp.mods hF (by omega) (fun G e => by have := hgl G e; omega), h.md.mods hF (fun G e => by have := hml G e; omega), h.ok, h.ap⟩, hF.trans (Mods.refl (fun _ => False) W) (fun i hi => hi.elim) |>.narrow, fun G e => .inl e, fun G e => .inl e⟩
set_option maxRecDepth 100000 in
set_option maxHeartbeats 2000000 in
theorem step_alloc0 {w : World} {b : Nat} {v : Value} {bs lm : Int} {ws : List Int} {g gm : Option Nat} (hp : PairAt w b v bs lm ws g gm) (k c f m s x u : Int)  :
    Calls Try.prog 17 #[.pointer (some ⟨b, 0, none⟩), v, .agg #[.int .u8 0, .int .i64 k, .int .i64 c, .int .i64 f, .int .i64 m, .int .i64 s, .int .i64 x, .int .u64 u]] w (StepPost w b bs lm g gm) := by
  obtain ⟨hs, hm, hk, hap⟩ := hp
  have hbl := hs.lt
  have hgl := hs.glt
  have hml := hm.lt
  obtain ⟨A, cap, rfl, hr⟩ := hm
  have hm : MdAt w (.agg #[.int .i64 bs, .int .i64 lm, .slice A ws.length cap]) bs lm ws gm := ⟨A, cap, rfl, hr⟩
  have hn0 : ∀ j, w.heap.size ≤ j → ¬ SpS b g j := fun j hj => not_sps (by omega) (fun G h => by have := hgl G h; omega)
  have hsk : ∀ W, Mods (fun k => w.heap.size ≤ k) w W → SpAt W b bs lm ws g := fun W h => hs.mods h (by omega) (fun G e => by have := hgl G e; omega)
  have hmk : ∀ W, Mods (fun k => w.heap.size ≤ k ∨ SpS b g k) w W → MdAt W (.agg #[.int .i64 bs, .int .i64 lm, .slice A ws.length cap]) bs lm ws gm := fun W h => hm.mods h (fun G e => by have := hml G e; rintro (h | h); omega; exact hap G e h)
  clear hr
  have hA := fun (W : World) (H : SpAt W b bs lm ws g) => alloc_any H hk k c f m s
  have hR := fun (W : World) (H : MdAt W (.agg #[.int .i64 bs, .int .i64 lm, .slice A ws.length cap]) bs lm ws gm) => ralloc_any H hk k c f m s
  have hk2 := alOk hk k c f m s
  generalize alA bs lm ws k c f m s = ra at *
  generalize alE bs lm ws k c f m s = re at *
  generalize alW bs lm ws k c f m s = ws2 at *
  clear hk
  generalize hn : ws.length = n at *
  have HN := Lib.hid hn
  clear hn
  go_enter Try.func17, Try.ntmps17
  go_wp2_with fail
  refine (hA _ (hsk _ (by (repeat (first | exact Mods.refl _ _ | assumption | refine Mods.drew ?_ | refine Mods.drewN ?_ _ | refine Mods.alloc ?_ _ | refine Mods.setCell ?_ (by first | (left; simp; done) | (left; simp; omega) | (right; simp; done) | (right; simp; omega)) _ | refine Mods.chain (by assumption) ?_))))).mono ?_
  rintro e w1 ⟨rfl, g1, hs1, hm1, hg1⟩
  have hM1 : Mods (SpS b g) w w1 := Mods.trans (S := SpS b g) (S1 := SpS b g) (by (repeat (first | exact Mods.refl _ _ | assumption | refine Mods.drew ?_ | refine Mods.drewN ?_ _ | refine Mods.alloc ?_ _ | refine Mods.setCell ?_ (by first | (left; simp; done) | (left; simp; omega) | (right; simp; done) | (right; simp; omega)) _ | refine Mods.chain (by assumption) ?_))) hm1 (fun i hi => .inl hi)
  have k0 : w1.heap[w.heap.size]? = some (.cells #[.int .i64 bs, .int .i64 lm, .slice A n cap] 43 (0, 0)) := mblock hm1 (by repeat (first | exact alloc_at _ (by simp) | refine alloc_lt _ ?_)) (hn0 _ (by omega))
  have k1 : w1.heap[w.heap.size + 1]? = some (.cells #[.int .u8 0, .int .i64 k, .int .i64 c, .int .i64 f, .int .i64 m, .int .i64 s, .int .i64 x, .int .u64 u] 34 (0, 0)) := mblock hm1 (by repeat (first | exact alloc_at _ (by simp) | refine alloc_lt _ ?_)) (hn0 _ (by omega))
  have k2 : w1.heap[w.heap.size + 2]? = some (.cells #[.int .i64 0, .int .i64 0, .slice none 0 0] 43 (0, 0)) := mblock hm1 (by repeat (first | exact alloc_at _ (by simp) | refine alloc_lt _ ?_)) (hn0 _ (by omega))
  have hz1 : w.heap.size + 3 ≤ w1.heap.size := by have := hm1.size; simp only [World.size_alloc] at this; omega
  have hg1 : ∀ G, g1 = some G → g = some G ∨ w.heap.size + 3 ≤ G := fun G e => (hg1 G e).imp id (fun h => by simp only [World.size_alloc] at h; omega)
  have hgl1 := hs1.glt
  have hmd1 := hmk w1 (hM1.mono (fun k hk => .inr hk))
  have k0_0 : w1.cell? ⟨w.heap.size, 0, none⟩ = some (.int .i64 bs) := by rw [cell_of_block k0]; rfl
  have k0_1 : w1.cell? ⟨w.heap.size, 1, none⟩ = some (.int .i64 lm) := by rw [cell_of_block k0]; rfl
  have k0_2 : w1.cell? ⟨w.heap.size, 2, none⟩ = some (.slice A n cap) := by rw [cell_of_block k0]; rfl
  have k1_1 : w1.cell? ⟨w.heap.size + 1, 1, none⟩ = some (.int .i64 k) := by rw [cell_of_block k1]; rfl
  have k1_2 : w1.cell? ⟨w.heap.size + 1, 2, none⟩ = some (.int .i64 c) := by rw [cell_of_block k1]; rfl
  have k1_3 : w1.cell? ⟨w.heap.size + 1, 3, none⟩ = some (.int .i64 f) := by rw [cell_of_block k1]; rfl
  have k1_4 : w1.cell? ⟨w.heap.size + 1, 4, none⟩ = some (.int .i64 m) := by rw [cell_of_block k1]; rfl
  have k1_5 : w1.cell? ⟨w.heap.size + 1, 5, none⟩ = some (.int .i64 s) := by rw [cell_of_block k1]; rfl
  clear hA hsk hmk hm1
  go_wp2_with fail
  refine (hR _ hmd1).mono ?_
  rintro e w2 ⟨v2, rfl, gm2, hmd2, hgm2, hb2⟩
  have hs2 := hs1.below hb2
  have k0 : w2.heap[w.heap.size]? = some (.cells #[.int .i64 bs, .int .i64 lm, .slice A n cap] 43 (0, 0)) := bblock hb2 k0
  have k1 : w2.heap[w.heap.size + 1]? = some (.cells #[.int .u8 0, .int .i64 k, .int .i64 c, .int .i64 f, .int .i64 m, .int .i64 s, .int .i64 x, .int .u64 u] 34 (0, 0)) := bblock hb2 k1
  have k2 : w2.heap[w.heap.size + 2]? = some (.cells #[.int .i64 0, .int .i64 0, .slice none 0 0] 43 (0, 0)) := bblock hb2 k2
  have hM2 : Mods (SpS b g) w w2 := hM1.trans (Mods.of_below hb2) (fun i hi => .inl hi)
  have hmd3 := hmd2
  obtain ⟨A2, cap2, rfl, hr2⟩ := hmd2
  clear hr2 hmd1 hs1 hM1 hR hm hs
  have hz2 : w.heap.size + 3 ≤ w2.heap.size := by have := hb2.size; omega
  have hz3 : w.heap.size + 2 < w2.heap.size := by omega
  have hz4 : w.heap.size + 2 ≠ w2.heap.size := by omega
  have hz5 : w2.heap.size ≠ w.heap.size + 2 := by omega
  clear k0_0 k0_1 k0_2 k1_1 k1_2 k1_3 k1_4 k1_5
  have k2_0 : w2.cell? ⟨w.heap.size + 2, 0, none⟩ = some (.int .i64 0) := by rw [cell_of_block k2]; rfl
  have k2_1 : w2.cell? ⟨w.heap.size + 2, 1, none⟩ = some (.int .i64 0) := by rw [cell_of_block k2]; rfl
  have k2_2 : w2.cell? ⟨w.heap.size + 2, 2, none⟩ = some (.slice none 0 0) := by rw [cell_of_block k2]; rfl
  have k2_f : ∀ i, w2.frozen? ⟨w.heap.size + 2, i, none⟩ = false := frozen_of_block k2
  generalize hL : ws2.length = N2 at *
  have HL := Lib.hid hL
  clear hL k0 k1 k2
  go_wp2
  refine bodyPost_ret (v := .tuple #[.agg #[.int .i64 bs, .int .i64 lm, .slice A2 N2 cap2], .bool true]) (by simp [results, Try.results17, go_sem, hz3, hz4, hz5, k2_0, k2_1, k2_2]) rfl (StepPost.mk (w3 := w2) hs2 hmd3 hk2 hM2 (by (repeat (first | exact Mods.refl _ _ | assumption | refine Mods.drew ?_ | refine Mods.drewN ?_ _ | refine Mods.alloc ?_ _ | refine Mods.setCell ?_ (by first | (left; simp; done) | (left; simp; omega) | (right; simp; done) | (right; simp; omega)) _ | refine Mods.chain (by assumption) ?_))) hbl hgl hml hap hg1 (fun G e => (hgm2 G e).imp id (fun h => by omega)) (fun G e1 e2 => ?_))
  rcases hgm2 G e2 with h | h
  · rcases hg1 G e1 with h' | h'
    · exact ⟨h, h'⟩
    · have := hml G h; omega
  · have := hgl1 G e1; omega
set_option maxRecDepth 100000 in
set_option maxHeartbeats 2000000 in
theorem step_alloc1 {w : World} {b : Nat} {v : Value} {bs lm : Int} {ws : List Int} {g gm : Option Nat} (hp : PairAt w b v bs lm ws g gm) (k c f m s x u : Int)  :
    Calls Try.prog 17 #[.pointer (some ⟨b, 0, none⟩), v, .agg #[.int .u8 1, .int .i64 k, .int .i64 c, .int .i64 f, .int .i64 m, .int .i64 s, .int .i64 x, .int .u64 u]] w (StepPost w b bs lm g gm) := by
  obtain ⟨hs, hm, hk, hap⟩ := hp
  have hbl := hs.lt
  have hgl := hs.glt
  have hml := hm.lt
  obtain ⟨A, cap, rfl, hr⟩ := hm
  have hm : MdAt w (.agg #[.int .i64 bs, .int .i64 lm, .slice A ws.length cap]) bs lm ws gm := ⟨A, cap, rfl, hr⟩
  have hn0 : ∀ j, w.heap.size ≤ j → ¬ SpS b g j := fun j hj => not_sps (by omega) (fun G h => by have := hgl G h; omega)
  have hsk : ∀ W, Mods (fun k => w.heap.size ≤ k) w W → SpAt W b bs lm ws g := fun W h => hs.mods h (by omega) (fun G e => by have := hgl G e; omega)
  have hmk : ∀ W, Mods (fun k => w.heap.size ≤ k ∨ SpS b g k) w W → MdAt W (.agg #[.int .i64 bs, .int .i64 lm, .slice A ws.length cap]) bs lm ws gm := fun W h => hm.mods h (fun G e => by have := hml G e; rintro (h | h); omega; exact hap G e h)
  clear hr
  have hA := fun (W : World) (H : SpAt W b bs lm ws g) => alloc_any H hk k c f m s
  have hR := fun (W : World) (H : MdAt W (.agg #[.int .i64 bs, .int .i64 lm, .slice A ws.length cap]) bs lm ws gm) => ralloc_any H hk k c f m s
  have hk2 := alOk hk k c f m s
  generalize alA bs lm ws k c f m s = ra at *
  generalize alE bs lm ws k c f m s = re at *
  generalize alW bs lm ws k c f m s = ws2 at *
  clear hk
  generalize hn : ws.length = n at *
  have HN := Lib.hid hn
  clear hn
  go_enter Try.func17, Try.ntmps17
  go_wp2_with fail
  refine (hA _ (hsk _ (by (repeat (first | exact Mods.refl _ _ | assumption | refine Mods.drew ?_ | refine Mods.drewN ?_ _ | refine Mods.alloc ?_ _ | refine Mods.setCell ?_ (by first | (left; simp; done) | (left; simp; omega) | (right; simp; done) | (right; simp; omega)) _ | refine Mods.chain (by assumption) ?_))))).mono ?_
  rintro e w1 ⟨rfl, g1, hs1, hm1, hg1⟩
  have hM1 : Mods (SpS b g) w w1 := Mods.trans (S := SpS b g) (S1 := SpS b g) (by (repeat (first | exact Mods.refl _ _ | assumption | refine Mods.drew ?_ | refine Mods.drewN ?_ _ | refine Mods.alloc ?_ _ | refine Mods.setCell ?_ (by first | (left; simp; done) | (left; simp; omega) | (right; simp; done) | (right; simp; omega)) _ | refine Mods.chain (by assumption) ?_))) hm1 (fun i hi => .inl hi)
  have k0 : w1.heap[w.heap.size]? = some (.cells #[.int .i64 bs, .int .i64 lm, .slice A n cap] 43 (0, 0)) := mblock hm1 (by repeat (first | exact alloc_at _ (by simp) | refine alloc_lt _ ?_)) (hn0 _ (by omega))
  have k1 : w1.heap[w.heap.size + 1]? = some (.cells #[.int .u8 1, .int .i64 k, .int .i64 c, .int .i64 f, .int .i64 m, .int .i64 s, .int .i64 x, .int .u64 u] 34 (0, 0)) := mblock hm1 (by repeat (first | exact alloc_at _ (by simp) | refine alloc_lt _ ?_)) (hn0 _ (by omega))
  have k2 : w1.heap[w.heap.size + 2]? = some (.cells #[.int .i64 0, .int .i64 0, .slice none 0 0] 43 (0, 0)) := mblock hm1 (by repeat (first | exact alloc_at _ (by simp) | refine alloc_lt _ ?_)) (hn0 _ (by omega))
  have hz1 : w.heap.size + 3 ≤ w1.heap.size := by have := hm1.size; simp only [World.size_alloc] at this; omega
  have hg1 : ∀ G, g1 = some G → g = some G ∨ w.heap.size + 3 ≤ G := fun G e => (hg1 G e).imp id (fun h => by simp only [World.size_alloc] at h; omega)
  have hgl1 := hs1.glt
  have hmd1 := hmk w1 (hM1.mono (fun k hk => .inr hk))
  have k0_0 : w1.cell? ⟨w.heap.size, 0, none⟩ = some (.int .i64 bs) := by rw [cell_of_block k0]; rfl
  have k0_1 : w1.cell? ⟨w.heap.size, 1, none⟩ = some (.int .i64 lm) := by rw [cell_of_block k0]; rfl
  have k0_2 : w1.cell? ⟨w.heap.size, 2, none⟩ = some (.slice A n cap) := by rw [cell_of_block k0]; rfl
  have k1_1 : w1.cell? ⟨w.heap.size + 1, 1, none⟩ = some (.int .i64 k) := by rw [cell_of_block k1]; rfl
  have k1_2 : w1.cell? ⟨w.heap.size + 1, 2, none⟩ = some (.int .i64 c) := by rw [cell_of_block k1]; rfl
  have k1_3 : w1.cell? ⟨w.heap.size + 1, 3, none⟩ = some (.int .i64 f) := by rw [cell_of_block k1]; rfl
  have k1_4 : w1.cell? ⟨w.heap.size + 1, 4, none⟩ = some (.int .i64 m) := by rw [cell_of_block k1]; rfl
  have k1_5 : w1.cell? ⟨w.heap.size + 1, 5, none⟩ = some (.int .i64 s) := by rw [cell_of_block k1]; rfl
  clear hA hsk hmk hm1
  go_wp2_with fail
  refine (hR _ hmd1).mono ?_
  rintro e w2 ⟨v2, rfl, gm2, hmd2, hgm2, hb2⟩
  have hs2 := hs1.below hb2
  have k0 : w2.heap[w.heap.size]? = some (.cells #[.int .i64 bs, .int .i64 lm, .slice A n cap] 43 (0, 0)) := bblock hb2 k0
  have k1 : w2.heap[w.heap.size + 1]? = some (.cells #[.int .u8 1, .int .i64 k, .int .i64 c, .int .i64 f, .int .i64 m, .int .i64 s, .int .i64 x, .int .u64 u] 34 (0, 0)) := bblock hb2 k1
  have k2 : w2.heap[w.heap.size + 2]? = some (.cells #[.int .i64 0, .int .i64 0, .slice none 0 0] 43 (0, 0)) := bblock hb2 k2
  have hM2 : Mods (SpS b g) w w2 := hM1.trans (Mods.of_below hb2) (fun i hi => .inl hi)
  have hmd3 := hmd2
  obtain ⟨A2, cap2, rfl, hr2⟩ := hmd2
  clear hr2 hmd1 hs1 hM1 hR hm hs
  have hz2 : w.heap.size + 3 ≤ w2.heap.size := by have := hb2.size; omega
  have hz3 : w.heap.size + 2 < w2.heap.size := by omega
  have hz4 : w.heap.size + 2 ≠ w2.heap.size := by omega
  have hz5 : w2.heap.size ≠ w.heap.size + 2 := by omega
  clear k0_0 k0_1 k0_2 k1_1 k1_2 k1_3 k1_4 k1_5
  have k2_0 : w2.cell? ⟨w.heap.size + 2, 0, none⟩ = some (.int .i64 0) := by rw [cell_of_block k2]; rfl
  have k2_1 : w2.cell? ⟨w.heap.size + 2, 1, none⟩ = some (.int .i64 0) := by rw [cell_of_block k2]; rfl
  have k2_2 : w2.cell? ⟨w.heap.size + 2, 2, none⟩ = some (.slice none 0 0) := by rw [cell_of_block k2]; rfl
  have k2_f : ∀ i, w2.frozen? ⟨w.heap.size + 2, i, none⟩ = false := frozen_of_block k2
  generalize hL : ws2.length = N2 at *
  have HL := Lib.hid hL
  clear hL k0 k1 k2
  go_wp2
  refine bodyPost_ret (v := .tuple #[.agg #[.int .i64 bs, .int .i64 lm, .slice A2 N2 cap2], .bool true]) (by simp [results, Try.results17, go_sem, hz3, hz4, hz5, k2_0, k2_1, k2_2]) rfl (StepPost.mk (w3 := w2) hs2 hmd3 hk2 hM2 (by (repeat (first | exact Mods.refl _ _ | assumption | refine Mods.drew ?_ | refine Mods.drewN ?_ _ | refine Mods.alloc ?_ _ | refine Mods.setCell ?_ (by first | (left; simp; done) | (left; simp; omega) | (right; simp; done) | (right; simp; omega)) _ | refine Mods.chain (by assumption) ?_))) hbl hgl hml hap hg1 (fun G e => (hgm2 G e).imp id (fun h => by omega)) (fun G e1 e2 => ?_))
  rcases hgm2 G e2 with h | h
  · rcases hg1 G e1 with h' | h'
    · exact ⟨h, h'⟩
    · have := hml G h; omega
  · have := hgl1 G e1; omega
set_option maxRecDepth 100000 in
set_option maxHeartbeats 2000000 in
theorem step_other {w : World} {b : Nat} {v : Value} {bs lm : Int} {ws : List Int} {g gm : Option Nat} (hp : PairAt w b v bs lm ws g gm) (k c f m s x u : Int) (kd : Int) (h0 : (kd == (0 : Int)) = false) (h1 : (kd == (1 : Int)) = false) (h2 : (kd == (2 : Int)) = false) (h3 : (kd == (3 : Int)) = false) (h4 : (kd == (4 : Int)) = false) :
    Calls Try.prog 17 #[.pointer (some ⟨b, 0, none⟩), v, .agg #[.int .u8 kd, .int .i64 k, .int .i64 c, .int .i64 f, .int .i64 m, .int .i64 s, .int .i64 x, .int .u64 u]] w (StepPost w b bs lm g gm) := by
  obtain ⟨hs, hm, hk, hap⟩ := hp
  have hbl := hs.lt
  have hgl := hs.glt
  have hml := hm.lt
  obtain ⟨A, cap, rfl, hr⟩ := hm
  have hm : MdAt w (.agg #[.int .i64 bs, .int .i64 lm, .slice A ws.length cap]) bs lm ws gm := ⟨A, cap, rfl, hr⟩
  have hn0 : ∀ j, w.heap.size ≤ j → ¬ SpS b g j := fun j hj => not_sps (by omega) (fun G h => by have := hgl G h; omega)
  have hsk : ∀ W, Mods (fun k => w.heap.size ≤ k) w W → SpAt W b bs lm ws g := fun W h => hs.mods h (by omega) (fun G e => by have := hgl G e; omega)
  have hmk : ∀ W, Mods (fun k => w.heap.size ≤ k ∨ SpS b g k) w W → MdAt W (.agg #[.int .i64 bs, .int .i64 lm, .slice A ws.length cap]) bs lm ws gm := fun W h => hm.mods h (fun G e => by have := hml G e; rintro (h | h); omega; exact hap G e h)
  clear hr
  generalize hn : ws.length = n at *
  have HN := Lib.hid hn
  clear hn
  go_enter Try.func17, Try.ntmps17
  have hM : Mods (SpS b g) w w := Mods.refl _ _
  go_wp2
  exact bodyPost_ret (v := .tuple #[.agg #[.int .i64 bs, .int .i64 lm, .slice A n cap], .bool true]) (by simp [results, Try.results17, go_sem]) rfl (StepPost.of_mods ⟨hs, hm, hk, hap⟩ (by (repeat (first | exact Mods.refl _ _ | assumption | refine Mods.drew ?_ | refine Mods.drewN ?_ _ | refine Mods.alloc ?_ _ | refine Mods.setCell ?_ (by first | (left; simp; done) | (left; simp; omega) | (right; simp; done) | (right; simp; omega)) _ | refine Mods.chain (by assumption) ?_))) hbl hgl hml)
set_option maxRecDepth 100000 in
set_option maxHeartbeats 2000000 in
theorem step_high2 {w : World} {b : Nat} {v : Value} {bs lm : Int} {ws : List Int} {g gm : Option Nat} (hp : PairAt w b v bs lm ws g gm) (k c f m s x u : Int) (hx : 1000 < x) :
    Calls Try.prog 17 #[.pointer (some ⟨b, 0, none⟩), v, .agg #[.int .u8 2, .int .i64 k, .int .i64 c, .int .i64 f, .int .i64 m, .int .i64 s, .int .i64 x, .int .u64 u]] w (StepPost w b bs lm g gm) := by
  obtain ⟨hs, hm, hk, hap⟩ := hp
  have hbl := hs.lt
  have hgl := hs.glt
  have hml := hm.lt
  obtain ⟨A, cap, rfl, hr⟩ := hm
  have hm : MdAt w (.agg #[.int .i64 bs, .int .i64 lm, .slice A ws.length cap]) bs lm ws gm := ⟨A, cap, rfl, hr⟩
  have hn0 : ∀ j, w.heap.size ≤ j → ¬ SpS b g j := fun j hj => not_sps (by omega) (fun G h => by have := hgl G h; omega)
  have hsk : ∀ W, Mods (fun k => w.heap.size ≤ k) w W → SpAt W b bs lm ws g := fun W h => hs.mods h (by omega) (fun G e => by have := hgl G e; omega)
  have hmk : ∀ W, Mods (fun k => w.heap.size ≤ k ∨ SpS b g k) w W → MdAt W (.agg #[.int .i64 bs, .int .i64 lm, .slice A ws.length cap]) bs lm ws gm := fun W h => hm.mods h (fun G e => by have := hml G e; rintro (h | h); omega; exact hap G e h)
  clear hr
  generalize hn : ws.length = n at *
  have HN := Lib.hid hn
  clear hn
  go_enter Try.func17, Try.ntmps17
  have hM : Mods (SpS b g) w w := Mods.refl _ _
  go_wp2
  exact bodyPost_ret (v := .tuple #[.agg #[.int .i64 bs, .int .i64 lm, .slice A n cap], .bool true]) (by simp [results, Try.results17, go_sem]) rfl (StepPost.of_mods ⟨hs, hm, hk, hap⟩ (by (repeat (first | exact Mods.refl _ _ | assumption | refine Mods.drew ?_ | refine Mods.drewN ?_ _ | refine Mods.alloc ?_ _ | refine Mods.setCell ?_ (by first | (left; simp; done) | (left; simp; omega) | (right; simp; done) | (right; simp; omega)) _ | refine Mods.chain (by assumption) ?_))) hbl hgl hml)
set_option maxRecDepth 100000 in
set_option maxHeartbeats 2000000 in
theorem step_high4 {w : World} {b : Nat} {v : Value} {bs lm : Int} {ws : List Int} {g gm : Option Nat} (hp : PairAt w b v bs lm ws g gm) (k c f m s x u : Int) (hx : 1000 < x) :
    Calls Try.prog 17 #[.pointer (some ⟨b, 0, none⟩), v, .agg #[.int .u8 4, .int .i64 k, .int .i64 c, .int .i64 f, .int .i64 m, .int .i64 s, .int .i64 x, .int .u64 u]] w (StepPost w b bs lm g gm) := by
  obtain ⟨hs, hm, hk, hap⟩ := hp
  have hbl := hs.lt
  have hgl := hs.glt
  have hml := hm.lt
  obtain ⟨A, cap, rfl, hr⟩ := hm
  have hm : MdAt w (.agg #[.int .i64 bs, .int .i64 lm, .slice A ws.length cap]) bs lm ws gm := ⟨A, cap, rfl, hr⟩
  have hn0 : ∀ j, w.heap.size ≤ j → ¬ SpS b g j := fun j hj => not_sps (by omega) (fun G h => by have := hgl G h; omega)
  have hsk : ∀ W, Mods (fun k => w.heap.size ≤ k) w W → SpAt W b bs lm ws g := fun W h => hs.mods h (by omega) (fun G e => by have := hgl G e; omega)
  have hmk : ∀ W, Mods (fun k => w.heap.size ≤ k ∨ SpS b g k) w W → MdAt W (.agg #[.int .i64 bs, .int .i64 lm, .slice A ws.length cap]) bs lm ws gm := fun W h => hm.mods h (fun G e => by have := hml G e; rintro (h | h); omega; exact hap G e h)
  clear hr
  generalize hn : ws.length = n at *
  have HN := Lib.hid hn
  clear hn
  go_enter Try.func17, Try.ntmps17
  have hM : Mods (SpS b g) w w := Mods.refl _ _
  go_wp2
  exact bodyPost_ret (v := .tuple #[.agg #[.int .i64 bs, .int .i64 lm, .slice A n cap], .bool true]) (by simp [results, Try.results17, go_sem]) rfl (StepPost.of_mods ⟨hs, hm, hk, hap⟩ (by (repeat (first | exact Mods.refl _ _ | assumption | refine Mods.drew ?_ | refine Mods.drewN ?_ _ | refine Mods.alloc ?_ _ | refine Mods.setCell ?_ (by first | (left; simp; done) | (left; simp; omega) | (right; simp; done) | (right; simp; omega)) _ | refine Mods.chain (by assumption) ?_))) hbl hgl hml)
end Go.Proofs.Ytafailcjdkmdhaa
