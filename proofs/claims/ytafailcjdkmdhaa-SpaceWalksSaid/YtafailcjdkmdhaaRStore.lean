/-
  refmeshref06.Store.
-/
import Derived.Test.YtafailcjdkmdhaaRChk
namespace Go.Proofs.Ytafailcjdkmdhaa
open Go.RowKit
set_option linter.unusedSimpArgs false
set_option linter.unusedVariables false

theorem row_cells {w : World} {a : Option Addr} {cap : Nat} {ws : List Int} {G : Nat} (h : RowAt w a cap ws (some G)) : ∀ (j : Nat) (u : Value), (ws.map (Value.int .u64))[j]? = some u → w.cell? ((⟨G, 0, none⟩ : Addr).add j) = some u := by
  intro j u hj
  obtain ⟨_, _, h3⟩ := h
  rcases h3 with ⟨h3, _⟩ | ⟨G', cur, e, _, hh, hs, ht⟩
  · cases h3
  · cases e
    rw [Addr.add_lit, Nat.zero_add, cell_of_block hh]
    have hlt : j < ws.length := by
      have := (List.getElem?_eq_some_iff.1 hj).1
      simpa using this
    rw [← ht, List.getElem?_take_of_lt hlt] at hj
    rw [← Array.getElem?_toList]
    exact hj
/-- An owned row of words, as a row. -/
theorem RowAt.of_row {w : World} {B : Nat} {v : Value} {ws : List Int} (h : w.ownsRow B 32 1 v ws.length (ws.map (Value.int .u64))) :
    ∃ (a : Option Addr) (cap : Nat) (g : Option Nat), v = .slice a ws.length cap ∧ RowAt w a cap ws g ∧ ∀ G, g = some G → B ≤ G := by
  obtain ⟨h1, h2⟩ := h
  rcases h2 with ⟨rfl, h0⟩ | ⟨g, cap, cur, rfl, hg, hh, hn, hm, hs, ht⟩
  · have : ws = [] := List.length_eq_zero_iff.1 h0
    subst this
    exact ⟨none, 0, none, rfl, ⟨by simp, by omega, .inl ⟨rfl, rfl⟩⟩, fun G h => by cases h⟩
  · refine ⟨_, cap, some g, rfl, ⟨hn, hm, .inr ⟨g, cur, rfl, rfl, hh, by omega, by rw [Nat.mul_one] at ht; exact ht⟩⟩, fun G h => by cases h; exact hg⟩
theorem u64_info' : (Try.prog.info? 32).map (fun i => (i.zero, i.size, i.bytes)) = some (some (.int .u64 0), 1, 8) := by kernel_rfl

set_option maxRecDepth 100000 in
theorem rstore_no {w : World} {v : Value} {bs lm : Int} {ws : List Int} {g : Option Nat} (h : MdAt w v bs lm ws g) (hk : SpOk bs lm ws) (x u : Int) (hx : inB bs ws.length x = false) :
    Calls Try.prog 27 #[v, .int .i64 x, .int .u64 u] w fun e w' => e = .returned (.tuple #[v, .int .i64 2]) ∧ Below w.heap.size w w' := by
  have hC := fun (W : World) (H : MdAt W v bs lm ws g) => rcontains_any H hk x
  rw [hx] at hC
  obtain ⟨a, cap, rfl, hr⟩ := h
  have h1 : ∀ o o', MdAt ((w.alloc o).alloc o') (.agg #[.int .i64 bs, .int .i64 lm, .slice a ws.length cap]) bs lm ws g := fun o o' => MdAt.below ⟨a, cap, rfl, hr⟩ (balloc (balloc (Below.refl _ _) _) _)
  clear hr hx
  generalize ws.length = n at *
  go_enter Try.func27, Try.ntmps27
  go_wp2_with fail
  refine (hC _ (h1 _ _)).mono ?_
  rintro e w1 ⟨rfl, hb1⟩
  have q0 : w1.cell? ⟨w.heap.size, 0, none⟩ = some (.int .i64 bs) := bcellv hb1 (by simp [go_sem])
  have q1 : w1.cell? ⟨w.heap.size, 1, none⟩ = some (.int .i64 lm) := bcellv hb1 (by simp [go_sem])
  have q2 : w1.cell? ⟨w.heap.size, 2, none⟩ = some (.slice a n cap) := bcellv hb1 (by simp [go_sem])
  have r0 : w1.cell? ⟨w.heap.size + 1, 0, none⟩ = some (.int .i64 0) := bcellv hb1 (by simp [go_sem])
  have r1 : w1.cell? ⟨w.heap.size + 1, 1, none⟩ = some (.int .i64 0) := bcellv hb1 (by simp [go_sem])
  have r2 : w1.cell? ⟨w.heap.size + 1, 2, none⟩ = some (.slice none 0 0) := bcellv hb1 (by simp [go_sem])
  have r3 : ∀ i, w1.frozen? ⟨w.heap.size + 1, i, none⟩ = false := fun i => by have := frozen_of_block (bblock hb1 (alloc_get _ _)) i; rw [World.size_alloc] at this; exact this
  clear hC h1
  go_wp2
  exact bodyPost_ret (v := .tuple #[.agg #[.int .i64 bs, .int .i64 lm, .slice a n cap], .int .i64 2]) (by simp [results, Try.results27, go_sem, *]) rfl ⟨rfl, by (repeat (first | exact Below.refl _ _ | assumption | refine Below.drew ?_ | refine below_drewN ?_ _ | refine balloc ?_ _ | refine Below.setCell ?_ (by first | (simp; done) | (simp; omega) | omega) _ | refine bchain (by assumption) ?_))⟩
theorem RowAt.set {w : World} {a : Option Addr} {cap : Nat} {ws : List Int} {G i : Nat} (h : RowAt w a cap ws (some G)) (hi : i < ws.length) (u : Int) : RowAt (w.setCell ⟨G, i, none⟩ (.int .u64 u)) a cap (ws.set i u) (some G) := by
  obtain ⟨e2, e3, e4⟩ := h
  rcases e4 with ⟨e4, _⟩ | ⟨G', cur, f1, f2, f3, f4, f5⟩
  · cases e4
  · cases f1
    exact ⟨by simpa using e2, e3, .inr ⟨G, cur.setIfInBounds i (.int .u64 u), rfl, f2, heap_setCell_same w G i cur _ _ f3, by simpa using f4, take_set hi u f5⟩⟩
theorem RowAt.other {w : World} {a : Option Addr} {cap : Nat} {ws : List Int} {G : Nat} (h : RowAt w a cap ws (some G)) (p : Addr) (u : Value) (hp : G ≠ p.block) : RowAt (w.setCell p u) a cap ws (some G) :=
  h.keep (fun G' o e ho => by cases e; exact (heap_setCell_other _ _ _ _ hp).trans ho)

set_option maxRecDepth 100000 in
set_option maxHeartbeats 1000000 in
theorem rstore_yes {w : World} {v : Value} {bs lm : Int} {ws : List Int} {g : Option Nat} (h : MdAt w v bs lm ws g) (hk : SpOk bs lm ws) (i : Nat) (hi : i < ws.length) (u : Int) :
    Calls Try.prog 27 #[v, .int .i64 (bs + i), .int .u64 u] w fun e w' => ∃ v' g', e = .returned (.tuple #[v', .int .i64 0]) ∧ MdAt w' v' bs lm (ws.set i u) g' ∧ (∀ G, g' = some G → w.heap.size ≤ G) ∧ Below w.heap.size w w' := by
  obtain ⟨i0, hi0, hz0, hz1, hz2⟩ := info_parts u64_info'
  have hC := fun (W : World) (H : MdAt W v bs lm ws g) => rcontains_any H hk (bs + i)
  rw [inB_iff.2 ⟨by omega, by omega⟩] at hC
  obtain ⟨a, cap, rfl, hr⟩ := h
  have hrw := hr
  have h1 : ∀ o o', MdAt ((w.alloc o).alloc o') (.agg #[.int .i64 bs, .int .i64 lm, .slice a ws.length cap]) bs lm ws g := fun o o' => MdAt.below ⟨a, cap, rfl, hr⟩ (balloc (balloc (Below.refl _ _) _) _)
  obtain ⟨G, rfl, rfl, _, _⟩ := hr.word hi
  have b0 := hk.b0
  have b1 := hk.top
  have b2 := hk.lm1
  have hml : maxLen = 9223372036854775807 := rfl
  obtain ⟨n, hn⟩ : ∃ n, ws.length = n := ⟨_, rfl⟩
  rw [hn] at hC h1 hi b1 ⊢
  go_enter Try.func27, Try.ntmps27
  go_wp2_with fail
  refine (hC _ (h1 _ _)).mono ?_
  rintro e w1 ⟨rfl, hb1⟩
  have q0 : w1.cell? ⟨w.heap.size, 0, none⟩ = some (.int .i64 bs) := bcellv hb1 (by simp [go_sem])
  have q1 : w1.cell? ⟨w.heap.size, 1, none⟩ = some (.int .i64 lm) := bcellv hb1 (by simp [go_sem])
  have q2 : w1.cell? ⟨w.heap.size, 2, none⟩ = some (.slice (some ⟨G, 0, none⟩) n cap) := bcellv hb1 (by simp [go_sem])
  have r0 : w1.cell? ⟨w.heap.size + 1, 0, none⟩ = some (.int .i64 0) := bcellv hb1 (by simp [go_sem])
  have r1 : w1.cell? ⟨w.heap.size + 1, 1, none⟩ = some (.int .i64 0) := bcellv hb1 (by simp [go_sem])
  have r2 : w1.cell? ⟨w.heap.size + 1, 2, none⟩ = some (.slice none 0 0) := bcellv hb1 (by simp [go_sem])
  have q3 : ∀ i, w1.frozen? ⟨w.heap.size, i, none⟩ = false := fun i => frozen_of_block (bblock hb1 (bblock (balloc (Below.refl _ _) _) (alloc_get _ _))) i
  have r3 : ∀ i, w1.frozen? ⟨w.heap.size + 1, i, none⟩ = false := fun i => by have := frozen_of_block (bblock hb1 (alloc_get _ _)) i; rw [World.size_alloc] at this; exact this
  have hbw : Below w.heap.size w w1 := by (repeat (first | exact Below.refl _ _ | assumption | refine Below.drew ?_ | refine below_drewN ?_ _ | refine balloc ?_ _ | refine Below.setCell ?_ (by first | (simp; done) | (simp; omega) | omega) _ | refine bchain (by assumption) ?_))
  have hz1' : w.heap.size + 2 ≤ w1.heap.size := by have := hb1.size; simp only [World.size_alloc] at this; omega
  have hr1 : RowAt w1 (some ⟨G, 0, none⟩) cap ws (some G) := hrw.keep (fun _ _ _ => bblock hbw)
  have hnews := fun (j : Nat) (x : Value) (hj : (ws.map (Value.int .u64))[j]? = some x) => bcellv (balloc (Below.refl _ w1) (.cells #[] 32)) (row_cells hr1 j x hj)
  have q2' := bcellv (balloc (Below.refl _ w1) (.cells #[] 32)) q2
  clear hC h1 hr hrw hb1
  have s1 : IntKind.i64.wrap (bs + (i : Int) - bs) = (i : Int) := by rw [show bs + (i : Int) - bs = (i : Int) by omega]; exact IntWalk.i64_in _ (by omega)
  have s2 : (bs + (i : Int) - bs).toNat = i := by omega
  have s3 : (0 : Int) ≤ bs + (i : Int) - bs := by omega
  have s4 : bs + (i : Int) - bs < (n : Int) := by omega
  go_wp2_with (at_builtin; refine wpList_append_own _ rfl _ _ 41 rfl w1.heap.size 32 i0 (.int .u64 0) 1 8 Try.underlying41 hi0 hz0 hz1 hz2 rfl (by decide) _ _ _ rfl (World.ownsRow_made w1 #[] 0 (Nat.le_refl _) (Nat.zero_le _) rfl) ⟨G, 0, none⟩ n cap (ws.map (Value.int .u64)) rfl (by simp [hn]) hnews (by intro x hx; obtain ⟨y, _, rfl⟩ := List.mem_map.1 hx; rfl) (by omega) (by omega) (by simp) ?_; intro v' w2 hown' hgrow _; have hb2 : Below w1.heap.size w1 w2 := ((Below.refl _ w1).alloc (Nat.le_refl _) _).grown hgrow (by simp) (fun k e => by simp [Value.ownBlock, Act.eval] at e; omega); have q0 := bcellv hb2 q0; have q1 := bcellv hb2 q1; have q2 := bcellv hb2 q2; have r0 := bcellv hb2 r0; have r1 := bcellv hb2 r1; have r2 := bcellv hb2 r2; obtain ⟨a', cap2, g2, rfl, hr2, hg2⟩ := RowAt.of_row (ws := ws) (by simpa [hn] using hown'); obtain ⟨G2, rfl, rfl, z, z'⟩ := hr2.word (hn.symm ▸ hi); rw [hn]; have g0 := hg2 G2 rfl; have q3 := fun i => (World.frozen?_of_block (a := ⟨w.heap.size, i, none⟩) (hb2.block w.heap.size (by omega))).trans (q3 i); have r3 := fun i => (World.frozen?_of_block (a := ⟨w.heap.size + 1, i, none⟩) (hb2.block (w.heap.size + 1) (by omega))).trans (r3 i))
  have hrow := (((((hr2.set (by rw [hn]; exact hi) u).other ⟨w.heap.size, 2, none⟩ (.slice (some ⟨G2, 0, none⟩) n cap2) (by show G2 ≠ w.heap.size; omega)).other ⟨w.heap.size + 1, 0, none⟩ (.int .i64 bs) (by show G2 ≠ w.heap.size + 1; omega)).other ⟨w.heap.size + 1, 1, none⟩ (.int .i64 lm) (by show G2 ≠ w.heap.size + 1; omega)).other ⟨w.heap.size + 1, 2, none⟩ (.slice (some ⟨G2, 0, none⟩) n cap2) (by show G2 ≠ w.heap.size + 1; omega))
  have n1 : G2 ≠ w.heap.size + 1 := by omega
  have n2 : w.heap.size + 1 ≠ G2 := by omega
  have hbf : Below w.heap.size w w2 := hbw.trans (hb2.mono hbw.size)
  refine bodyPost_ret (v := .tuple #[.agg #[.int .i64 bs, .int .i64 lm, .slice (some ⟨G2, 0, none⟩) n cap2], .int .i64 0]) (by simp [results, Try.results27, go_sem, r0, r1, r2, n1, n2]) rfl ⟨_, some G2, rfl, ⟨some ⟨G2, 0, none⟩, cap2, by rw [List.length_set, hn], hrow⟩, fun G h => by cases h; omega, ?_⟩
  exact ((((hbf.setCell (p := ⟨G2, i, none⟩) (by show w.heap.size ≤ G2; omega) _).setCell (p := ⟨w.heap.size, 2, none⟩) (Nat.le_refl _) _).setCell (p := ⟨w.heap.size + 1, 0, none⟩) (by show w.heap.size ≤ w.heap.size + 1; omega) _).setCell (p := ⟨w.heap.size + 1, 1, none⟩) (by show w.heap.size ≤ w.heap.size + 1; omega) _).setCell (p := ⟨w.heap.size + 1, 2, none⟩) (by show w.heap.size ≤ w.heap.size + 1; omega) _
end Go.Proofs.Ytafailcjdkmdhaa
