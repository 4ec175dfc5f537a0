/-
  refmeshref06.Alloc, where the object fits.
-/
import Derived.Test.YtafailcjdkmdhaaRAlloc
import Derived.Test.YtafailcjdkmdhaaApp
namespace Go.Proofs.Ytafailcjdkmdhaa
open Go.RowKit
set_option linter.unusedSimpArgs false
set_option linter.unusedVariables false

/-- A space of the reference that was just made, and stands within what is handed back. -/
def MadeAt (w : World) (mk : Value → Value) (bs lm : Int) (ws : List Int) (e : Ending) (w' : World) : Prop :=
  ∃ v' g', e = .returned (mk v') ∧ MdAt w' v' bs lm ws g' ∧ (∀ G, g' = some G → w.heap.size ≤ G) ∧ Below w.heap.size w w'
set_option maxRecDepth 100000 in
set_option maxHeartbeats 1000000 in
theorem ralloc_ok {w : World} {v : Value} {bs lm : Int} {ws : List Int} {g : Option Nat} (h : MdAt w v bs lm ws g) (hk : SpOk bs lm ws) (k c f m s : Int) (hh : hvB k c f = true) (hi : idB m s = true) (hf : bs + ws.length + wordsI f ≤ lm) :
    Calls Try.prog 26 #[v, .agg #[.int .i64 k, .int .i64 c, .int .i64 f], .agg #[.int .i64 m, .int .i64 s]] w fun e w' => MadeAt w (fun v' => .tuple #[v', .int .i64 (bs + ws.length), .int .i64 0]) bs lm (ws ++ newObj k c f m s) e w' := by
  have h1 := fun W => rencode_yes k c f hh W
  have h2 := fun W => rencodeID_yes m s hi W
  have h3 := fun W => rwords_yes k c f hh W
  have h4 := fun (W : World) (H : MdAt W v bs lm ws g) => rtop_any H hk
  obtain ⟨y0, y1, y2⟩ := wordsI_bd hh
  have b0 := hk.b0
  have b1 := hk.top
  have b2 := hk.lm1
  obtain ⟨A, cap, rfl, hr⟩ := h
  obtain ⟨n, hn⟩ : ∃ n, ws.length = n := ⟨_, rfl⟩
  obtain ⟨y, hy⟩ : ∃ y, wordsI f = y := ⟨_, rfl⟩
  obtain ⟨x, hx⟩ : ∃ x, encI k c f = x := ⟨_, rfl⟩
  obtain ⟨z, hz⟩ : ∃ z, idI m s = z := ⟨_, rfl⟩
  have HX := Lib.hid hx
  have HZ := Lib.hid hz
  have HY := Lib.hid hy
  rw [hy] at h3 y0 y1 y2 hf
  rw [hx] at h1
  rw [hz] at h2
  rw [hn] at h4 b1 hf ⊢
  clear hx hz hy
  go_enter Try.func26, Try.ntmps26
  go_wp2_with fail
  refine (h1 _).mono ?_
  rintro e w1 ⟨rfl, hb1⟩
  have hb1' := hb1
  have q0 : w1.cell? ⟨w.heap.size, 0, none⟩ = some (.int .i64 bs) := bcellv hb1 (by simp [go_sem])
  have q1 : w1.cell? ⟨w.heap.size, 1, none⟩ = some (.int .i64 lm) := bcellv hb1 (by simp [go_sem])
  have q2 : w1.cell? ⟨w.heap.size, 2, none⟩ = some (.slice A n cap) := bcellv hb1 (by simp [go_sem])
  have p0 : w1.cell? ⟨w.heap.size + 1, 0, none⟩ = some (.int .i64 k) := bcellv hb1 (by simp [go_sem])
  have p1 : w1.cell? ⟨w.heap.size + 1, 1, none⟩ = some (.int .i64 c) := bcellv hb1 (by simp [go_sem])
  have p2 : w1.cell? ⟨w.heap.size + 1, 2, none⟩ = some (.int .i64 f) := bcellv hb1 (by simp [go_sem])
  have i0 : w1.cell? ⟨w.heap.size + 2, 0, none⟩ = some (.int .i64 m) := bcellv hb1 (by simp [go_sem])
  have i1 : w1.cell? ⟨w.heap.size + 2, 1, none⟩ = some (.int .i64 s) := bcellv hb1 (by simp [go_sem])
  have r0 : w1.cell? ⟨w.heap.size + 3, 0, none⟩ = some (.int .i64 0) := bcellv hb1 (by simp [go_sem])
  have r1 : w1.cell? ⟨w.heap.size + 3, 1, none⟩ = some (.int .i64 0) := bcellv hb1 (by simp [go_sem])
  have r2 : w1.cell? ⟨w.heap.size + 3, 2, none⟩ = some (.slice none 0 0) := bcellv hb1 (by simp [go_sem])
  have r3 : ∀ i, w1.frozen? ⟨w.heap.size + 3, i, none⟩ = false := fun i => by have := frozen_of_block (bblock hb1 (alloc_get _ _)) i; simp only [World.size_alloc, Nat.add_assoc, Nat.reduceAdd] at this; exact this
  go_wp2_with fail
  refine (h2 _).mono ?_
  rintro e w2 ⟨rfl, hb2⟩
  have hb2' := hb2
  have r0' := r0
  have q0 : w2.cell? ⟨w.heap.size, 0, none⟩ = some (.int .i64 bs) := bcellv hb2 (q0)
  have q1 : w2.cell? ⟨w.heap.size, 1, none⟩ = some (.int .i64 lm) := bcellv hb2 (q1)
  have q2 : w2.cell? ⟨w.heap.size, 2, none⟩ = some (.slice A n cap) := bcellv hb2 (q2)
  have p0 : w2.cell? ⟨w.heap.size + 1, 0, none⟩ = some (.int .i64 k) := bcellv hb2 (p0)
  have p1 : w2.cell? ⟨w.heap.size + 1, 1, none⟩ = some (.int .i64 c) := bcellv hb2 (p1)
  have p2 : w2.cell? ⟨w.heap.size + 1, 2, none⟩ = some (.int .i64 f) := bcellv hb2 (p2)
  have i0 : w2.cell? ⟨w.heap.size + 2, 0, none⟩ = some (.int .i64 m) := bcellv hb2 (i0)
  have i1 : w2.cell? ⟨w.heap.size + 2, 1, none⟩ = some (.int .i64 s) := bcellv hb2 (i1)
  have r0 : w2.cell? ⟨w.heap.size + 3, 0, none⟩ = some (.int .i64 0) := bcellv hb2 (r0)
  have r1 : w2.cell? ⟨w.heap.size + 3, 1, none⟩ = some (.int .i64 0) := bcellv hb2 (r1)
  have r2 : w2.cell? ⟨w.heap.size + 3, 2, none⟩ = some (.slice none 0 0) := bcellv hb2 (r2)
  have r3 : ∀ i, w2.frozen? ⟨w.heap.size + 3, i, none⟩ = false := fun i => (World.frozen?_of_block (a := ⟨w.heap.size + 3, i, none⟩) (hb2.block (w.heap.size + 3) (World.block_lt_of_cell? _ _ r0'))).trans (r3 i)
  go_wp2_with fail
  refine (h3 _).mono ?_
  rintro e w3 ⟨rfl, hb3⟩
  have hb3' := hb3
  have r0' := r0
  have q0 : w3.cell? ⟨w.heap.size, 0, none⟩ = some (.int .i64 bs) := bcellv hb3 (q0)
  have q1 : w3.cell? ⟨w.heap.size, 1, none⟩ = some (.int .i64 lm) := bcellv hb3 (q1)
  have q2 : w3.cell? ⟨w.heap.size, 2, none⟩ = some (.slice A n cap) := bcellv hb3 (q2)
  have p0 : w3.cell? ⟨w.heap.size + 1, 0, none⟩ = some (.int .i64 k) := bcellv hb3 (p0)
  have p1 : w3.cell? ⟨w.heap.size + 1, 1, none⟩ = some (.int .i64 c) := bcellv hb3 (p1)
  have p2 : w3.cell? ⟨w.heap.size + 1, 2, none⟩ = some (.int .i64 f) := bcellv hb3 (p2)
  have i0 : w3.cell? ⟨w.heap.size + 2, 0, none⟩ = some (.int .i64 m) := bcellv hb3 (i0)
  have i1 : w3.cell? ⟨w.heap.size + 2, 1, none⟩ = some (.int .i64 s) := bcellv hb3 (i1)
  have r0 : w3.cell? ⟨w.heap.size + 3, 0, none⟩ = some (.int .i64 0) := bcellv hb3 (r0)
  have r1 : w3.cell? ⟨w.heap.size + 3, 1, none⟩ = some (.int .i64 0) := bcellv hb3 (r1)
  have r2 : w3.cell? ⟨w.heap.size + 3, 2, none⟩ = some (.slice none 0 0) := bcellv hb3 (r2)
  have r3 : ∀ i, w3.frozen? ⟨w.heap.size + 3, i, none⟩ = false := fun i => (World.frozen?_of_block (a := ⟨w.heap.size + 3, i, none⟩) (hb3.block (w.heap.size + 3) (World.block_lt_of_cell? _ _ r0'))).trans (r3 i)
  have hbw3 : Below w.heap.size w w3 := by (repeat (first | exact Below.refl _ _ | assumption | refine Below.drew ?_ | refine below_drewN ?_ _ | refine balloc ?_ _ | refine Below.setCell ?_ (by first | (simp; done) | (simp; omega) | omega) _ | refine bchain (by assumption) ?_))
  have hm3 : MdAt w3 (.agg #[.int .i64 bs, .int .i64 lm, .slice A n cap]) bs lm ws g := MdAt.below ⟨A, cap, by rw [hn], hr⟩ hbw3
  go_wp2_with fail
  have o0 : ∀ x, (over w3 x).cell? ⟨w.heap.size, 0, none⟩ = some (.int .i64 bs) := over_cell q0
  have o1 : ∀ x, (over w3 x).cell? ⟨w.heap.size, 1, none⟩ = some (.int .i64 lm) := over_cell q1
  have o2 : ∀ x, (over w3 x).cell? ⟨w.heap.size, 2, none⟩ = some (.slice A n cap) := over_cell q2
  (refine wp_region_over (by kernel_rfl) (by kernel_rfl) ?_); (repeat (go_big_quiet_step ((first | (go_at_call 41; exact calls_over (h4 _ (hm3.below (over_below _ _)))))))); (refine wpQuiet_nil ?_)
  intro w4 hb4
  have hb4' := hb4
  clear o0 o1 o2
  have r0' := r0
  have q0 : w4.cell? ⟨w.heap.size, 0, none⟩ = some (.int .i64 bs) := bcellv hb4 (q0)
  have q1 : w4.cell? ⟨w.heap.size, 1, none⟩ = some (.int .i64 lm) := bcellv hb4 (q1)
  have q2 : w4.cell? ⟨w.heap.size, 2, none⟩ = some (.slice A n cap) := bcellv hb4 (q2)
  have p0 : w4.cell? ⟨w.heap.size + 1, 0, none⟩ = some (.int .i64 k) := bcellv hb4 (p0)
  have p1 : w4.cell? ⟨w.heap.size + 1, 1, none⟩ = some (.int .i64 c) := bcellv hb4 (p1)
  have p2 : w4.cell? ⟨w.heap.size + 1, 2, none⟩ = some (.int .i64 f) := bcellv hb4 (p2)
  have i0 : w4.cell? ⟨w.heap.size + 2, 0, none⟩ = some (.int .i64 m) := bcellv hb4 (i0)
  have i1 : w4.cell? ⟨w.heap.size + 2, 1, none⟩ = some (.int .i64 s) := bcellv hb4 (i1)
  have r0 : w4.cell? ⟨w.heap.size + 3, 0, none⟩ = some (.int .i64 0) := bcellv hb4 (r0)
  have r1 : w4.cell? ⟨w.heap.size + 3, 1, none⟩ = some (.int .i64 0) := bcellv hb4 (r1)
  have r2 : w4.cell? ⟨w.heap.size + 3, 2, none⟩ = some (.slice none 0 0) := bcellv hb4 (r2)
  have r3 : ∀ i, w4.frozen? ⟨w.heap.size + 3, i, none⟩ = false := fun i => (World.frozen?_of_block (a := ⟨w.heap.size + 3, i, none⟩) (hb4.block (w.heap.size + 3) (World.block_lt_of_cell? _ _ r0'))).trans (r3 i)
  have hm4 := hm3.below hb4
  have hbw4 : Below w.heap.size w w4 := by (repeat (first | exact Below.refl _ _ | assumption | refine Below.drew ?_ | refine below_drewN ?_ _ | refine balloc ?_ _ | refine Below.setCell ?_ (by first | (simp; done) | (simp; omega) | omega) _ | refine bchain (by assumption) ?_))
  clear hm3 hb1 hb2 hb3 hb4 hbw3 h1 h2 h3
  go_wp2_with fail
  refine (h4 _ hm4).mono ?_
  rintro e w5 ⟨rfl, hb5⟩
  have r0' := r0
  have q0 : w5.cell? ⟨w.heap.size, 0, none⟩ = some (.int .i64 bs) := bcellv hb5 (q0)
  have q1 : w5.cell? ⟨w.heap.size, 1, none⟩ = some (.int .i64 lm) := bcellv hb5 (q1)
  have q2 : w5.cell? ⟨w.heap.size, 2, none⟩ = some (.slice A n cap) := bcellv hb5 (q2)
  have p0 : w5.cell? ⟨w.heap.size + 1, 0, none⟩ = some (.int .i64 k) := bcellv hb5 (p0)
  have p1 : w5.cell? ⟨w.heap.size + 1, 1, none⟩ = some (.int .i64 c) := bcellv hb5 (p1)
  have p2 : w5.cell? ⟨w.heap.size + 1, 2, none⟩ = some (.int .i64 f) := bcellv hb5 (p2)
  have i0 : w5.cell? ⟨w.heap.size + 2, 0, none⟩ = some (.int .i64 m) := bcellv hb5 (i0)
  have i1 : w5.cell? ⟨w.heap.size + 2, 1, none⟩ = some (.int .i64 s) := bcellv hb5 (i1)
  have r0 : w5.cell? ⟨w.heap.size + 3, 0, none⟩ = some (.int .i64 0) := bcellv hb5 (r0)
  have r1 : w5.cell? ⟨w.heap.size + 3, 1, none⟩ = some (.int .i64 0) := bcellv hb5 (r1)
  have r2 : w5.cell? ⟨w.heap.size + 3, 2, none⟩ = some (.slice none 0 0) := bcellv hb5 (r2)
  have r3 : ∀ i, w5.frozen? ⟨w.heap.size + 3, i, none⟩ = false := fun i => (World.frozen?_of_block (a := ⟨w.heap.size + 3, i, none⟩) (hb5.block (w.heap.size + 3) (World.block_lt_of_cell? _ _ r0'))).trans (r3 i)
  have hbw5 : Below w.heap.size w w5 := by (repeat (first | exact Below.refl _ _ | assumption | refine Below.drew ?_ | refine below_drewN ?_ _ | refine balloc ?_ _ | refine Below.setCell ?_ (by first | (simp; done) | (simp; omega) | omega) _ | refine bchain (by assumption) ?_))
  have bk0 : w5.heap[w.heap.size]? = some (.cells #[.int .i64 bs, .int .i64 lm, .slice A n cap] 43 (0, 0)) := bblock hb5 (bblock hb4' (bblock hb3' (bblock hb2' (bblock hb1' (by repeat (first | exact alloc_at _ (by simp) | refine alloc_lt _ ?_))))))
  have bk3 : w5.heap[w.heap.size + 3]? = some (.cells #[.int .i64 0, .int .i64 0, .slice none 0 0] 43 (0, 0)) := bblock hb5 (bblock hb4' (bblock hb3' (bblock hb2' (bblock hb1' (by repeat (first | exact alloc_at _ (by simp) | refine alloc_lt _ ?_))))))
  obtain ⟨i0', hi0, hz0, hz1, hz2⟩ := info_parts u64_info'
  have hml : maxLen = 9223372036854775807 := rfl
  have hzs : w.heap.size + 4 ≤ w5.heap.size := by have := World.block_lt_of_cell? _ _ r0; simp at this; omega
  have hr5 : RowAt w5 A cap ws g := hr.keep (fun G o e ho => (hbw5.block G (Array.getElem?_eq_some_iff.1 ho).1).trans ho)
  have q2' := bcellv (balloc (Below.refl _ w5) (.cells #[] 32)) q2
  clear h4 hm4 hb5 hbw4 hb1' hb2' hb3' hb4'
  have hown0 := World.ownsRow_made w5 (base := w5.heap.size) (e := 32) (size := 1) #[] 0 (Nat.le_refl _) (Nat.zero_le _) rfl
  have hnews : NewsAt (w5.alloc (.cells #[] 32)) A n cap (ws.map (Value.int .u64)) := by
    have := (hr5.news (t := n) (by omega)).below (balloc (Below.refl _ w5) (.cells #[] 32))
    rwa [List.take_of_length_le (by omega)] at this
  go_wp2_with (at_builtin; first
    | (refine wpList_append_fresh rfl _ _ 41 rfl w5.heap.size 32 i0' (.int .u64 0) 1 8 Try.underlying41 hi0 hz0 hz1 hz2 rfl (by decide) w5.heap.size rfl hown0 A n cap (ws.map (Value.int .u64)) rfl (by simp [hn]) hnews (u64_one ws) (by omega) (by omega) (by simp) ?_; intro gv cv w55 hown1 hgrow1; have hb55 : Below w5.heap.size w5 w55 := ((Below.refl _ w5).alloc (Nat.le_refl _) _).grown hgrow1 (by simp) (fun k e => by cases e; exact Nat.le_refl _); have hz55 := hb55.size; have hlt1 := (hown1.lt gv rfl).1; clear hgrow1 hnews hown0)
    | (refine wpList_append_own _ rfl _ _ 41 rfl w5.heap.size 32 i0' (.int .u64 0) 1 8 Try.underlying41 hi0 hz0 hz1 hz2 rfl (by decide) (.slice (some ⟨gv, 0, none⟩) n cv) n (ws.map (Value.int .u64)) rfl (hown1.alloc _) ⟨w55.heap.size, 0, none⟩ 2 2 [.int .u64 x, .int .u64 z] rfl rfl (two_new _ _ _ _) (by simp [Value.oneCell']) (by omega) (by omega) (by simp; omega) ?_; intro v' w6 hown' hgrow _))
  have hb6 : Below w5.heap.size w5 w6 := (hb55.alloc hz55 _).grown hgrow (by simp; omega) (fun k e => by cases e; exact hlt1)
  clear hb55 hz55 hlt1 hown1
  have hz6 : w.heap.size + 4 ≤ w6.heap.size := by have := hb6.size; omega
  have bb0 : w6.heap[w.heap.size]? = some (.cells #[.int .i64 bs, .int .i64 lm, .slice A n cap] 43 (0, 0)) := bblock hb6 bk0
  have bb3 : w6.heap[w.heap.size + 3]? = some (.cells #[.int .i64 0, .int .i64 0, .slice none 0 0] 43 (0, 0)) := bblock hb6 bk3
  have hbw6 : Below w.heap.size w w6 := hbw5.trans (hb6.mono hbw5.size)
  have hown6 := row_base (B := w.heap.size + 4) hown' (by omega)
  obtain ⟨g', cap', rfl⟩ := ownsRow_succ hown'
  clear hown' hgrow hb6 bk0 bk3 q0 q1 q2 p0 p1 p2 i0 i1 r0 r1 r2 r3 hbw5
  go_wp2_with fail
  go_loopw [15, 16] (fun p q wr => ∃ i : Nat, 2 ≤ i ∧ (i : Int) ≤ y ∧ q = .int .i64 i ∧ wr.ownsRow (w.heap.size + 4) 32 1 p (n + i) ((ws ++ x :: z :: List.replicate (i - 2) 0).map (Value.int .u64)) ∧ (∃ g' cap', p = .slice (some ⟨g', 0, none⟩) (n + i) cap') ∧
    wr.heap[w.heap.size]? = some (.cells #[.int .i64 bs, .int .i64 lm, .slice A n cap] 43 (0, 0)) ∧ wr.heap[w.heap.size + 3]? = some (.cells #[.int .i64 0, .int .i64 0, .slice none 0 0] 43 (0, 0)) ∧ Below w.heap.size w wr) (fun p q wr => y.toNat - (intOf q).toNat)
  case atStart => exact ⟨2, by omega, by omega, rfl, by simpa using hown6, ⟨_, _, rfl⟩, bb0, bb3, hbw6⟩
  case round =>
    obtain ⟨i, hi2, hiy, rfl, hown, ⟨g1, cap1, rfl⟩, c0, c3, hbr⟩ := hrel
    clear bb0 bb3 hown6 hbw6
    have hr4 : w.heap.size + 4 ≤ wr.heap.size := by have := (Array.getElem?_eq_some_iff.1 c3).1; have := (hown.lt g1 rfl).1; have := (hown.lt g1 rfl).2; omega
    by_cases hlt : (i : Int) < y
    · have hnew : (ws ++ x :: z :: List.replicate (i - 2) 0).map (Value.int .u64) ++ [Value.int .u64 0] = (ws ++ x :: z :: List.replicate (i + 1 - 2) 0).map (Value.int .u64) := by
        rw [show i + 1 - 2 = (i - 2) + 1 by omega, List.replicate_succ']
        simp
      have HN := Lib.hid hnew
      clear hnew
      go_wp2_with (at_builtin; refine wpList_append_own _ rfl _ _ 41 rfl (w.heap.size + 4) 32 i0' (.int .u64 0) 1 8 Try.underlying41 hi0 hz0 hz1 hz2 rfl (by decide) _ _ _ rfl (hown.alloc _) ⟨wr.heap.size, 0, none⟩ 1 1 [.int .u64 0] rfl rfl (cell_one_new _ _ _) (by simp [Value.oneCell']) (by omega) (by omega) (by simp; omega) ?_; intro v' w7 hown' hgrow _; obtain ⟨g', cap', rfl⟩ := ownsRow_succ hown')
      have hgn := (hown.lt g1 rfl).1
      have hb7 : Below (w.heap.size + 4) wr w7 := ((Below.refl _ wr).alloc (by omega) _).grown hgrow (by simp; omega) (fun k e => by cases e; exact hgn)
      have c0' := (hb7.block w.heap.size (by omega)).trans c0
      have c3' := (hb7.block (w.heap.size + 3) (by omega)).trans c3
      rw [HN.out] at hown'
      clear hgrow hown c0 c3
      go_roundw
      case rel => exact ⟨i + 1, by omega, by omega, by go_num, hown', ⟨_, _, rfl⟩, c0', c3', hbr.trans (hb7.mono (by omega))⟩
      case measure => simp [intOf]; omega
    · have hiy' : y = (i : Int) := by omega
      have hyn : y.toNat = i := by omega
      have hrow := RowAt.of_row (ws := ws ++ x :: z :: List.replicate (i - 2) 0) (by have := hown; rw [show n + i = (ws ++ x :: z :: List.replicate (i - 2) 0).length by simp [hn]; omega] at this; exact this)
      obtain ⟨a2, cap2, g2, e2, hr2, hg2⟩ := hrow
      simp only [Value.slice.injEq] at e2
      obtain ⟨rfl, e3, rfl⟩ := e2
      have hgn := (hown.lt g1 rfl).1
      have HE : newObj k c f m s = x :: z :: List.replicate (i - 2) 0 := by unfold newObj; rw [HX.out, HZ.out, HY.out, hyn]
      have HEN := Lib.hid HE
      clear HE hown
      have E3 := Lib.hid e3
      clear e3
      have t0 : wr.cell? ⟨w.heap.size, 0, none⟩ = some (.int .i64 bs) := by rw [cell_of_block c0]; rfl
      have t1 : wr.cell? ⟨w.heap.size, 1, none⟩ = some (.int .i64 lm) := by rw [cell_of_block c0]; rfl
      have t2 : wr.cell? ⟨w.heap.size, 2, none⟩ = some (.slice A n cap) := by rw [cell_of_block c0]; rfl
      have t3 : ∀ i, wr.frozen? ⟨w.heap.size, i, none⟩ = false := frozen_of_block c0
      have u0 : wr.cell? ⟨w.heap.size + 3, 0, none⟩ = some (.int .i64 0) := by rw [cell_of_block c3]; rfl
      have u1 : wr.cell? ⟨w.heap.size + 3, 1, none⟩ = some (.int .i64 0) := by rw [cell_of_block c3]; rfl
      have u2 : wr.cell? ⟨w.heap.size + 3, 2, none⟩ = some (.slice none 0 0) := by rw [cell_of_block c3]; rfl
      have u3 : ∀ i, wr.frozen? ⟨w.heap.size + 3, i, none⟩ = false := frozen_of_block c3
      clear c0 c3 hr hr5
      have n1 : g1 ≠ w.heap.size + 1 + 1 + 1 := by omega
      have n2 : w.heap.size + 1 + 1 + 1 ≠ g1 := by omega
      have hrf := (((hr2.apart ⟨w.heap.size, 2, none⟩ (.slice (some ⟨g1, 0, none⟩) (n + i) cap1) (fun G e => by have := hg2 G e; show G ≠ w.heap.size; omega)).apart ⟨w.heap.size + 1 + 1 + 1, 0, none⟩ (.int .i64 bs) (fun G e => by have := hg2 G e; show G ≠ w.heap.size + 1 + 1 + 1; omega)).apart ⟨w.heap.size + 1 + 1 + 1, 1, none⟩ (.int .i64 lm) (fun G e => by have := hg2 G e; show G ≠ w.heap.size + 1 + 1 + 1; omega)).apart ⟨w.heap.size + 1 + 1 + 1, 2, none⟩ (.slice (some ⟨g1, 0, none⟩) (n + i) cap1) (fun G e => by have := hg2 G e; show G ≠ w.heap.size + 1 + 1 + 1; omega)
      clear hr2
      go_wp2
      refine bodyPost_ret (v := .tuple #[.agg #[.int .i64 bs, .int .i64 lm, .slice (some ⟨g1, 0, none⟩) (n + i) cap1], .int .i64 (bs + (n : Int)), .int .i64 0]) (by simp [results, Try.results26, go_sem, u0, u1, u2, n1, n2]) rfl ⟨_, g2, rfl, ⟨some ⟨g1, 0, none⟩, cap1, by rw [HEN.out]; simp [hn]; omega, by rw [HEN.out]; exact hrf⟩, fun G h => by have := hg2 G h; omega, ?_⟩
      exact (((hbr.setCell (p := ⟨w.heap.size, 2, none⟩) (Nat.le_refl _) _).setCell (p := ⟨w.heap.size + 1 + 1 + 1, 0, none⟩) (by show w.heap.size ≤ w.heap.size + 1 + 1 + 1; omega) _).setCell (p := ⟨w.heap.size + 1 + 1 + 1, 1, none⟩) (by show w.heap.size ≤ w.heap.size + 1 + 1 + 1; omega) _).setCell (p := ⟨w.heap.size + 1 + 1 + 1, 2, none⟩) (by show w.heap.size ≤ w.heap.size + 1 + 1 + 1; omega) _
end Go.Proofs.Ytafailcjdkmdhaa
