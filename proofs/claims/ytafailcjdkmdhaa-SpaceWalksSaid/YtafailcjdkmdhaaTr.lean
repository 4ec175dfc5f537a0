/-
  (*Space).Truncate.
-/
import Derived.Test.YtafailcjdkmdhaaChk
import Derived.Test.YtafailcjdkmdhaaQLast
namespace Go.Proofs.Ytafailcjdkmdhaa
open Go.RowKit Go.Shelf
set_option linter.unusedSimpArgs false
set_option linter.unusedVariables false
attribute [local go_sem] Oper.semAt_some

theorem objs_bd {ws : List Int} : ∀ (n i : Nat), ws.length - i ≤ n → i ≤ ws.length → (∀ j ∈ objs ws i, i ≤ j ∧ j ≤ ws.length) ∧ i ≤ stopAt ws i ∧ stopAt ws i ≤ ws.length := by
  intro n
  induction n with
  | zero =>
    intro i hn hi
    cases hz : szB ws i
    · rw [objs_no hz, stopAt_no hz]; simp; omega
    · have := szN_bd hz; omega
  | succ n ih =>
    intro i hn hi
    cases hz : szB ws i
    · rw [objs_no hz, stopAt_no hz]; simp; omega
    · have hb := szN_bd hz
      obtain ⟨h1, h2, h3⟩ := ih (i + szN ws i) (by omega) hb.2.2
      rw [objs_yes hz, stopAt_yes hz]
      refine ⟨fun j hj => ?_, by omega, h3⟩
      rcases List.mem_cons.1 hj with rfl | hj
      · omega
      · have := h1 j hj; omega
theorem seqL_bd {bs : Int} {ws : List Int} {x : Int × Bool} (h : x ∈ seqL bs ws 0) : bs ≤ x.1 ∧ x.1 ≤ bs + ws.length := by
  obtain ⟨h1, h2, h3⟩ := objs_bd (ws := ws) ws.length 0 (by omega) (by omega)
  unfold seqL at h
  rcases List.mem_append.1 h with h | h
  · obtain ⟨j, hj, rfl⟩ := List.mem_map.1 h
    have := h1 j hj
    simp only
    omega
  · rw [List.mem_singleton] at h
    rw [h]
    simp only
    omega
theorem seqL_last {bs : Int} {ws : List Int} (i : Nat) : (bs + (stopAt ws i : Nat), false) ∈ seqL bs ws i := by unfold seqL; simp
/-- x, if it is yielded; else the last that is. -/
noncomputable def cl (bs : Int) (ws : List Int) (x : Int × Bool) : Int × Bool := by
  classical
  exact if x ∈ seqL bs ws 0 then x else (bs + (stopAt ws 0 : Nat), false)
theorem cl_of {bs : Int} {ws : List Int} {x : Int × Bool} (h : x ∈ seqL bs ws 0) : cl bs ws x = x := by unfold cl; rw [if_pos h]
theorem cl_mem {bs : Int} {ws : List Int} (x : Int × Bool) : cl bs ws x ∈ seqL bs ws 0 := by
  unfold cl
  split
  · assumption
  · exact seqL_last 0
theorem walk_stopsC (n : Nat) (hn : 1 ≤ n) {w : World} {b Bn : Nat} {bs lm : Int} {ws : List Int} {g : Option Nat} (hc : w.cell? ⟨Bn, 0, none⟩ = some (.pointer (some ⟨b, 0, none⟩))) (h : SpAt w b bs lm ws g) (hk : SpOk bs lm ws) :
    SeqStopsK Fence.wide n Try.prog 47 #[.pointer (some ⟨Bn, 0, none⟩)] (fun x : Int × Bool => #[Value.int .i64 (cl bs ws x).1, Value.bool (cl bs ws x).2]) (KeepB (WkK Bn b g)) (fun ys => ys = seqL bs ws 0) (fun pre => pre <+: seqL bs ws 0) (seqL bs ws 0).length w :=
  fun l J Jx W hW hJ hJx hY h0 => walk1_in n hn l Bn hk _ J Jx hJ hJx (fun pre x W hx h1 h2 => by have := hY pre x W h1 h2; dsimp only at this; rw [cl_of hx] at this; exact this) W (bcellv hW hc) (h.below hW) h0
theorem Mods.own {S : Nat → Prop} {a W W' : World} {row : Option Nat} (h : Mods S a W) (hg : W.grownBy W' row) (hr : ∀ r, row = some r → a.heap.size ≤ r) : Mods S a W' :=
  ⟨hg.os.trans h.os, hg.tape.trans h.tape, hg.output.trans h.output, Nat.le_trans h.size hg.size, fun k hk hn => (hg.block k (Nat.lt_of_lt_of_le hk h.size) (fun e => by have := hr k e.symm; omega)).trans (h.block k hk hn)⟩
theorem Mods.putObj {S : Nat → Prop} {a W : World} (h : Mods S a W) (D : Nat) (o : Obj) (hD : a.heap.size ≤ D) : Mods S a (W.putObj D o) := h.own (grownBy_putObj' W D o) (fun r e => by cases e; exact hD)

/-- Does Truncate find its place? -/
def hitT (bs : Int) (n : Nat) (top : Int) (x : Int × Bool) : Prop := x.1 = top ∧ (x.2 = true ∨ top = bs + n)
def okT (bs : Int) (ws : List Int) (top : Int) : Prop := ∃ x ∈ seqL bs ws 0, hitT bs ws.length top x
theorem RowAt.take {w : World} {a : Option Addr} {cap : Nat} {ws : List Int} {g : Option Nat} (h : RowAt w a cap ws g) (t : Nat) : RowAt w a cap (ws.take t) g := by
  obtain ⟨h1, h2, h3⟩ := h
  refine ⟨by simp; omega, h2, ?_⟩
  rcases h3 with h3 | ⟨G, cur, rfl, ha, hh, hs, ht⟩
  · exact .inl h3
  · refine .inr ⟨G, cur, rfl, ha, hh, hs, ?_⟩
    rw [List.map_take, ← ht, List.take_take]
    simp
theorem trunc_fin {W : World} {b : Nat} {bs lm : Int} {ws : List Int} {g : Option Nat} {a : Option Addr} {cap t : Nat} (e1 : W.heap[b]? = some (.cells #[.int .i64 bs, .int .i64 lm, .slice a ws.length cap] 71 (0, 0))) (hr : RowAt W a cap ws g) (hg : g ≠ some b) (ht : t ≤ ws.length) :
    SpAt (W.setCell ⟨b, 2, none⟩ (.slice a t cap)) b bs lm (ws.take t) g := by
  refine ⟨a, cap, ?_, (hr.take t).keep (fun G o e ho => ?_), hg⟩
  · rw [List.length_take, Nat.min_eq_left ht]
    exact heap_setCell_same W b 2 _ _ _ e1
  · exact (heap_setCell_other _ _ _ _ (fun h => hg (by rw [e, h]))).trans ho

theorem trunc_post {w W0 : World} {b : Nat} {bs lm : Int} {ws : List Int} {g : Option Nat} {sa : Option Addr} {cap t : Nat} (hB : Below w.heap.size w W0) (hbl : b < w.heap.size) (hgl : ∀ G, g = some G → G < w.heap.size)
    (se : W0.heap[b]? = some (.cells #[.int .i64 bs, .int .i64 lm, .slice sa ws.length cap] 71 (0, 0))) (sr : RowAt W0 sa cap ws g) (sg : g ≠ some b) (ht : t ≤ ws.length) (nq : Nat) (d2 : W0.cell? ⟨w.heap.size + 2, 0, none⟩ = some (.int .i64 0)) :
    KeepsOthers W0 (((W0.drewN nq).setCell ⟨b, 2, none⟩ (.slice sa t cap)).setCell ⟨w.heap.size + 2, 0, none⟩ (.int .i64 0)) ∧
    (((W0.drewN nq).setCell ⟨b, 2, none⟩ (.slice sa t cap)).setCell ⟨w.heap.size + 2, 0, none⟩ (.int .i64 0)).cell? ⟨w.heap.size + 2, 0, none⟩ = some (.int .i64 0) ∧
    SpAt (((W0.drewN nq).setCell ⟨b, 2, none⟩ (.slice sa t cap)).setCell ⟨w.heap.size + 2, 0, none⟩ (.int .i64 0)) b bs lm (ws.take t) g ∧
    Mods (fun k => k = b) w (((W0.drewN nq).setCell ⟨b, 2, none⟩ (.slice sa t cap)).setCell ⟨w.heap.size + 2, 0, none⟩ (.int .i64 0)) := by
  have h1 := trunc_fin (W := W0.drewN nq) se (sr.keep (fun _ _ _ h => h)) sg ht
  have e : (W0.drewN nq).cell? ⟨w.heap.size + 2, 0, none⟩ = some (.int .i64 0) := d2
  refine ⟨?_, ?_, ?_, ?_⟩
  · refine KeepsOthers.trans (B := W0.drewN nq) ⟨Nat.le_refl _, fun _ _ h _ => h⟩ ((KeepsOthers.setCell _ _ _).trans (KeepsOthers.setCell _ _ _))
  · refine World.cell?_setCell_same' _ _ _ ?_
    rw [World.cell?_of_block (w := W0.drewN nq) (a := ⟨w.heap.size + 2, 0, none⟩) (heap_setCell_other (W0.drewN nq) ⟨b, 2, none⟩ (w.heap.size + 2) _ (by show w.heap.size + 2 ≠ b; omega)), e]
    rfl
  · exact h1.keep (fun o ho => (heap_setCell_other _ _ _ _ (by show b ≠ w.heap.size + 2; omega)).trans ho) (fun G o hG ho => (heap_setCell_other _ _ _ _ (by have := hgl G hG; show G ≠ w.heap.size + 2; omega)).trans ho)
  · exact (((Mods.of_below (S := fun k => k = b) hB).drewN nq).setCell (p := ⟨b, 2, none⟩) (.inl rfl) _).setCell (p := ⟨w.heap.size + 2, 0, none⟩) (.inr (by show w.heap.size ≤ w.heap.size + 2; omega)) _

set_option maxRecDepth 100000 in
set_option maxHeartbeats 2000000 in
theorem trunc_any {w : World} {b : Nat} {bs lm : Int} {ws : List Int} {g : Option Nat} (h : SpAt w b bs lm ws g) (hk : SpOk bs lm ws) (top : Int) :
    Calls Try.prog 29 #[.pointer (some ⟨b, 0, none⟩), .int .i64 top] w fun e w' =>
      (okT bs ws top ∧ e = .returned (.int .i64 0) ∧ SpAt w' b bs lm (ws.take (top - bs).toNat) g ∧ Mods (fun k => k = b) w w') ∨ (¬ okT bs ws top ∧ e = .returned (.int .i64 2) ∧ Below w.heap.size w w') := by
  refine (callsIn_wide (n := 9)).1 ?_
  refine callsIn_of_wp_marks Try.func29 rfl trivial ?_ rfl
  simp only [Try.ntmps29, List.size_toArray, List.length_cons, List.length_nil, Nat.reduceAdd, Nat.reduceSub, Array.replicate_succ, Array.replicate_zero, List.push_toArray, List.append_toArray, List.nil_append, List.cons_append]
  gi_wp2_with fail
  refine ⟨trivial, (callsIn_wide.2 (walk_any b _)).mono ?_⟩
  rintro e w4 ⟨rfl, hw4⟩
  have hB0 : Below w.heap.size w w4 := by rw [hw4]; exact balloc (balloc (balloc (balloc (Below.refl _ _) _) _) _) _
  have hz : w4.heap.size = w.heap.size + 4 := by rw [hw4]; simp
  have hs4 := h.below hB0
  have c0 : w4.cell? ⟨w.heap.size, 0, none⟩ = some (.pointer (some ⟨b, 0, none⟩)) := by rw [hw4]; simp [go_sem]
  have c1 : w4.cell? ⟨w.heap.size + 1, 0, none⟩ = some (.int .i64 top) := by rw [hw4]; simp [go_sem]
  have c2 : w4.cell? ⟨w.heap.size + 2, 0, none⟩ = some (.int .i64 0) := by rw [hw4]; simp [go_sem]
  have f2 : w4.frozen? ⟨w.heap.size + 2, 0, none⟩ = false := by rw [hw4]; simp [go_sem]
  have c3 : w4.cell? ⟨w.heap.size + 3, 0, none⟩ = some (.pointer (some ⟨b, 0, none⟩)) := by rw [hw4]; simp [go_sem]
  have hbl := h.lt
  have hgl := h.glt
  have hK : ∀ k, WkK (w.heap.size + 3) b g k → k < w4.heap.size := by
    rintro k (rfl | rfl | e)
    · omega
    · omega
    · have := hgl k e; omega
  simp only [World.size_alloc, Nat.add_assoc, Nat.reduceAdd]
  clear hw4
  gi_wp2_with fail
  refine wpIn_rangeFunc_ownF rfl (by omega) (gf := 47) (lb := #[.pointer (some ⟨w.heap.size + 3, 0, none⟩)]) rfl trivial (enters_of Try.func47 (by kernel_rfl) rfl)
    (walk_stopsC _ (by omega) c3 hs4 hk) KeepB.t (KeepB.b hK) (Below.refl _ _) (fun _ => rfl)
    (fun pre W => ((∀ x ∈ pre, ¬ hitT bs ws.length top (cl bs ws x)) ∧ W.cell? ⟨w.heap.size, 0, none⟩ = some (.pointer (some ⟨b, 0, none⟩)) ∧ W.cell? ⟨w.heap.size + 1, 0, none⟩ = some (.int .i64 top) ∧ W.cell? ⟨w.heap.size + 2, 0, none⟩ = some (.int .i64 0) ∧ W.frozen? ⟨w.heap.size + 2, 0, none⟩ = false ∧ SpAt W b bs lm ws g ∧ w4.heap.size ≤ W.heap.size) ∧ Below w.heap.size w W)
    (fun c pre W => (c = .ret ∧ okT bs ws top ∧ W.cell? ⟨w.heap.size + 2, 0, none⟩ = some (.int .i64 0) ∧ SpAt W b bs lm (ws.take (top - bs).toNat) g) ∧ Mods (fun k => k = b) w W)
    (OwnFrom.and (Own.from (fun s A B row hs hg hr => ⟨hs.1, cell_kept hs.2.1 hg hr, cell_kept hs.2.2.1 hg hr, cell_kept hs.2.2.2.1 hg hr, (frozen_kept hs.2.2.2.1 hg hr).trans hs.2.2.2.2.1, sp_own hs.2.2.2.2.2.1 hg hr, Nat.le_trans hs.2.2.2.2.2.2 hg.size⟩) _) (ownFrom_below (Nat.le_refl _) (by omega)))
    (fun c => OwnFrom.and (Own.from (fun s A B row hs hg hr => ⟨hs.1, hs.2.1, cell_kept hs.2.2.1 hg hr, sp_own hs.2.2.2 hg hr⟩) _) (fun s A B row hs hg hr => hs.own hg (fun r e => by have := (hr r e).1; omega)))
    ⟨⟨by simp, c0, c1, c2, f2, hs4, Nat.le_refl _⟩, hB0⟩
    (fun x => { tmps := #[.pointer (some ⟨b, 0, none⟩), .int .i64 top, .pointer (some ⟨w.heap.size, 0, none⟩), .pointer (some ⟨w.heap.size + 1, 0, none⟩), .pointer (some ⟨w.heap.size + 2, 0, none⟩), .int .i64 (cl bs ws x).1, .bool (cl bs ws x).2, .pointer (some ⟨b, 0, none⟩), .func (.func 47) #[] #[.pointer (some ⟨w.heap.size + 3, 0, none⟩)], .int .i64 (cl bs ws x).1, .bool (cl bs ws x).2, undef, undef, undef, undef, undef, undef, undef, undef, undef, undef, undef, undef, undef, undef, undef, undef, undef, undef, undef, undef, undef, undef, undef, undef, undef, undef], defers := [] }) ?assign ?body ?done ?stop
  case assign =>
    intro l x W K hK
    gi_wp2
    exact hK
  case body =>
    rintro l pre x0 W ⟨⟨hp, d0, d1, d2, fr, hsp, hz4⟩, hB⟩ _
    have hx := cl_mem (bs := bs) (ws := ws) x0
    have hbd := seqL_bd hx
    have hp2 : ¬ hitT bs ws.length top (cl bs ws x0) → ∀ x ∈ pre ++ [x0], ¬ hitT bs ws.length top (cl bs ws x) := fun hn x hx' => (List.mem_append.1 hx').elim (hp x) (fun h' => by simp at h'; rw [h']; exact hn)
    clear hp
    generalize cl bs ws x0 = x at *
    obtain ⟨a, ob⟩ := x
    by_cases ha : a = top
    · subst ha
      cases ob
      · gi_wp2_with fail
        refine ⟨trivial, CallsIn.inRound l ((callsIn_wide.2 (top_any hsp hk)).mono ?_)⟩
        rintro e W2 ⟨rfl, hb2⟩
        have e0 := bcellv hb2 d0
        have e1 := bcellv hb2 d1
        have e2 := bcellv hb2 d2
        have fr2 : W2.frozen? ⟨w.heap.size + 2, 0, none⟩ = false := (World.frozen?_of_block (hb2.block _ (World.block_lt_of_cell? W _ d2))).trans fr
        have hB2 := bchain hb2 hB
        have ot := others_below hb2
        have sp2 := hsp.below hb2
        have kb := KeepB.of_below (K := WkK (w.heap.size + 3) b g) hb2 (fun k hk => by have := hK k hk; omega)
        by_cases hx2 : a = bs + ws.length
        · have hok : okT bs ws a := ⟨_, hx, rfl, .inr hx2⟩
          subst hx2
          have b0 := hk.b0
          have b1 := hk.top
          have b2 := hk.lm1
          obtain ⟨sa, cap, se, sr, sg⟩ := sp2
          have cb0 : W2.cell? ⟨b, 0, none⟩ = some (.int .i64 bs) := by rw [cell_of_block se]; rfl
          have cb2 : W2.cell? ⟨b, 2, none⟩ = some (.slice sa ws.length cap) := by rw [cell_of_block se]; rfl
          have fb2 : W2.frozen? ⟨b, 2, none⟩ = false := frozen_of_block se 2
          have cap1 := sr.1
          have cap2 := sr.2.1
          have s1 : IntKind.i64.wrap (bs + ws.length - bs) = bs + ws.length - bs := IntWalk.i64_in _ (by omega)
          have s2 : (0 : Int) ≤ bs + ws.length - bs := by omega
          have s3 : bs + ws.length - bs ≤ (cap : Int) := by omega
          have hmx : Try.prog.follows .mixedOrders = true := by kernel_rfl
          gi_wp2_with fail
          refine wpIn_region_last (by kernel_rfl) (by kernel_rfl) (by kernel_rfl) ?_
          dsimp only [setLast, lastOf, noop]
          repeat (gi_big_quiet_step (fail))
          refine wpQuietIn_nil ?_
          rintro _ ⟨nq, rfl⟩
          gi_wp2
          obtain ⟨p1, p2, p3, p4⟩ := trunc_post hB2 hbl hgl se sr sg (t := (bs + ws.length - bs).toNat) (by omega) nq e2
          exact ⟨ot.trans p1, ⟨rfl, hok, p2, p3⟩, p4⟩
        · have hnk : ¬ hitT bs ws.length a (a, false) := by rintro ⟨_, h⟩; simp at h; exact hx2 h
          have hab : (a == bs + ws.length) = false := by simp [hx2]
          gi_wp2
          exact ⟨ot, kb, ⟨hp2 hnk, e0, e1, e2, fr2, sp2, Nat.le_trans hz4 hb2.size⟩, hB2⟩
      · have hok : okT bs ws a := ⟨_, hx, rfl, .inl rfl⟩
        gi_wp2_with fail
        refine ⟨trivial, ?_⟩
        have b0 := hk.b0
        have b1 := hk.top
        have b2 := hk.lm1
        obtain ⟨sa, cap, se, sr, sg⟩ := hsp
        have cb0 : W.cell? ⟨b, 0, none⟩ = some (.int .i64 bs) := by rw [cell_of_block se]; rfl
        have cb2 : W.cell? ⟨b, 2, none⟩ = some (.slice sa ws.length cap) := by rw [cell_of_block se]; rfl
        have fb2 : W.frozen? ⟨b, 2, none⟩ = false := frozen_of_block se 2
        have cap1 := sr.1
        have cap2 := sr.2.1
        have s1 : IntKind.i64.wrap (a - bs) = a - bs := IntWalk.i64_in _ (by omega)
        have s2 : (0 : Int) ≤ a - bs := by omega
        have s3 : a - bs ≤ (cap : Int) := by omega
        have hmx : Try.prog.follows .mixedOrders = true := by kernel_rfl
        gi_wp2_with fail
        refine wpIn_region_last (by kernel_rfl) (by kernel_rfl) (by kernel_rfl) ?_
        dsimp only [setLast, lastOf, noop]
        repeat (gi_big_quiet_step (fail))
        refine wpQuietIn_nil ?_
        rintro _ ⟨nq, rfl⟩
        gi_wp2
        obtain ⟨p1, p2, p3, p4⟩ := trunc_post hB hbl hgl se sr sg (t := (a - bs).toNat) (by omega) nq d2
        exact ⟨p1, ⟨rfl, hok, p2, p3⟩, p4⟩
    · have hab : (a == top) = false := by simp [ha]
      have hud : ∀ b : Bool, some undef = some (Value.bool b) → False := fun b h => by simp [undef] at h
      have hnk : ¬ hitT bs ws.length top (a, ob) := fun h => ha h.1
      gi_wp2_with fail
      refine ⟨trivial, ?_⟩
      gi_wp2
      exact ⟨KeepsOthers.refl _, fun _ _ => rfl, ⟨hp2 hnk, d0, d1, d2, fr, hsp, hz4⟩, hB⟩
  case done =>
    rintro D ys W hD rfl ⟨⟨hp, d0, d1, d2, fr, hsp, _⟩, hB⟩ hK'
    have hst : ¬ okT bs ws top := by
      rintro ⟨x, hx, hh⟩
      have := hp x hx
      rw [cl_of hx] at this
      exact this hh
    gi_wp2
    have hK2 := (KeepsOthers.setCell W ⟨w.heap.size + 2, 0, none⟩ (.int .i64 2)).same D _ hK' rfl
    refine ⟨by simp, .inl ⟨_, _, rfl, run_takeDeferred hK2, ?_⟩⟩
    have hc5 := cell_kept (World.cell?_setCell_same' W ⟨w.heap.size + 2, 0, none⟩ (.int .i64 2) (by rw [d2]; rfl)) (grownBy_putObj' _ D (.deferred none)) (fun r e => by cases e; exact ⟨_, hK2, rfl⟩)
    refine ⟨.int .i64 2, ?_, .inr ⟨hst, rfl, (hB.setCell (p := ⟨w.heap.size + 2, 0, none⟩) (by simp) _).trans (belowK_b (w := w) (Nat.le_refl _) _ D _ _ (by omega) hK2 rfl rfl)⟩⟩
    simp [results, Try.f29, go_sem, hc5]
  case stop =>
    rintro D c pre W hD hpre ⟨⟨rfl, hst, hcr, hsp⟩, hB⟩ hK'
    gi_wp2
    refine ⟨by simp, .inl ⟨_, _, rfl, run_takeDeferred hK', ?_⟩⟩
    have hc5 := cell_kept hcr (grownBy_putObj' _ D (.deferred none)) (fun r e => by cases e; exact ⟨_, hK', rfl⟩)
    refine ⟨.int .i64 0, ?_, .inl ⟨hst, rfl, sp_own hsp (grownBy_putObj' _ D (.deferred none)) (fun r e => by cases e; exact ⟨_, hK', rfl⟩), hB.putObj D _ (by omega)⟩⟩
    simp [results, Try.f29, go_sem, hc5]
end Go.Proofs.Ytafailcjdkmdhaa
