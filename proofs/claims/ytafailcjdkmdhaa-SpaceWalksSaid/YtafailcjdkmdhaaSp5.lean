/-
  The contract of (*Space).Alloc where the object fits.
-/
import Derived.Test.YtafailcjdkmdhaaSp4
import Derived.BigRegion
import Derived.Deep.DeepCutAuto
namespace Go.Proofs.Ytafailcjdkmdhaa
open Go.RowKit
set_option linter.unusedSimpArgs false
set_option linter.unusedVariables false

def newObj (k c f m s : Int) : List Int := encI k c f :: idI m s :: List.replicate ((wordsI f).toNat - 2) 0
def MidOk (w : World) (b : Nat) (bs lm : Int) (ws : List Int) (g : Option Nat) (y : Nat) (W : World) : Prop :=
  ∃ (G C : Nat) (cur : Array Value), W.heap[b]? = some (.cells #[.int .i64 bs, .int .i64 lm, .slice (some ⟨G, 0, none⟩) (ws.length + y) C] 71 (0, 0)) ∧ W.heap[G]? = some (.cells cur 32 (0, 0)) ∧ cur.size = C ∧ ws.length + y ≤ C ∧ C ≤ 9223372036854775807 ∧
    cur.toList.take ws.length = ws.map (Value.int .u64) ∧ G ≠ b ∧ Mods (SpS b g) w W ∧ (g = some G ∨ w.heap.size ≤ G)
def AllocOk (w : World) (b : Nat) (bs lm : Int) (ws : List Int) (g : Option Nat) (k c f m s : Int) (e : Ending) (w' : World) : Prop :=
  e = .returned (.tuple #[.int .i64 (bs + ws.length), .int .i64 0]) ∧ ∃ g', SpAt w' b bs lm (ws ++ newObj k c f m s) g' ∧ Mods (SpS b g) w w' ∧ ∀ G, g' = some G → g = some G ∨ w.heap.size ≤ G

theorem mid_room {w w3 : World} {b : Nat} {bs lm : Int} {ws : List Int} {G cap y : Nat} {cur : Array Value} (hb : Below w.heap.size w w3) (hG : G < w.heap.size) (hbl : b < w.heap.size) (hne : G ≠ b)
    (e3 : w3.heap[b]? = some (.cells #[.int .i64 bs, .int .i64 lm, .slice (some ⟨G, 0, none⟩) ws.length cap] 71 (0, 0))) (rh3 : w3.heap[G]? = some (.cells cur 32 (0, 0))) (rs : cur.size = cap) (hcp : ws.length + y ≤ cap) (r2 : cap ≤ 9223372036854775807) (rt : cur.toList.take ws.length = ws.map (Value.int .u64)) (n : Nat) :
    MidOk w b bs lm ws (some G) y ((w3.drewN n).setCell ⟨b, 2, none⟩ (.slice (some ⟨G, 0, none⟩) (ws.length + y) cap)) := by
  refine ⟨G, cap, cur, ?_, ?_, rs, hcp, r2, rt, hne, ?_, .inl rfl⟩
  · exact heap_setCell_same (w3.drewN n) b 2 _ _ _ e3
  · exact (heap_setCell_other _ _ _ _ hne).trans rh3
  · exact ((Mods.of_below hb).drewN n).setCell (.inl (.inl rfl)) _
theorem alloc_get (W : World) (o : Obj) : (W.alloc o).heap[W.heap.size]? = some o := by
  show (W.heap.push o)[W.heap.size]? = some o
  simp
theorem mid_grow {w w3 : World} {b : Nat} {bs lm : Int} {ws : List Int} {g : Option Nat} {a : Option Addr} {C cap y : Nat} {cs : List Value} {zs : Array Value} (hb : Below w.heap.size w w3) (hbl : b < w.heap.size)
    (e3 : w3.heap[b]? = some (.cells #[.int .i64 bs, .int .i64 lm, .slice a ws.length cap] 71 (0, 0))) (hsz : (cs.toArray ++ zs).size = C) (hcp : ws.length + y ≤ C) (r2 : C ≤ 9223372036854775807) (hl : ws.length ≤ cs.length) (rt : cs.take ws.length = ws.map (Value.int .u64)) (n : Nat) :
    MidOk w b bs lm ws g y (((w3.setCell ⟨b, 2, none⟩ (.slice (some ⟨w3.heap.size, 0, none⟩) (ws.length + y) C)).alloc (.cells (cs.toArray ++ zs) 32)).drewN n) := by
  have hbl3 : b < w3.heap.size := (Array.getElem?_eq_some_iff.1 e3).1
  have hne : w3.heap.size ≠ b := by omega
  refine ⟨w3.heap.size, C, cs.toArray ++ zs, ?_, ?_, hsz, hcp, r2, ?_, hne, ?_, .inr hb.size⟩
  · refine (Below.heap_alloc _ _ _ (by simpa using hbl3)).trans ?_
    exact heap_setCell_same _ b 2 #[.int .i64 bs, .int .i64 lm, .slice a ws.length cap] _ _ e3
  · have hz : (w3.setCell ⟨b, 2, none⟩ (.slice (some ⟨w3.heap.size, 0, none⟩) (ws.length + y) C)).heap.size = w3.heap.size := by simp
    have ha := alloc_get (w3.setCell ⟨b, 2, none⟩ (.slice (some ⟨w3.heap.size, 0, none⟩) (ws.length + y) C)) (.cells (cs.toArray ++ zs) 32)
    rw [hz] at ha
    exact ha
  · rw [Array.toList_append, List.take_append_of_le_length (by simpa using hl)]
    exact rt
  · exact (((Mods.of_below hb).setCell (.inl (.inl rfl)) _).alloc _).drewN n
theorem take_new {cur : Array Value} {ws : List Int} {x z : Int} {y : Nat} (hy : 2 ≤ y) (h : ws.length + y ≤ cur.size) (ht : cur.toList.take ws.length = ws.map (Value.int .u64)) :
    (((wrow cur ws.length (List.replicate y (.int .u64 0))).setIfInBounds ws.length (.int .u64 x)).setIfInBounds (ws.length + 1) (.int .u64 z)).toList.take (ws ++ x :: z :: List.replicate (y - 2) 0).length = (ws ++ x :: z :: List.replicate (y - 2) 0).map (Value.int .u64) := by
  obtain ⟨t, rfl⟩ : ∃ t, y = t + 2 := ⟨y - 2, by omega⟩
  have hl : (cur.toList.take ws.length).length = ws.length := by simp; omega
  rw [Array.toList_setIfInBounds, Array.toList_setIfInBounds, wrow_list _ _ _ (by simpa using h)]
  rw [List.append_assoc, List.set_append_right _ _ (by omega), hl, Nat.sub_self]
  rw [List.set_append_right _ _ (by omega), hl, Nat.add_sub_cancel_left]
  simp only [List.replicate_succ, List.cons_append, List.set_cons_zero, List.set_cons_succ]
  rw [ht]
  generalize List.drop _ cur.toList = D
  have e : ws.map (Value.int .u64) ++ Value.int .u64 x :: Value.int .u64 z :: (List.replicate t (Value.int .u64 0) ++ D) = (ws ++ x :: z :: List.replicate (t + 2 - 2) 0).map (Value.int .u64) ++ D := by simp
  rw [e, List.take_append_of_le_length (by simp), List.take_of_length_le (by simp)]
theorem alloc_fin {w wc : World} {b : Nat} {bs lm : Int} {ws : List Int} {g : Option Nat} {y G C : Nat} {cur : Array Value} {k c f m s x z : Int}
    (m1 : wc.heap[b]? = some (.cells #[.int .i64 bs, .int .i64 lm, .slice (some ⟨G, 0, none⟩) (ws.length + y) C] 71 (0, 0))) (m2 : wc.heap[G]? = some (.cells cur 32 (0, 0))) (m3 : cur.size = C) (m4 : ws.length + y ≤ C) (m5 : C ≤ 9223372036854775807)
    (m6 : cur.toList.take ws.length = ws.map (Value.int .u64)) (m7 : G ≠ b) (m8 : Mods (SpS b g) w wc) (m9 : g = some G ∨ w.heap.size ≤ G) (hy2 : 2 ≤ y) (hy : wordsI f = (y : Int)) (hx : encI k c f = x) (hz : idI m s = z) (n : Nat) :
    AllocOk w b bs lm ws g k c f m s (.returned (.tuple #[.int .i64 (bs + ws.length), .int .i64 0])) ((((wc.drewN n).setCells G ws.length (List.replicate y (.int .u64 0))).setCell ⟨G, ws.length, none⟩ (.int .u64 x)).setCell ⟨G, ws.length + 1, none⟩ (.int .u64 z)) := by
  have hG : SpS b g G ∨ w.heap.size ≤ G := by
    rcases m9 with h | h
    · exact .inl (.inr h)
    · exact .inr h
  have e : newObj k c f m s = x :: z :: List.replicate (y - 2) 0 := by unfold newObj; rw [hx, hz, hy]; simp
  refine ⟨rfl, some G, ?_, ?_, ?_⟩
  · rw [e]
    refine ⟨some ⟨G, 0, none⟩, C, ?_, ⟨by simp; omega, m5, .inr ⟨G, _, rfl, rfl, heap_setCell_same _ G _ _ _ _ (heap_setCell_same _ G _ _ _ _ (setCells_heap G _ _ _ _ _ (show (wc.drewN n).heap[G]? = _ from m2))), ?_, ?_⟩⟩, fun h => m7 (by cases h; rfl)⟩
    · rw [heap_setCell_other _ _ _ _ (Ne.symm m7), heap_setCell_other _ _ _ _ (Ne.symm m7), setCells_other G _ (Ne.symm m7)]
      have : (ws ++ x :: z :: List.replicate (y - 2) 0).length = ws.length + y := by simp; omega
      rw [this]
      exact m1
    · simp [wrow_size, m3]
    · exact take_new hy2 (by rw [m3]; exact m4) m6
  · exact ((setCells_mods G hG _ _ _ (m8.drewN n)).setCell hG _).setCell hG _
  · rintro G' h
    cases h
    exact m9
set_option maxRecDepth 100000 in
set_option maxHeartbeats 2000000 in
theorem alloc_room {w : World} {b : Nat} {bs lm : Int} {ws : List Int} {g : Option Nat} (hs : SpAt w b bs lm ws g) (hk : SpOk bs lm ws) (k c f m s : Int) (h : hvB k c f = true) (hi : idB m s = true) (hf : bs + ws.length + wordsI f ≤ lm) (hcap : ∀ a cap, w.heap[b]? = some (.cells #[.int .i64 bs, .int .i64 lm, .slice a ws.length cap] 71 (0, 0)) → ws.length + (wordsI f).toNat ≤ cap) :
    Calls Try.prog 15 #[.pointer (some ⟨b, 0, none⟩), .agg #[.int .i64 k, .int .i64 c, .int .i64 f], .agg #[.int .i64 m, .int .i64 s]] w (AllocOk w b bs lm ws g k c f m s) := by
  have h1 := fun W => encode_yes k c f h W
  have h2 := fun W => encodeID_yes m s hi W
  have h3 := fun W => words_yes k c f h W
  have h4 := fun (W : World) (H : SpAt W b bs lm ws g) => top_any H hk
  obtain ⟨y0, y1, y2⟩ := wordsI_bd h
  obtain ⟨b0, b1, b2, _⟩ := hk
  obtain ⟨y, hy⟩ : ∃ y : Nat, wordsI f = (y : Int) := ⟨(wordsI f).toNat, by omega⟩
  rw [hy] at h3 y0 y1 y2 hf
  have HY := Lib.hid hy
  generalize hx : encI k c f = x at *
  have HX := Lib.hid hx
  generalize hz : idI m s = z at *
  have HZ := Lib.hid hz
  clear h hi hy hx hz
  have hs0 := (hs.below (balloc (balloc (Below.refl _ _) (.cells #[.int .i64 k, .int .i64 c, .int .i64 f] 29)) (.cells #[.int .i64 m, .int .i64 s] 31)))
  go_enter Try.func15, Try.ntmps15
  go_wp2_with fail
  refine (h1 _).mono ?_
  rintro e w1 ⟨rfl, hb1⟩
  have p0 : w1.cell? ⟨w.heap.size, 0, none⟩ = some (.int .i64 k) := bcellv hb1 (by simp [go_sem])
  have p1 : w1.cell? ⟨w.heap.size, 1, none⟩ = some (.int .i64 c) := bcellv hb1 (by simp [go_sem])
  have p2 : w1.cell? ⟨w.heap.size, 2, none⟩ = some (.int .i64 f) := bcellv hb1 (by simp [go_sem])
  have q0 : w1.cell? ⟨w.heap.size + 1, 0, none⟩ = some (.int .i64 m) := bcellv hb1 (by simp [go_sem])
  have q1 : w1.cell? ⟨w.heap.size + 1, 1, none⟩ = some (.int .i64 s) := bcellv hb1 (by simp [go_sem])
  have hs1 := hs0.below hb1
  go_wp2_with fail
  refine (h2 _).mono ?_
  rintro e w2 ⟨rfl, hb2⟩
  have p0 := bcellv hb2 p0
  have p1 := bcellv hb2 p1
  have p2 := bcellv hb2 p2
  have hs2 := hs1.below hb2
  clear hs0 hs1 q0 q1
  go_wp2_with fail
  have o0 : ∀ x, (over w2 x).cell? ⟨w.heap.size, 0, none⟩ = some (.int .i64 k) := over_cell p0
  have o1 : ∀ x, (over w2 x).cell? ⟨w.heap.size, 1, none⟩ = some (.int .i64 c) := over_cell p1
  have o2 : ∀ x, (over w2 x).cell? ⟨w.heap.size, 2, none⟩ = some (.int .i64 f) := over_cell p2
  (refine wp_region_over (by kernel_rfl) (by kernel_rfl) ?_); (repeat (go_big_quiet_step ((first | (go_at_call 14; exact calls_over (h4 _ (over_sp hs2 _))) | (go_at_call 34; exact calls_over (h3 _)))))); (refine wpQuiet_nil ?_)
  intro w3 hb3
  clear o0 o1 o2 p0 p1 p2
  have hs3 := hs2.below hb3
  have hb : Below w.heap.size w w3 := by (repeat (first | exact Below.refl _ _ | assumption | refine Below.drew ?_ | refine below_drewN ?_ _ | refine balloc ?_ _ | refine Below.setCell ?_ (by first | (simp; done) | (simp; omega) | omega) _ | refine bchain (by assumption) ?_))
  clear hb1 hb2 hb3 hs2 h1 h2 h3 h4
  have hs' := hs
  obtain ⟨a, cap, e1, ⟨r1, r2, r3⟩, e5⟩ := hs'
  have hcp := hcap a cap e1
  rw [HY.out] at hcp
  simp only [Int.toNat_natCast] at hcp
  clear hcap
  have e3 := bblock hb e1
  have c0 : w3.cell? ⟨b, 0, none⟩ = some (.int .i64 bs) := by rw [cell_of_block e3]; rfl
  have c1 : w3.cell? ⟨b, 1, none⟩ = some (.int .i64 lm) := by rw [cell_of_block e3]; rfl
  have c2 : w3.cell? ⟨b, 2, none⟩ = some (.slice a ws.length cap) := by rw [cell_of_block e3]; rfl
  have f2 : w3.frozen? ⟨b, 2, none⟩ = false := frozen_of_block e3 2
  have l0 : (0 : Int) ≤ (ws.length : Int) := by omega
  go_upto_region 10 with (fail)
  go_cut [11] (fun t11 W => t11 = .int .i64 (bs + ws.length) ∧ MidOk w b bs lm ws g y W)
  case first =>
    have s1 : IntKind.i64.wrap ((ws.length : Int) + (y : Int)) = (ws.length : Int) + (y : Int) := IntWalk.i64_in _ (by omega)
    have s2 : ((ws.length : Int) + (y : Int)).toNat = ws.length + y := by omega
    have s3 : (0 : Int) ≤ (ws.length : Int) + (y : Int) := by omega
    rcases r3 with ⟨_, r3⟩ | ⟨G, cur, rfl, rfl, rh, rs, rt⟩
    · exfalso; omega
    have cp0 : 0 < cap := by omega
    have s4 : (ws.length : Int) + (y : Int) ≤ (cap : Int) := by omega
    have rh3 := bblock hb rh
    go_region_with (go_at_call 35; refine (grow_room _ ws.length cap y _ (by omega) (by omega) (by omega)).mono ?_; rintro e wg ⟨rfl, rfl⟩)
    all_goals
      go_wp2_with fail
      go_meet
      exact ⟨rfl, mid_room hb (by have := hs.glt G rfl; exact this) hs.lt (fun h => e5 (by rw [h])) e3 rh3 rs hcp r2 rt 1⟩
  case rest =>
    obtain ⟨rfl, G', C, cur', m1, m2, m3, m4, m5, m6, m7, m8, m9⟩ := hcut
    have HFin := Lib.hid (fun n => alloc_fin (k := k) (c := c) (f := f) (m := m) (s := s) (x := x) (z := z) m1 m2 m3 m4 m5 m6 m7 m8 m9 (by omega) HY.out HX.out HZ.out n)
    have k0 : wc.cell? ⟨b, 0, none⟩ = some (.int .i64 bs) := by rw [cell_of_block m1]; rfl
    have k2 : wc.cell? ⟨b, 2, none⟩ = some (.slice (some ⟨G', 0, none⟩) (ws.length + y) C) := by rw [cell_of_block m1]; rfl
    have hcl : ∀ (n : Nat) (ty : TypeId), (Builtin.clear_ #[41] ty #[.slice (some ⟨G', ws.length, none⟩) y (C - ws.length)]).run Try.prog (wc.drewN n) = .ok (.tuple #[]) ((wc.drewN n).setCells G' ws.length (List.replicate y (.int .u64 0))) := fun n ty =>
      Lib.run_clear_slice (wc.drewN n) 41 32 ty (.int .u64 0) Try.underlying41 (fun w => by kernel_rfl) rfl rfl G' ws.length y (C - ws.length) (by omega)
        (fun j hj => by rw [cell_of_block (show (wc.drewN n).heap[G']? = _ from m2)]; simp; omega) (fun j _ => frozen_of_block (show (wc.drewN n).heap[G']? = _ from m2) _)
    have t1 : ∀ n, ((wc.drewN n).setCells G' ws.length (List.replicate y (.int .u64 0))).heap[G']? = some (.cells (wrow cur' ws.length (List.replicate y (.int .u64 0))) 32 (0, 0)) := fun n => setCells_heap G' _ _ _ _ _ (show (wc.drewN n).heap[G']? = _ from m2)
    have v1 : ∀ n, (((wc.drewN n).setCells G' ws.length (List.replicate y (.int .u64 0))).cell? ⟨G', ws.length, none⟩).isSome = true := fun n => by rw [cell_of_block (t1 n)]; simp [wrow_size]; omega
    have v2 : ∀ n, (((wc.drewN n).setCells G' ws.length (List.replicate y (.int .u64 0))).cell? ⟨G', ws.length + 1, none⟩).isSome = true := fun n => by rw [cell_of_block (t1 n)]; simp [wrow_size]; omega
    have v3 : ∀ n i, ((wc.drewN n).setCells G' ws.length (List.replicate y (.int .u64 0))).frozen? ⟨G', i, none⟩ = false := fun n i => frozen_of_block (t1 n) i
    clear t1 m1 m2 m3 m6 m7 m8 m9 e1 e3 e5 c0 c1 c2 f2 r3 hs hs3 hb
    have s1 : IntKind.i64.wrap (bs + (ws.length : Int) - bs) = (ws.length : Int) := by rw [show bs + (ws.length : Int) - bs = (ws.length : Int) by omega]; exact IntWalk.i64_in _ (by omega)
    have s3 : ((ws.length : Int)).toNat = ws.length := by omega
    have s4 : (ws.length : Int) ≤ ((ws.length + y : Nat) : Int) := by omega
    have s5 : C ≠ ws.length := by omega
    have s6 : ws.length + y - ws.length = y := by omega
    have s7 : (0 : Int) < (y : Int) := by omega
    have s8 : (1 : Int) < (y : Int) := by omega
    go_wp2_with fail
    go_quiet (fail)
    clear s1 s3
    obtain ⟨v, hv⟩ := Option.isSome_iff_exists.1 (v1 nq)
    obtain ⟨u, hu⟩ := Option.isSome_iff_exists.1 (v2 nq)
    go_wp2
    go_ret2
    exact HFin.out nq
set_option maxRecDepth 100000 in
set_option maxHeartbeats 2000000 in
theorem alloc_grow {w : World} {b : Nat} {bs lm : Int} {ws : List Int} {g : Option Nat} (hs : SpAt w b bs lm ws g) (hk : SpOk bs lm ws) (k c f m s : Int) (h : hvB k c f = true) (hi : idB m s = true) (hf : bs + ws.length + wordsI f ≤ lm) (hcap : ∀ a cap, w.heap[b]? = some (.cells #[.int .i64 bs, .int .i64 lm, .slice a ws.length cap] 71 (0, 0)) → cap < ws.length + (wordsI f).toNat) :
    Calls Try.prog 15 #[.pointer (some ⟨b, 0, none⟩), .agg #[.int .i64 k, .int .i64 c, .int .i64 f], .agg #[.int .i64 m, .int .i64 s]] w (AllocOk w b bs lm ws g k c f m s) := by
  have h1 := fun W => encode_yes k c f h W
  have h2 := fun W => encodeID_yes m s hi W
  have h3 := fun W => words_yes k c f h W
  have h4 := fun (W : World) (H : SpAt W b bs lm ws g) => top_any H hk
  obtain ⟨y0, y1, y2⟩ := wordsI_bd h
  obtain ⟨b0, b1, b2, _⟩ := hk
  obtain ⟨y, hy⟩ : ∃ y : Nat, wordsI f = (y : Int) := ⟨(wordsI f).toNat, by omega⟩
  rw [hy] at h3 y0 y1 y2 hf
  have HY := Lib.hid hy
  generalize hx : encI k c f = x at *
  have HX := Lib.hid hx
  generalize hz : idI m s = z at *
  have HZ := Lib.hid hz
  clear h hi hy hx hz
  have hs0 := (hs.below (balloc (balloc (Below.refl _ _) (.cells #[.int .i64 k, .int .i64 c, .int .i64 f] 29)) (.cells #[.int .i64 m, .int .i64 s] 31)))
  go_enter Try.func15, Try.ntmps15
  go_wp2_with fail
  refine (h1 _).mono ?_
  rintro e w1 ⟨rfl, hb1⟩
  have p0 : w1.cell? ⟨w.heap.size, 0, none⟩ = some (.int .i64 k) := bcellv hb1 (by simp [go_sem])
  have p1 : w1.cell? ⟨w.heap.size, 1, none⟩ = some (.int .i64 c) := bcellv hb1 (by simp [go_sem])
  have p2 : w1.cell? ⟨w.heap.size, 2, none⟩ = some (.int .i64 f) := bcellv hb1 (by simp [go_sem])
  have q0 : w1.cell? ⟨w.heap.size + 1, 0, none⟩ = some (.int .i64 m) := bcellv hb1 (by simp [go_sem])
  have q1 : w1.cell? ⟨w.heap.size + 1, 1, none⟩ = some (.int .i64 s) := bcellv hb1 (by simp [go_sem])
  have hs1 := hs0.below hb1
  go_wp2_with fail
  refine (h2 _).mono ?_
  rintro e w2 ⟨rfl, hb2⟩
  have p0 := bcellv hb2 p0
  have p1 := bcellv hb2 p1
  have p2 := bcellv hb2 p2
  have hs2 := hs1.below hb2
  clear hs0 hs1 q0 q1
  go_wp2_with fail
  have o0 : ∀ x, (over w2 x).cell? ⟨w.heap.size, 0, none⟩ = some (.int .i64 k) := over_cell p0
  have o1 : ∀ x, (over w2 x).cell? ⟨w.heap.size, 1, none⟩ = some (.int .i64 c) := over_cell p1
  have o2 : ∀ x, (over w2 x).cell? ⟨w.heap.size, 2, none⟩ = some (.int .i64 f) := over_cell p2
  (refine wp_region_over (by kernel_rfl) (by kernel_rfl) ?_); (repeat (go_big_quiet_step ((first | (go_at_call 14; exact calls_over (h4 _ (over_sp hs2 _))) | (go_at_call 34; exact calls_over (h3 _)))))); (refine wpQuiet_nil ?_)
  intro w3 hb3
  clear o0 o1 o2 p0 p1 p2
  have hs3 := hs2.below hb3
  have hb : Below w.heap.size w w3 := by (repeat (first | exact Below.refl _ _ | assumption | refine Below.drew ?_ | refine below_drewN ?_ _ | refine balloc ?_ _ | refine Below.setCell ?_ (by first | (simp; done) | (simp; omega) | omega) _ | refine bchain (by assumption) ?_))
  clear hb1 hb2 hb3 hs2 h1 h2 h3 h4
  have hs' := hs
  obtain ⟨a, cap, e1, ⟨r1, r2, r3⟩, e5⟩ := hs'
  have hcp := hcap a cap e1
  rw [HY.out] at hcp
  simp only [Int.toNat_natCast] at hcp
  clear hcap
  have e3 := bblock hb e1
  have c0 : w3.cell? ⟨b, 0, none⟩ = some (.int .i64 bs) := by rw [cell_of_block e3]; rfl
  have c1 : w3.cell? ⟨b, 1, none⟩ = some (.int .i64 lm) := by rw [cell_of_block e3]; rfl
  have c2 : w3.cell? ⟨b, 2, none⟩ = some (.slice a ws.length cap) := by rw [cell_of_block e3]; rfl
  have f2 : w3.frozen? ⟨b, 2, none⟩ = false := frozen_of_block e3 2
  have l0 : (0 : Int) ≤ (ws.length : Int) := by omega
  go_upto_region 10 with (fail)
  go_cut [11] (fun t11 W => t11 = .int .i64 (bs + ws.length) ∧ MidOk w b bs lm ws g y W)
  case first =>
    have s1 : IntKind.i64.wrap ((ws.length : Int) + (y : Int)) = (ws.length : Int) + (y : Int) := IntWalk.i64_in _ (by omega)
    have s2 : ((ws.length : Int) + (y : Int)).toNat = ws.length + y := by omega
    have s3 : (0 : Int) ≤ (ws.length : Int) + (y : Int) := by omega
    have hcs : ∃ cs : List Value, cs.length = cap ∧ (a = none → cap = 0) ∧ (∀ ad, a = some ad → ∀ j v, cs[j]? = some v → w3.cell? (ad.add j) = some v) ∧ cs.take ws.length = ws.map (Value.int .u64) := by
      rcases r3 with ⟨_, r3⟩ | ⟨G, cur, rfl, rfl, rh, rs, rt⟩
      · have h0 : ws = [] := List.length_eq_zero_iff.1 (by omega)
        exact ⟨[], by simp [r3], fun _ => r3, fun _ _ j v h => by simp at h, by simp [h0]⟩
      · refine ⟨cur.toList, by simpa using rs, (fun h => by cases h), ?_, rt⟩
        rintro ad h j v hj
        cases h
        rw [Addr.add_lit, Nat.zero_add, cell_of_block (bblock hb rh)]
        simpa using hj
    obtain ⟨cs, d1, d2, d3, d4⟩ := hcs
    have D1 := Lib.hid d1
    have D3 := Lib.hid d3
    have D4 := Lib.hid d4
    clear d1 d3 d4 r3
    have hbl3 : b < w3.heap.size := hs3.lt
    go_region_with (go_at_call 35; refine (grow_grow a ws.length cap y cs _ (by omega) (by omega) (by omega) D1.out d2 (by exact fun ad had j v hj => D3.out ad had j v hj)).mono ?_; rintro e wg ⟨C, zs, z1, z2, z3, rfl, rfl⟩; have z4 : (ws.length : Int) + (y : Int) ≤ (C : Int) := (by omega); have Z3 := Lib.hid z3; clear z3)
    all_goals
      go_wp2_with fail
      go_meet
      exact ⟨rfl, mid_grow hb hs.lt e3 (by assumption : Hid _).out (by assumption) (by assumption) (by rw [D1.out]; exact r1) D4.out 2⟩
  case rest =>
    obtain ⟨rfl, G', C, cur', m1, m2, m3, m4, m5, m6, m7, m8, m9⟩ := hcut
    have HFin := Lib.hid (fun n => alloc_fin (k := k) (c := c) (f := f) (m := m) (s := s) (x := x) (z := z) m1 m2 m3 m4 m5 m6 m7 m8 m9 (by omega) HY.out HX.out HZ.out n)
    have k0 : wc.cell? ⟨b, 0, none⟩ = some (.int .i64 bs) := by rw [cell_of_block m1]; rfl
    have k2 : wc.cell? ⟨b, 2, none⟩ = some (.slice (some ⟨G', 0, none⟩) (ws.length + y) C) := by rw [cell_of_block m1]; rfl
    have hcl : ∀ (n : Nat) (ty : TypeId), (Builtin.clear_ #[41] ty #[.slice (some ⟨G', ws.length, none⟩) y (C - ws.length)]).run Try.prog (wc.drewN n) = .ok (.tuple #[]) ((wc.drewN n).setCells G' ws.length (List.replicate y (.int .u64 0))) := fun n ty =>
      Lib.run_clear_slice (wc.drewN n) 41 32 ty (.int .u64 0) Try.underlying41 (fun w => by kernel_rfl) rfl rfl G' ws.length y (C - ws.length) (by omega)
        (fun j hj => by rw [cell_of_block (show (wc.drewN n).heap[G']? = _ from m2)]; simp; omega) (fun j _ => frozen_of_block (show (wc.drewN n).heap[G']? = _ from m2) _)
    have t1 : ∀ n, ((wc.drewN n).setCells G' ws.length (List.replicate y (.int .u64 0))).heap[G']? = some (.cells (wrow cur' ws.length (List.replicate y (.int .u64 0))) 32 (0, 0)) := fun n => setCells_heap G' _ _ _ _ _ (show (wc.drewN n).heap[G']? = _ from m2)
    have v1 : ∀ n, (((wc.drewN n).setCells G' ws.length (List.replicate y (.int .u64 0))).cell? ⟨G', ws.length, none⟩).isSome = true := fun n => by rw [cell_of_block (t1 n)]; simp [wrow_size]; omega
    have v2 : ∀ n, (((wc.drewN n).setCells G' ws.length (List.replicate y (.int .u64 0))).cell? ⟨G', ws.length + 1, none⟩).isSome = true := fun n => by rw [cell_of_block (t1 n)]; simp [wrow_size]; omega
    have v3 : ∀ n i, ((wc.drewN n).setCells G' ws.length (List.replicate y (.int .u64 0))).frozen? ⟨G', i, none⟩ = false := fun n i => frozen_of_block (t1 n) i
    clear t1 m1 m2 m3 m6 m7 m8 m9 e1 e3 e5 c0 c1 c2 f2 r3 hs hs3 hb
    have s1 : IntKind.i64.wrap (bs + (ws.length : Int) - bs) = (ws.length : Int) := by rw [show bs + (ws.length : Int) - bs = (ws.length : Int) by omega]; exact IntWalk.i64_in _ (by omega)
    have s3 : ((ws.length : Int)).toNat = ws.length := by omega
    have s4 : (ws.length : Int) ≤ ((ws.length + y : Nat) : Int) := by omega
    have s5 : C ≠ ws.length := by omega
    have s6 : ws.length + y - ws.length = y := by omega
    have s7 : (0 : Int) < (y : Int) := by omega
    have s8 : (1 : Int) < (y : Int) := by omega
    go_wp2_with fail
    go_quiet (fail)
    clear s1 s3
    obtain ⟨v, hv⟩ := Option.isSome_iff_exists.1 (v1 nq)
    obtain ⟨u, hu⟩ := Option.isSome_iff_exists.1 (v2 nq)
    go_wp2
    go_ret2
    exact HFin.out nq
end Go.Proofs.Ytafailcjdkmdhaa
