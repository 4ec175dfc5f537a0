/-
  refmeshlaw06.step, truncation to the address of an object.
-/
import Derived.Test.YtafailcjdkmdhaaStep2
namespace Go.Proofs.Ytafailcjdkmdhaa
open Go.RowKit
set_option linter.unusedSimpArgs false
set_option linter.unusedVariables false

set_option maxRecDepth 100000 in
set_option maxHeartbeats 2000000 in
theorem step_obj_a {w : World} {b : Nat} {v : Value} {bs lm : Int} {ws : List Int} {g gm : Option Nat} (hp : PairAt w b v bs lm ws g gm) (k c f m s x u : Int) (hx : x < 0) :
    Calls Try.prog 17 #[.pointer (some ⟨b, 0, none⟩), v, .agg #[.int .u8 3, .int .i64 k, .int .i64 c, .int .i64 f, .int .i64 m, .int .i64 s, .int .i64 x, .int .u64 u]] w (StepPost w b bs lm g gm) := by
  obtain ⟨hs, hm, hk, hap⟩ := hp
  have hbl := hs.lt
  have hgl := hs.glt
  have hml := hm.lt
  obtain ⟨A, cap, rfl, hr⟩ := hm
  have hm : MdAt w (.agg #[.int .i64 bs, .int .i64 lm, .slice A ws.length cap]) bs lm ws gm := ⟨A, cap, rfl, hr⟩
  have hn0 : ∀ j, w.heap.size ≤ j → ¬ SpS b g j := fun j hj => not_sps (by omega) (fun G h => by have := hgl G h; omega)
  have hsk : ∀ W, Mods (fun k => w.heap.size ≤ k) w W → SpAt W b bs lm ws g := fun W h => hs.mods h (by omega) (fun G e => by have := hgl G e; omega)
  have hmk : ∀ W, Mods (fun k => w.heap.size ≤ k ∨ SpS b g k) w W → MdAt W (.agg #[.int .i64 bs, .int .i64 lm, .slice A ws.length cap]) bs lm ws gm := fun W h => hm.mods h (fun G e => by have := hml G e; rintro (h | h); omega; exact hap G e h)
  clear hr
  have hW := fun (W : World) (H : MdAt W (.agg #[.int .i64 bs, .int .i64 lm, .slice A ws.length cap]) bs lm ws gm) => rwalk_any H hk
  have hzl := objs_len (ws := ws) ws.length 0 (by omega) (by omega)
  have hxl : (objA bs ws).length = (objs ws 0).length := by unfold objA; simp
  have hN : (objA bs ws).length ≤ 1099511627776 := by have := hk.top; have := hk.lm1; have := hk.b0; omega
  obtain ⟨zs, hzs⟩ : ∃ zs, objA bs ws = zs := ⟨_, rfl⟩
  obtain ⟨st, hst⟩ : ∃ st : Int, bs + ((stopAt ws 0 : Nat) : Int) = st := ⟨_, rfl⟩
  simp only [hzs, hst] at hW hN
  clear hzl hxl hst hzs
  have hA := fun (W : World) (H : SpAt W b bs lm ws g) => truncate_any H hk st
  have hR := fun (W : World) (H : MdAt W (.agg #[.int .i64 bs, .int .i64 lm, .slice A ws.length cap]) bs lm ws gm) => rtruncate_any H hk st
  have hk2 := trOk hk st
  generalize trE bs ws st = re at *
  generalize trW bs ws st = ws2 at *
  clear hk
  generalize hn : ws.length = n at *
  have HN := Lib.hid hn
  clear hn
  go_enter Try.func17, Try.ntmps17
  go_wp2_with fail
  refine (hW _ (hmk _ (by (repeat (first | exact Mods.refl _ _ | assumption | refine Mods.drew ?_ | refine Mods.drewN ?_ _ | refine Mods.alloc ?_ _ | refine Mods.setCell ?_ (by first | (left; simp; done) | (left; simp; omega) | (right; simp; done) | (right; simp; omega)) _ | refine Mods.chain (by assumption) ?_))))).mono ?_
  rintro e w0 ⟨vl, rfl, hrow, hb0⟩
  have k0 : w0.heap[w.heap.size]? = some (.cells #[.int .i64 bs, .int .i64 lm, .slice A n cap] 43 (0, 0)) := bblock hb0 (by repeat (first | exact alloc_at _ (by simp) | refine alloc_lt _ ?_))
  have k1 : w0.heap[w.heap.size + 1]? = some (.cells #[.int .u8 3, .int .i64 k, .int .i64 c, .int .i64 f, .int .i64 m, .int .i64 s, .int .i64 x, .int .u64 u] 34 (0, 0)) := bblock hb0 (by repeat (first | exact alloc_at _ (by simp) | refine alloc_lt _ ?_))
  have k2 : w0.heap[w.heap.size + 2]? = some (.cells #[.int .i64 0, .int .i64 0, .slice none 0 0] 43 (0, 0)) := bblock hb0 (by repeat (first | exact alloc_at _ (by simp) | refine alloc_lt _ ?_))
  have hz0 : w.heap.size + 3 ≤ w0.heap.size := by have := hb0.size; simp only [World.size_alloc] at this; omega
  have hM0 : Mods (fun k => w.heap.size ≤ k) w w0 := by (repeat (first | exact Mods.refl _ _ | assumption | refine Mods.drew ?_ | refine Mods.drewN ?_ _ | refine Mods.alloc ?_ _ | refine Mods.setCell ?_ (by first | (left; simp; done) | (left; simp; omega) | (right; simp; done) | (right; simp; omega)) _ | refine Mods.chain (by assumption) ?_))
  have hmd0 := hmk _ (hM0.mono (fun k hk => .inl hk))
  have iv := IntsV.of_row hrow
  obtain ⟨a2, c2, rfl, n2, m2, r2⟩ := iv
  clear hrow hW hmk hb0
  have k0_0 : w0.cell? ⟨w.heap.size, 0, none⟩ = some (.int .i64 bs) := by rw [cell_of_block k0]; rfl
  have k0_1 : w0.cell? ⟨w.heap.size, 1, none⟩ = some (.int .i64 lm) := by rw [cell_of_block k0]; rfl
  have k0_2 : w0.cell? ⟨w.heap.size, 2, none⟩ = some (.slice A n cap) := by rw [cell_of_block k0]; rfl
  have k1_6 : w0.cell? ⟨w.heap.size + 1, 6, none⟩ = some (.int .i64 x) := by rw [cell_of_block k1]; rfl
  generalize hNN : zs.length = NN at *
  clear hNN r2
  go_wp2_with fail
  refine (hR _ hmd0).mono ?_
  rintro e w1 ⟨v2, rfl, gm2, hmd2, hgm2, hb1⟩
  have k0 : w1.heap[w.heap.size]? = some (.cells #[.int .i64 bs, .int .i64 lm, .slice A n cap] 43 (0, 0)) := bblock hb1 k0
  have k1 : w1.heap[w.heap.size + 1]? = some (.cells #[.int .u8 3, .int .i64 k, .int .i64 c, .int .i64 f, .int .i64 m, .int .i64 s, .int .i64 x, .int .u64 u] 34 (0, 0)) := bblock hb1 k1
  have k2 : w1.heap[w.heap.size + 2]? = some (.cells #[.int .i64 0, .int .i64 0, .slice none 0 0] 43 (0, 0)) := bblock hb1 k2
  have hz1 : w.heap.size + 3 ≤ w1.heap.size := by have := hb1.size; omega
  have hz3 : w.heap.size + 2 < w1.heap.size := by omega
  have hz4 : w.heap.size + 2 ≠ w1.heap.size := by omega
  have hz5 : w1.heap.size ≠ w.heap.size + 2 := by omega
  have hgm3 : ∀ G, gm2 = some G → gm = some G ∨ w.heap.size + 3 ≤ G := fun G e => (hgm2 G e).imp id (fun h => by omega)
  have hM1 : Mods (fun k => w.heap.size ≤ k) w w1 := hM0.trans (Mods.of_below (S := fun _ => False) hb1) (fun i hi => hi.elim)
  have hmd3 := hmd2
  have hml2 := hmd2.lt
  obtain ⟨A2, cap2, rfl, hr2⟩ := hmd2
  clear hr2 hR hm hs hmd0 hM0 k0_0 k0_1 k0_2 k1_6
  generalize hL : ws2.length = N2 at *
  have HL := Lib.hid hL
  clear hL
  have k0 : (w1.alloc (.cells #[.int .i64 bs, .int .i64 lm, .slice A2 N2 cap2] 43)).heap[w.heap.size]? = some (.cells #[.int .i64 bs, .int .i64 lm, .slice A n cap] 43 (0, 0)) := alloc_lt _ k0
  have k1 : (w1.alloc (.cells #[.int .i64 bs, .int .i64 lm, .slice A2 N2 cap2] 43)).heap[w.heap.size + 1]? = some (.cells #[.int .u8 3, .int .i64 k, .int .i64 c, .int .i64 f, .int .i64 m, .int .i64 s, .int .i64 x, .int .u64 u] 34 (0, 0)) := alloc_lt _ k1
  have k2 : (w1.alloc (.cells #[.int .i64 bs, .int .i64 lm, .slice A2 N2 cap2] 43)).heap[w.heap.size + 2]? = some (.cells #[.int .i64 0, .int .i64 0, .slice none 0 0] 43 (0, 0)) := alloc_lt _ k2
  have k3 : (w1.alloc (.cells #[.int .i64 bs, .int .i64 lm, .slice A2 N2 cap2] 43)).heap[w1.heap.size]? = some (.cells #[.int .i64 bs, .int .i64 lm, .slice A2 N2 cap2] 43 (0, 0)) := alloc_get _ _
  have hs1 := hsk _ (hM1.alloc (.cells #[.int .i64 bs, .int .i64 lm, .slice A2 N2 cap2] 43))
  have hmd4 := hmd3.below (balloc (Below.refl _ w1) (.cells #[.int .i64 bs, .int .i64 lm, .slice A2 N2 cap2] 43))
  have hM2 : Mods (fun k => w.heap.size ≤ k) w (w1.alloc (.cells #[.int .i64 bs, .int .i64 lm, .slice A2 N2 cap2] 43)) := hM1.alloc _
  clear hsk hmd3 hM1
  go_wp2_with fail
  have hz6 : w.heap.size < w1.heap.size := by omega
  have hz7 : w.heap.size + 1 < w1.heap.size := by omega
  have hz11 : w.heap.size ≠ w.heap.size + 1 + 1 := by omega
  have hz12 : w.heap.size + 1 + 1 ≠ w.heap.size := by omega
  obtain ⟨w2, hw2⟩ : ∃ w2, (w1.alloc (.cells #[.int .i64 bs, .int .i64 lm, .slice A2 N2 cap2] 43)) = w2 := ⟨_, rfl⟩
  rw [hw2] at k0 k1 k2 k3 hs1 hmd4 hM2 ⊢
  have hz8 : w1.heap.size < w2.heap.size := by rw [← hw2]; simp
  clear hw2 hb1 hgm2
  have k3_0 : w2.cell? ⟨w1.heap.size, 0, none⟩ = some (.int .i64 bs) := by rw [cell_of_block k3]; rfl
  have k3_1 : w2.cell? ⟨w1.heap.size, 1, none⟩ = some (.int .i64 lm) := by rw [cell_of_block k3]; rfl
  have k3_2 : w2.cell? ⟨w1.heap.size, 2, none⟩ = some (.slice A2 N2 cap2) := by rw [cell_of_block k3]; rfl
  go_region_held3 (fun w' => w'.cell? ⟨w1.heap.size, 0, none⟩ = some (.int .i64 bs) ∧ w'.cell? ⟨w1.heap.size, 1, none⟩ = some (.int .i64 lm) ∧ w'.cell? ⟨w1.heap.size, 2, none⟩ = some (.slice A2 N2 cap2)) (first | exact ⟨k3_0, k3_1, k3_2⟩ | go_keep) (first
    | (go_at_call 29; refine (hA _ (show SpAt w2.drew b bs lm ws g from hs1)).mono ?_; rintro e w3 ⟨rfl, g3, hs3, hm3, hg3⟩; have k3_0 := mcell hm3 (show w2.drew.cell? _ = _ from k3_0) (hn0 (w1.heap.size) (by omega)); have k3_1 := mcell hm3 (show w2.drew.cell? _ = _ from k3_1) (hn0 (w1.heap.size) (by omega)); have k3_2 := mcell hm3 (show w2.drew.cell? _ = _ from k3_2) (hn0 (w1.heap.size) (by omega)); have k2' := mblock hm3 (show w2.drew.heap[_]? = _ from k2) (hn0 _ (by omega)); have k2_0 : w3.cell? ⟨w.heap.size + 2, 0, none⟩ = some (.int .i64 0) := (by rw [cell_of_block k2']; rfl); have k2_1 : w3.cell? ⟨w.heap.size + 2, 1, none⟩ = some (.int .i64 0) := (by rw [cell_of_block k2']; rfl); have k2_2 : w3.cell? ⟨w.heap.size + 2, 2, none⟩ = some (.slice none 0 0) := (by rw [cell_of_block k2']; rfl); have k2_f : ∀ i, w3.frozen? ⟨w.heap.size + 2, i, none⟩ = false := frozen_of_block k2'))
  have hm3d : Mods (SpS b g) w2 w3 := ⟨hm3.os, hm3.tape, hm3.output, hm3.size, hm3.block⟩
  have hz9 : w2.heap.size ≤ w3.heap.size := hm3d.size
  have hmd5 := hmd4.mods hm3d (fun G e => by
    rcases hgm3 G e with h | h
    · exact hap G h
    · exact hn0 G (by omega))
  have hMf : Mods (SpS b g) w w3 := (Mods.narrow hM2).trans hm3d (fun i hi => .inl hi)
  have hg4 : ∀ G, g3 = some G → g = some G ∨ w2.heap.size ≤ G := hg3
  have h33 : ∀ G, g3 = some G → gm2 = some G → gm = some G ∧ g = some G := fun G e1 e2 => by
    rcases hgm3 G e2 with h | h
    · rcases hg4 G e1 with h' | h'
      · exact ⟨h, h'⟩
      · have := hml G h; omega
    · rcases hg4 G e1 with h' | h'
      · have := hgl G h'; omega
      · have := hml2 G e2; omega
  have hg5 : ∀ G, g3 = some G → g = some G ∨ w.heap.size + 3 ≤ G := fun G e => (hg4 G e).imp id (fun h => by omega)
  have hz10 : w.heap.size + 2 < w3.heap.size := by omega
  clear hm3 hm3d hg3 hg4 k2' k0 k1 k2 k3 hM2 hmd4 hs1 hA
  go_wp2
  exact bodyPost_ret (v := .tuple #[.agg #[.int .i64 bs, .int .i64 lm, .slice A2 N2 cap2], .bool true]) (by simp [results, Try.results17, go_sem, hz10, k2_0, k2_1, k2_2]) rfl (StepPost.mk (w3 := w3) hs3 hmd5 hk2 hMf (by (repeat (first | exact Mods.refl _ _ | assumption | refine Mods.drew ?_ | refine Mods.drewN ?_ _ | refine Mods.alloc ?_ _ | refine Mods.setCell ?_ (by first | (left; simp; done) | (left; simp; omega) | (right; simp; done) | (right; simp; omega)) _ | refine Mods.chain (by assumption) ?_))) hbl hgl hml hap hg5 hgm3 h33)
set_option maxRecDepth 100000 in
set_option maxHeartbeats 2000000 in
theorem step_obj_b {w : World} {b : Nat} {v : Value} {bs lm : Int} {ws : List Int} {g gm : Option Nat} (hp : PairAt w b v bs lm ws g gm) (k c f m s x u : Int) (hx : 0 ≤ x) (hlt : x % (((objA bs ws).length : Int) + 1) < ((objA bs ws).length : Int)) :
    Calls Try.prog 17 #[.pointer (some ⟨b, 0, none⟩), v, .agg #[.int .u8 3, .int .i64 k, .int .i64 c, .int .i64 f, .int .i64 m, .int .i64 s, .int .i64 x, .int .u64 u]] w (StepPost w b bs lm g gm) := by
  obtain ⟨hs, hm, hk, hap⟩ := hp
  have hbl := hs.lt
  have hgl := hs.glt
  have hml := hm.lt
  obtain ⟨A, cap, rfl, hr⟩ := hm
  have hm : MdAt w (.agg #[.int .i64 bs, .int .i64 lm, .slice A ws.length cap]) bs lm ws gm := ⟨A, cap, rfl, hr⟩
  have hn0 : ∀ j, w.heap.size ≤ j → ¬ SpS b g j := fun j hj => not_sps (by omega) (fun G h => by have := hgl G h; omega)
  have hsk : ∀ W, Mods (fun k => w.heap.size ≤ k) w W → SpAt W b bs lm ws g := fun W h => hs.mods h (by omega) (fun G e => by have := hgl G e; omega)
  have hmk : ∀ W, Mods (fun k => w.heap.size ≤ k ∨ SpS b g k) w W → MdAt W (.agg #[.int .i64 bs, .int .i64 lm, .slice A ws.length cap]) bs lm ws gm := fun W h => hm.mods h (fun G e => by have := hml G e; rintro (h | h); omega; exact hap G e h)
  clear hr
  have hW := fun (W : World) (H : MdAt W (.agg #[.int .i64 bs, .int .i64 lm, .slice A ws.length cap]) bs lm ws gm) => rwalk_any H hk
  have hzl := objs_len (ws := ws) ws.length 0 (by omega) (by omega)
  have hxl : (objA bs ws).length = (objs ws 0).length := by unfold objA; simp
  have hN : (objA bs ws).length ≤ 1099511627776 := by have := hk.top; have := hk.lm1; have := hk.b0; omega
  obtain ⟨zs, hzs⟩ : ∃ zs, objA bs ws = zs := ⟨_, rfl⟩
  obtain ⟨st, hst⟩ : ∃ st : Int, bs + ((stopAt ws 0 : Nat) : Int) = st := ⟨_, rfl⟩
  simp only [hzs, hst] at hW hN hlt
  clear hzl hxl hst hzs
  obtain ⟨kk, hkk⟩ : ∃ kk : Nat, x % ((zs.length : Int) + 1) = (kk : Int) := ⟨(x % ((zs.length : Int) + 1)).toNat, by have := Int.emod_nonneg x (show (zs.length : Int) + 1 ≠ 0 by omega); omega⟩
  rw [hkk] at hlt
  obtain ⟨y, hy⟩ : ∃ y, zs[kk]? = some y := ⟨_, List.getElem?_eq_getElem (by omega)⟩
  have hA := fun (W : World) (H : SpAt W b bs lm ws g) => truncate_any H hk y
  have hR := fun (W : World) (H : MdAt W (.agg #[.int .i64 bs, .int .i64 lm, .slice A ws.length cap]) bs lm ws gm) => rtruncate_any H hk y
  have hk2 := trOk hk y
  generalize trE bs ws y = re at *
  generalize trW bs ws y = ws2 at *
  clear hk
  generalize hn : ws.length = n at *
  have HN := Lib.hid hn
  clear hn
  go_enter Try.func17, Try.ntmps17
  go_wp2_with fail
  refine (hW _ (hmk _ (by (repeat (first | exact Mods.refl _ _ | assumption | refine Mods.drew ?_ | refine Mods.drewN ?_ _ | refine Mods.alloc ?_ _ | refine Mods.setCell ?_ (by first | (left; simp; done) | (left; simp; omega) | (right; simp; done) | (right; simp; omega)) _ | refine Mods.chain (by assumption) ?_))))).mono ?_
  rintro e w0 ⟨vl, rfl, hrow, hb0⟩
  have k0 : w0.heap[w.heap.size]? = some (.cells #[.int .i64 bs, .int .i64 lm, .slice A n cap] 43 (0, 0)) := bblock hb0 (by repeat (first | exact alloc_at _ (by simp) | refine alloc_lt _ ?_))
  have k1 : w0.heap[w.heap.size + 1]? = some (.cells #[.int .u8 3, .int .i64 k, .int .i64 c, .int .i64 f, .int .i64 m, .int .i64 s, .int .i64 x, .int .u64 u] 34 (0, 0)) := bblock hb0 (by repeat (first | exact alloc_at _ (by simp) | refine alloc_lt _ ?_))
  have k2 : w0.heap[w.heap.size + 2]? = some (.cells #[.int .i64 0, .int .i64 0, .slice none 0 0] 43 (0, 0)) := bblock hb0 (by repeat (first | exact alloc_at _ (by simp) | refine alloc_lt _ ?_))
  have hz0 : w.heap.size + 3 ≤ w0.heap.size := by have := hb0.size; simp only [World.size_alloc] at this; omega
  have hM0 : Mods (fun k => w.heap.size ≤ k) w w0 := by (repeat (first | exact Mods.refl _ _ | assumption | refine Mods.drew ?_ | refine Mods.drewN ?_ _ | refine Mods.alloc ?_ _ | refine Mods.setCell ?_ (by first | (left; simp; done) | (left; simp; omega) | (right; simp; done) | (right; simp; omega)) _ | refine Mods.chain (by assumption) ?_))
  have hmd0 := hmk _ (hM0.mono (fun k hk => .inl hk))
  have iv := IntsV.of_row hrow
  obtain ⟨a2, c2, rfl, n2, m2, r2⟩ := iv
  clear hrow hW hmk hb0
  have k0_0 : w0.cell? ⟨w.heap.size, 0, none⟩ = some (.int .i64 bs) := by rw [cell_of_block k0]; rfl
  have k0_1 : w0.cell? ⟨w.heap.size, 1, none⟩ = some (.int .i64 lm) := by rw [cell_of_block k0]; rfl
  have k0_2 : w0.cell? ⟨w.heap.size, 2, none⟩ = some (.slice A n cap) := by rw [cell_of_block k0]; rfl
  have k1_6 : w0.cell? ⟨w.heap.size + 1, 6, none⟩ = some (.int .i64 x) := by rw [cell_of_block k1]; rfl
  have hzn : zs ≠ [] := by rintro rfl; simp at hy
  obtain ⟨b2, o2, rfl, r3⟩ := r2.resolve_left hzn
  have qz := r3 kk y hy
  have s1 : ((kk : Int)).toNat = kk := by omega
  generalize hNN : zs.length = NN at *
  clear r2 r3 hy hNN hzn
  go_wp2_with fail
  refine (hR _ hmd0).mono ?_
  rintro e w1 ⟨v2, rfl, gm2, hmd2, hgm2, hb1⟩
  have k0 : w1.heap[w.heap.size]? = some (.cells #[.int .i64 bs, .int .i64 lm, .slice A n cap] 43 (0, 0)) := bblock hb1 k0
  have k1 : w1.heap[w.heap.size + 1]? = some (.cells #[.int .u8 3, .int .i64 k, .int .i64 c, .int .i64 f, .int .i64 m, .int .i64 s, .int .i64 x, .int .u64 u] 34 (0, 0)) := bblock hb1 k1
  have k2 : w1.heap[w.heap.size + 2]? = some (.cells #[.int .i64 0, .int .i64 0, .slice none 0 0] 43 (0, 0)) := bblock hb1 k2
  have hz1 : w.heap.size + 3 ≤ w1.heap.size := by have := hb1.size; omega
  have hz3 : w.heap.size + 2 < w1.heap.size := by omega
  have hz4 : w.heap.size + 2 ≠ w1.heap.size := by omega
  have hz5 : w1.heap.size ≠ w.heap.size + 2 := by omega
  have hgm3 : ∀ G, gm2 = some G → gm = some G ∨ w.heap.size + 3 ≤ G := fun G e => (hgm2 G e).imp id (fun h => by omega)
  have hM1 : Mods (fun k => w.heap.size ≤ k) w w1 := hM0.trans (Mods.of_below (S := fun _ => False) hb1) (fun i hi => hi.elim)
  have hmd3 := hmd2
  have hml2 := hmd2.lt
  obtain ⟨A2, cap2, rfl, hr2⟩ := hmd2
  clear hr2 hR hm hs hmd0 hM0 k0_0 k0_1 k0_2 k1_6
  generalize hL : ws2.length = N2 at *
  have HL := Lib.hid hL
  clear hL
  have k0 : (w1.alloc (.cells #[.int .i64 bs, .int .i64 lm, .slice A2 N2 cap2] 43)).heap[w.heap.size]? = some (.cells #[.int .i64 bs, .int .i64 lm, .slice A n cap] 43 (0, 0)) := alloc_lt _ k0
  have k1 : (w1.alloc (.cells #[.int .i64 bs, .int .i64 lm, .slice A2 N2 cap2] 43)).heap[w.heap.size + 1]? = some (.cells #[.int .u8 3, .int .i64 k, .int .i64 c, .int .i64 f, .int .i64 m, .int .i64 s, .int .i64 x, .int .u64 u] 34 (0, 0)) := alloc_lt _ k1
  have k2 : (w1.alloc (.cells #[.int .i64 bs, .int .i64 lm, .slice A2 N2 cap2] 43)).heap[w.heap.size + 2]? = some (.cells #[.int .i64 0, .int .i64 0, .slice none 0 0] 43 (0, 0)) := alloc_lt _ k2
  have k3 : (w1.alloc (.cells #[.int .i64 bs, .int .i64 lm, .slice A2 N2 cap2] 43)).heap[w1.heap.size]? = some (.cells #[.int .i64 bs, .int .i64 lm, .slice A2 N2 cap2] 43 (0, 0)) := alloc_get _ _
  have hs1 := hsk _ (hM1.alloc (.cells #[.int .i64 bs, .int .i64 lm, .slice A2 N2 cap2] 43))
  have hmd4 := hmd3.below (balloc (Below.refl _ w1) (.cells #[.int .i64 bs, .int .i64 lm, .slice A2 N2 cap2] 43))
  have hM2 : Mods (fun k => w.heap.size ≤ k) w (w1.alloc (.cells #[.int .i64 bs, .int .i64 lm, .slice A2 N2 cap2] 43)) := hM1.alloc _
  clear hsk hmd3 hM1
  go_wp2_with fail
  have hz6 : w.heap.size < w1.heap.size := by omega
  have hz7 : w.heap.size + 1 < w1.heap.size := by omega
  have hz11 : w.heap.size ≠ w.heap.size + 1 + 1 := by omega
  have hz12 : w.heap.size + 1 + 1 ≠ w.heap.size := by omega
  obtain ⟨w2, hw2⟩ : ∃ w2, (w1.alloc (.cells #[.int .i64 bs, .int .i64 lm, .slice A2 N2 cap2] 43)) = w2 := ⟨_, rfl⟩
  rw [hw2] at k0 k1 k2 k3 hs1 hmd4 hM2 ⊢
  have hz8 : w1.heap.size < w2.heap.size := by rw [← hw2]; simp
  clear hw2 hb1 hgm2
  have k3_0 : w2.cell? ⟨w1.heap.size, 0, none⟩ = some (.int .i64 bs) := by rw [cell_of_block k3]; rfl
  have k3_1 : w2.cell? ⟨w1.heap.size, 1, none⟩ = some (.int .i64 lm) := by rw [cell_of_block k3]; rfl
  have k3_2 : w2.cell? ⟨w1.heap.size, 2, none⟩ = some (.slice A2 N2 cap2) := by rw [cell_of_block k3]; rfl
  go_region_held3 (fun w' => w'.cell? ⟨w1.heap.size, 0, none⟩ = some (.int .i64 bs) ∧ w'.cell? ⟨w1.heap.size, 1, none⟩ = some (.int .i64 lm) ∧ w'.cell? ⟨w1.heap.size, 2, none⟩ = some (.slice A2 N2 cap2)) (first | exact ⟨k3_0, k3_1, k3_2⟩ | go_keep) (first
    | (go_at_call 29; refine (hA _ (show SpAt w2.drew b bs lm ws g from hs1)).mono ?_; rintro e w3 ⟨rfl, g3, hs3, hm3, hg3⟩; have k3_0 := mcell hm3 (show w2.drew.cell? _ = _ from k3_0) (hn0 (w1.heap.size) (by omega)); have k3_1 := mcell hm3 (show w2.drew.cell? _ = _ from k3_1) (hn0 (w1.heap.size) (by omega)); have k3_2 := mcell hm3 (show w2.drew.cell? _ = _ from k3_2) (hn0 (w1.heap.size) (by omega)); have k2' := mblock hm3 (show w2.drew.heap[_]? = _ from k2) (hn0 _ (by omega)); have k2_0 : w3.cell? ⟨w.heap.size + 2, 0, none⟩ = some (.int .i64 0) := (by rw [cell_of_block k2']; rfl); have k2_1 : w3.cell? ⟨w.heap.size + 2, 1, none⟩ = some (.int .i64 0) := (by rw [cell_of_block k2']; rfl); have k2_2 : w3.cell? ⟨w.heap.size + 2, 2, none⟩ = some (.slice none 0 0) := (by rw [cell_of_block k2']; rfl); have k2_f : ∀ i, w3.frozen? ⟨w.heap.size + 2, i, none⟩ = false := frozen_of_block k2'))
  have hm3d : Mods (SpS b g) w2 w3 := ⟨hm3.os, hm3.tape, hm3.output, hm3.size, hm3.block⟩
  have hz9 : w2.heap.size ≤ w3.heap.size := hm3d.size
  have hmd5 := hmd4.mods hm3d (fun G e => by
    rcases hgm3 G e with h | h
    · exact hap G h
    · exact hn0 G (by omega))
  have hMf : Mods (SpS b g) w w3 := (Mods.narrow hM2).trans hm3d (fun i hi => .inl hi)
  have hg4 : ∀ G, g3 = some G → g = some G ∨ w2.heap.size ≤ G := hg3
  have h33 : ∀ G, g3 = some G → gm2 = some G → gm = some G ∧ g = some G := fun G e1 e2 => by
    rcases hgm3 G e2 with h | h
    · rcases hg4 G e1 with h' | h'
      · exact ⟨h, h'⟩
      · have := hml G h; omega
    · rcases hg4 G e1 with h' | h'
      · have := hgl G h'; omega
      · have := hml2 G e2; omega
  have hg5 : ∀ G, g3 = some G → g = some G ∨ w.heap.size + 3 ≤ G := fun G e => (hg4 G e).imp id (fun h => by omega)
  have hz10 : w.heap.size + 2 < w3.heap.size := by omega
  clear hm3 hm3d hg3 hg4 k2' k0 k1 k2 k3 hM2 hmd4 hs1 hA
  go_wp2
  exact bodyPost_ret (v := .tuple #[.agg #[.int .i64 bs, .int .i64 lm, .slice A2 N2 cap2], .bool true]) (by simp [results, Try.results17, go_sem, hz10, k2_0, k2_1, k2_2]) rfl (StepPost.mk (w3 := w3) hs3 hmd5 hk2 hMf (by (repeat (first | exact Mods.refl _ _ | assumption | refine Mods.drew ?_ | refine Mods.drewN ?_ _ | refine Mods.alloc ?_ _ | refine Mods.setCell ?_ (by first | (left; simp; done) | (left; simp; omega) | (right; simp; done) | (right; simp; omega)) _ | refine Mods.chain (by assumption) ?_))) hbl hgl hml hap hg5 hgm3 h33)
set_option maxRecDepth 100000 in
set_option maxHeartbeats 2000000 in
theorem step_obj_c {w : World} {b : Nat} {v : Value} {bs lm : Int} {ws : List Int} {g gm : Option Nat} (hp : PairAt w b v bs lm ws g gm) (k c f m s x u : Int) (hx : 0 ≤ x) (hlt : ¬ x % (((objA bs ws).length : Int) + 1) < ((objA bs ws).length : Int)) :
    Calls Try.prog 17 #[.pointer (some ⟨b, 0, none⟩), v, .agg #[.int .u8 3, .int .i64 k, .int .i64 c, .int .i64 f, .int .i64 m, .int .i64 s, .int .i64 x, .int .u64 u]] w (StepPost w b bs lm g gm) := by
  obtain ⟨hs, hm, hk, hap⟩ := hp
  have hbl := hs.lt
  have hgl := hs.glt
  have hml := hm.lt
  obtain ⟨A, cap, rfl, hr⟩ := hm
  have hm : MdAt w (.agg #[.int .i64 bs, .int .i64 lm, .slice A ws.length cap]) bs lm ws gm := ⟨A, cap, rfl, hr⟩
  have hn0 : ∀ j, w.heap.size ≤ j → ¬ SpS b g j := fun j hj => not_sps (by omega) (fun G h => by have := hgl G h; omega)
  have hsk : ∀ W, Mods (fun k => w.heap.size ≤ k) w W → SpAt W b bs lm ws g := fun W h => hs.mods h (by omega) (fun G e => by have := hgl G e; omega)
  have hmk : ∀ W, Mods (fun k => w.heap.size ≤ k ∨ SpS b g k) w W → MdAt W (.agg #[.int .i64 bs, .int .i64 lm, .slice A ws.length cap]) bs lm ws gm := fun W h => hm.mods h (fun G e => by have := hml G e; rintro (h | h); omega; exact hap G e h)
  clear hr
  have hW := fun (W : World) (H : MdAt W (.agg #[.int .i64 bs, .int .i64 lm, .slice A ws.length cap]) bs lm ws gm) => rwalk_any H hk
  have hzl := objs_len (ws := ws) ws.length 0 (by omega) (by omega)
  have hxl : (objA bs ws).length = (objs ws 0).length := by unfold objA; simp
  have hN : (objA bs ws).length ≤ 1099511627776 := by have := hk.top; have := hk.lm1; have := hk.b0; omega
  obtain ⟨zs, hzs⟩ : ∃ zs, objA bs ws = zs := ⟨_, rfl⟩
  obtain ⟨st, hst⟩ : ∃ st : Int, bs + ((stopAt ws 0 : Nat) : Int) = st := ⟨_, rfl⟩
  simp only [hzs, hst] at hW hN hlt
  clear hzl hxl hst hzs
  have hA := fun (W : World) (H : SpAt W b bs lm ws g) => truncate_any H hk st
  have hR := fun (W : World) (H : MdAt W (.agg #[.int .i64 bs, .int .i64 lm, .slice A ws.length cap]) bs lm ws gm) => rtruncate_any H hk st
  have hk2 := trOk hk st
  generalize trE bs ws st = re at *
  generalize trW bs ws st = ws2 at *
  clear hk
  generalize hn : ws.length = n at *
  have HN := Lib.hid hn
  clear hn
  go_enter Try.func17, Try.ntmps17
  go_wp2_with fail
  refine (hW _ (hmk _ (by (repeat (first | exact Mods.refl _ _ | assumption | refine Mods.drew ?_ | refine Mods.drewN ?_ _ | refine Mods.alloc ?_ _ | refine Mods.setCell ?_ (by first | (left; simp; done) | (left; simp; omega) | (right; simp; done) | (right; simp; omega)) _ | refine Mods.chain (by assumption) ?_))))).mono ?_
  rintro e w0 ⟨vl, rfl, hrow, hb0⟩
  have k0 : w0.heap[w.heap.size]? = some (.cells #[.int .i64 bs, .int .i64 lm, .slice A n cap] 43 (0, 0)) := bblock hb0 (by repeat (first | exact alloc_at _ (by simp) | refine alloc_lt _ ?_))
  have k1 : w0.heap[w.heap.size + 1]? = some (.cells #[.int .u8 3, .int .i64 k, .int .i64 c, .int .i64 f, .int .i64 m, .int .i64 s, .int .i64 x, .int .u64 u] 34 (0, 0)) := bblock hb0 (by repeat (first | exact alloc_at _ (by simp) | refine alloc_lt _ ?_))
  have k2 : w0.heap[w.heap.size + 2]? = some (.cells #[.int .i64 0, .int .i64 0, .slice none 0 0] 43 (0, 0)) := bblock hb0 (by repeat (first | exact alloc_at _ (by simp) | refine alloc_lt _ ?_))
  have hz0 : w.heap.size + 3 ≤ w0.heap.size := by have := hb0.size; simp only [World.size_alloc] at this; omega
  have hM0 : Mods (fun k => w.heap.size ≤ k) w w0 := by (repeat (first | exact Mods.refl _ _ | assumption | refine Mods.drew ?_ | refine Mods.drewN ?_ _ | refine Mods.alloc ?_ _ | refine Mods.setCell ?_ (by first | (left; simp; done) | (left; simp; omega) | (right; simp; done) | (right; simp; omega)) _ | refine Mods.chain (by assumption) ?_))
  have hmd0 := hmk _ (hM0.mono (fun k hk => .inl hk))
  have iv := IntsV.of_row hrow
  obtain ⟨a2, c2, rfl, n2, m2, r2⟩ := iv
  clear hrow hW hmk hb0
  have k0_0 : w0.cell? ⟨w.heap.size, 0, none⟩ = some (.int .i64 bs) := by rw [cell_of_block k0]; rfl
  have k0_1 : w0.cell? ⟨w.heap.size, 1, none⟩ = some (.int .i64 lm) := by rw [cell_of_block k0]; rfl
  have k0_2 : w0.cell? ⟨w.heap.size, 2, none⟩ = some (.slice A n cap) := by rw [cell_of_block k0]; rfl
  have k1_6 : w0.cell? ⟨w.heap.size + 1, 6, none⟩ = some (.int .i64 x) := by rw [cell_of_block k1]; rfl
  generalize hNN : zs.length = NN at *
  clear hNN r2
  have hd : decide (x % ((NN : Int) + 1) < (NN : Int)) = false := by simpa using hlt
  go_wp2_with fail
  refine (hR _ hmd0).mono ?_
  rintro e w1 ⟨v2, rfl, gm2, hmd2, hgm2, hb1⟩
  have k0 : w1.heap[w.heap.size]? = some (.cells #[.int .i64 bs, .int .i64 lm, .slice A n cap] 43 (0, 0)) := bblock hb1 k0
  have k1 : w1.heap[w.heap.size + 1]? = some (.cells #[.int .u8 3, .int .i64 k, .int .i64 c, .int .i64 f, .int .i64 m, .int .i64 s, .int .i64 x, .int .u64 u] 34 (0, 0)) := bblock hb1 k1
  have k2 : w1.heap[w.heap.size + 2]? = some (.cells #[.int .i64 0, .int .i64 0, .slice none 0 0] 43 (0, 0)) := bblock hb1 k2
  have hz1 : w.heap.size + 3 ≤ w1.heap.size := by have := hb1.size; omega
  have hz3 : w.heap.size + 2 < w1.heap.size := by omega
  have hz4 : w.heap.size + 2 ≠ w1.heap.size := by omega
  have hz5 : w1.heap.size ≠ w.heap.size + 2 := by omega
  have hgm3 : ∀ G, gm2 = some G → gm = some G ∨ w.heap.size + 3 ≤ G := fun G e => (hgm2 G e).imp id (fun h => by omega)
  have hM1 : Mods (fun k => w.heap.size ≤ k) w w1 := hM0.trans (Mods.of_below (S := fun _ => False) hb1) (fun i hi => hi.elim)
  have hmd3 := hmd2
  have hml2 := hmd2.lt
  obtain ⟨A2, cap2, rfl, hr2⟩ := hmd2
  clear hr2 hR hm hs hmd0 hM0 k0_0 k0_1 k0_2 k1_6
  generalize hL : ws2.length = N2 at *
  have HL := Lib.hid hL
  clear hL
  have k0 : (w1.alloc (.cells #[.int .i64 bs, .int .i64 lm, .slice A2 N2 cap2] 43)).heap[w.heap.size]? = some (.cells #[.int .i64 bs, .int .i64 lm, .slice A n cap] 43 (0, 0)) := alloc_lt _ k0
  have k1 : (w1.alloc (.cells #[.int .i64 bs, .int .i64 lm, .slice A2 N2 cap2] 43)).heap[w.heap.size + 1]? = some (.cells #[.int .u8 3, .int .i64 k, .int .i64 c, .int .i64 f, .int .i64 m, .int .i64 s, .int .i64 x, .int .u64 u] 34 (0, 0)) := alloc_lt _ k1
  have k2 : (w1.alloc (.cells #[.int .i64 bs, .int .i64 lm, .slice A2 N2 cap2] 43)).heap[w.heap.size + 2]? = some (.cells #[.int .i64 0, .int .i64 0, .slice none 0 0] 43 (0, 0)) := alloc_lt _ k2
  have k3 : (w1.alloc (.cells #[.int .i64 bs, .int .i64 lm, .slice A2 N2 cap2] 43)).heap[w1.heap.size]? = some (.cells #[.int .i64 bs, .int .i64 lm, .slice A2 N2 cap2] 43 (0, 0)) := alloc_get _ _
  have hs1 := hsk _ (hM1.alloc (.cells #[.int .i64 bs, .int .i64 lm, .slice A2 N2 cap2] 43))
  have hmd4 := hmd3.below (balloc (Below.refl _ w1) (.cells #[.int .i64 bs, .int .i64 lm, .slice A2 N2 cap2] 43))
  have hM2 : Mods (fun k => w.heap.size ≤ k) w (w1.alloc (.cells #[.int .i64 bs, .int .i64 lm, .slice A2 N2 cap2] 43)) := hM1.alloc _
  clear hsk hmd3 hM1
  go_wp2_with fail
  have hz6 : w.heap.size < w1.heap.size := by omega
  have hz7 : w.heap.size + 1 < w1.heap.size := by omega
  have hz11 : w.heap.size ≠ w.heap.size + 1 + 1 := by omega
  have hz12 : w.heap.size + 1 + 1 ≠ w.heap.size := by omega
  obtain ⟨w2, hw2⟩ : ∃ w2, (w1.alloc (.cells #[.int .i64 bs, .int .i64 lm, .slice A2 N2 cap2] 43)) = w2 := ⟨_, rfl⟩
  rw [hw2] at k0 k1 k2 k3 hs1 hmd4 hM2 ⊢
  have hz8 : w1.heap.size < w2.heap.size := by rw [← hw2]; simp
  clear hw2 hb1 hgm2
  have k3_0 : w2.cell? ⟨w1.heap.size, 0, none⟩ = some (.int .i64 bs) := by rw [cell_of_block k3]; rfl
  have k3_1 : w2.cell? ⟨w1.heap.size, 1, none⟩ = some (.int .i64 lm) := by rw [cell_of_block k3]; rfl
  have k3_2 : w2.cell? ⟨w1.heap.size, 2, none⟩ = some (.slice A2 N2 cap2) := by rw [cell_of_block k3]; rfl
  go_region_held3 (fun w' => w'.cell? ⟨w1.heap.size, 0, none⟩ = some (.int .i64 bs) ∧ w'.cell? ⟨w1.heap.size, 1, none⟩ = some (.int .i64 lm) ∧ w'.cell? ⟨w1.heap.size, 2, none⟩ = some (.slice A2 N2 cap2)) (first | exact ⟨k3_0, k3_1, k3_2⟩ | go_keep) (first
    | (go_at_call 29; refine (hA _ (show SpAt w2.drew b bs lm ws g from hs1)).mono ?_; rintro e w3 ⟨rfl, g3, hs3, hm3, hg3⟩; have k3_0 := mcell hm3 (show w2.drew.cell? _ = _ from k3_0) (hn0 (w1.heap.size) (by omega)); have k3_1 := mcell hm3 (show w2.drew.cell? _ = _ from k3_1) (hn0 (w1.heap.size) (by omega)); have k3_2 := mcell hm3 (show w2.drew.cell? _ = _ from k3_2) (hn0 (w1.heap.size) (by omega)); have k2' := mblock hm3 (show w2.drew.heap[_]? = _ from k2) (hn0 _ (by omega)); have k2_0 : w3.cell? ⟨w.heap.size + 2, 0, none⟩ = some (.int .i64 0) := (by rw [cell_of_block k2']; rfl); have k2_1 : w3.cell? ⟨w.heap.size + 2, 1, none⟩ = some (.int .i64 0) := (by rw [cell_of_block k2']; rfl); have k2_2 : w3.cell? ⟨w.heap.size + 2, 2, none⟩ = some (.slice none 0 0) := (by rw [cell_of_block k2']; rfl); have k2_f : ∀ i, w3.frozen? ⟨w.heap.size + 2, i, none⟩ = false := frozen_of_block k2'))
  have hm3d : Mods (SpS b g) w2 w3 := ⟨hm3.os, hm3.tape, hm3.output, hm3.size, hm3.block⟩
  have hz9 : w2.heap.size ≤ w3.heap.size := hm3d.size
  have hmd5 := hmd4.mods hm3d (fun G e => by
    rcases hgm3 G e with h | h
    · exact hap G h
    · exact hn0 G (by omega))
  have hMf : Mods (SpS b g) w w3 := (Mods.narrow hM2).trans hm3d (fun i hi => .inl hi)
  have hg4 : ∀ G, g3 = some G → g = some G ∨ w2.heap.size ≤ G := hg3
  have h33 : ∀ G, g3 = some G → gm2 = some G → gm = some G ∧ g = some G := fun G e1 e2 => by
    rcases hgm3 G e2 with h | h
    · rcases hg4 G e1 with h' | h'
      · exact ⟨h, h'⟩
      · have := hml G h; omega
    · rcases hg4 G e1 with h' | h'
      · have := hgl G h'; omega
      · have := hml2 G e2; omega
  have hg5 : ∀ G, g3 = some G → g = some G ∨ w.heap.size + 3 ≤ G := fun G e => (hg4 G e).imp id (fun h => by omega)
  have hz10 : w.heap.size + 2 < w3.heap.size := by omega
  clear hm3 hm3d hg3 hg4 k2' k0 k1 k2 k3 hM2 hmd4 hs1 hA
  go_wp2
  exact bodyPost_ret (v := .tuple #[.agg #[.int .i64 bs, .int .i64 lm, .slice A2 N2 cap2], .bool true]) (by simp [results, Try.results17, go_sem, hz10, k2_0, k2_1, k2_2]) rfl (StepPost.mk (w3 := w3) hs3 hmd5 hk2 hMf (by (repeat (first | exact Mods.refl _ _ | assumption | refine Mods.drew ?_ | refine Mods.drewN ?_ _ | refine Mods.alloc ?_ _ | refine Mods.setCell ?_ (by first | (left; simp; done) | (left; simp; omega) | (right; simp; done) | (right; simp; omega)) _ | refine Mods.chain (by assumption) ?_))) hbl hgl hml hap hg5 hgm3 h33)
end Go.Proofs.Ytafailcjdkmdhaa
