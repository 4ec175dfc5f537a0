/-
  A memory that is written; object.Store, SetField, write.
-/
import Derived.Test.YtcmhgjkijegpnaaObD
namespace Go.Proofs.Ytcmhgjkijegpnaa
open Go.RowKit
set_option linter.unusedSimpArgs false
set_option linter.unusedVariables false

/-- The blocks of a memory. -/
def MS (bO bY : Nat) (gO gY : Option Nat) : Nat → Prop := fun k => SpS bO gO k ∨ SpS bY gY k
theorem MemAt.fresh {w : World} {bO bY : Nat} {lo ly : Int} {wo wy : List Int} {gO gY : Option Nat} (hm : MemAt w bO bY lo ly wo wy gO gY) : ∀ k, w.heap.size ≤ k → ¬ MS bO bY gO gY k := by
  intro k hk
  have h1 := hm.old.lt
  have h2 := hm.yng.lt
  have h3 := hm.old.glt
  have h4 := hm.yng.glt
  rintro ((h | h) | (h | h))
  · omega
  · have := h3 _ h; omega
  · omega
  · have := h4 _ h; omega
theorem MemAt.mods {S : Nat → Prop} {w : World} {bO bY : Nat} {lo ly : Int} {wo wy : List Int} {gO gY : Option Nat} (hm : MemAt w bO bY lo ly wo wy gO gY) {w' : World} (hM : Mods S w w') (hS : ∀ k, MS bO bY gO gY k → ¬ S k) : MemAt w' bO bY lo ly wo wy gO gY :=
  ⟨hm.old.mods hM (hS _ (.inl (.inl rfl))) (fun G e => hS _ (.inl (.inr e))), hm.yng.mods hM (hS _ (.inr (.inl rfl))) (fun G e => hS _ (.inr (.inr e))), hm.okO, hm.okY, hm.lim, hm.bb, hm.gb, hm.bg, hm.gg⟩
/-- Store leaves the row where it is. -/
theorem store_keep {w : World} {b : Nat} {bs lm : Int} {ws : List Int} {g : Option Nat} (h : SpAt w b bs lm ws g) (hk : SpOk bs lm ws) (x u : Int) :
    Calls Try.prog 63 #[.pointer (some ⟨b, 0, none⟩), .int .i64 x, .int .u64 u] w fun e w' => e = .returned (.int .i64 (ioE bs ws x)) ∧ SpAt w' b bs lm (stW bs ws x u) g ∧ Mods (SpS b g) w w' := by
  unfold stW ioE
  cases hx : inB bs ws.length x
  · refine (store_no h hk x u hx).mono ?_
    rintro e w' ⟨rfl, hb⟩
    exact ⟨rfl, h.below hb, Mods.of_below hb⟩
  · obtain ⟨h0, h1⟩ := inB_iff.1 hx
    obtain ⟨i, rfl⟩ : ∃ i : Nat, x = bs + (i : Int) := ⟨(x - bs).toNat, by omega⟩
    rw [show (bs + (i : Int) - bs).toNat = i by omega]
    refine (store_yes h hk i (by omega) u).mono ?_
    rintro e w' ⟨rfl, h1, h2⟩
    exact ⟨rfl, h1, h2.mono (fun k hk => .inr hk)⟩
def stO (wo : List Int) (a u : Int) : List Int := if 16777216 ≤ a then wo else stW 0 wo a u
def stY (wy : List Int) (a u : Int) : List Int := if 16777216 ≤ a then stW 16777216 wy a u else wy
theorem stO_len {wo : List Int} {a u : Int} : (stO wo a u).length = wo.length := by unfold stO; split; rfl; exact stLen
theorem stY_len {wy : List Int} {a u : Int} : (stY wy a u).length = wy.length := by unfold stY; split; exact stLen; rfl
theorem mem_old {w : World} {bO bY : Nat} {lo ly : Int} {wo wy : List Int} {gO gY : Option Nat} (hm : MemAt w bO bY lo ly wo wy gO gY) {w' : World} {wo' : List Int} (hs : SpAt w' bO 0 lo wo' gO) (hk : SpOk 0 lo wo') (hM : Mods (SpS bO gO) w w') : MemAt w' bO bY lo ly wo' wy gO gY :=
  ⟨hs, hm.yng.mods hM (not_sps (Ne.symm hm.bb) (fun G e => fun h => hm.gb (by rw [e, h]))) (fun G e => not_sps (fun h => hm.bg (by rw [e, h])) (fun G' e' h => hm.gg G' e' (by rw [e, h]))), hk, hm.okY, hm.lim, hm.bb, hm.gb, hm.bg, hm.gg⟩
theorem mem_yng {w : World} {bO bY : Nat} {lo ly : Int} {wo wy : List Int} {gO gY : Option Nat} (hm : MemAt w bO bY lo ly wo wy gO gY) {w' : World} {wy' : List Int} (hs : SpAt w' bY 16777216 ly wy' gY) (hk : SpOk 16777216 ly wy') (hM : Mods (SpS bY gY) w w') : MemAt w' bO bY lo ly wo wy' gO gY :=
  ⟨hm.old.mods hM (not_sps hm.bb (fun G e => fun h => hm.bg (by rw [e, h]))) (fun G e => not_sps (fun h => hm.gb (by rw [e, h])) (fun G' e' h => hm.gg G e (by rw [e', h]))), hs, hm.okO, hk, hm.lim, hm.bb, hm.gb, hm.bg, hm.gg⟩
theorem mem_store {w : World} {bO bY : Nat} {lo ly : Int} {wo wy : List Int} {gO gY : Option Nat} (hm : MemAt w bO bY lo ly wo wy gO gY) (a u : Int) (hu : U64 u) : Calls Try.prog 63 #[.pointer (some ⟨bpA bO bY a, 0, none⟩), .int .i64 a, .int .u64 u] w fun e w' => e = .returned (.int .i64 (LE wo wy a)) ∧ MemAt w' bO bY lo ly (stO wo a u) (stY wy a u) gO gY ∧ Mods (MS bO bY gO gY) w w' := by
  unfold bpA LE bsA wsA stO stY
  by_cases h : 16777216 ≤ a
  · simp only [if_pos h]
    refine (store_keep hm.yng hm.okY a u).mono ?_
    rintro e w' ⟨rfl, hs, hM⟩
    exact ⟨rfl, mem_yng hm hs (stOk hm.okY a hu) hM, hM.mono (fun k hk => .inr hk)⟩
  · simp only [if_neg h]
    refine (store_keep hm.old hm.okO a u).mono ?_
    rintro e w' ⟨rfl, hs, hM⟩
    exact ⟨rfl, mem_old hm hs (stOk hm.okO a hu) hM, hM.mono (fun k hk => .inl hk)⟩
set_option maxRecDepth 100000 in
set_option maxHeartbeats 1000000 in
theorem mstore_any {w : World} {bO bY : Nat} {lo ly : Int} {wo wy : List Int} {gO gY : Option Nat} (hm : MemAt w bO bY lo ly wo wy gO gY) (a u : Int) (hu : U64 u) :
    Calls Try.prog 27 #[.agg #[.pointer (some ⟨bO, 0, none⟩), .pointer (some ⟨bY, 0, none⟩)], .int .i64 a, .int .u64 u] w fun e w' => e = .returned (.int .i64 (LE wo wy a)) ∧ MemAt w' bO bY lo ly (stO wo a u) (stY wy a u) gO gY ∧ Mods (MS bO bY gO gY) w w' := by
  have hS := fun (W : World) (H : MemAt W bO bY lo ly wo wy gO gY) => mem_store H a u hu
  generalize LE wo wy a = er at *
  generalize stO wo a u = wo2 at *
  generalize stY wy a u = wy2 at *
  clear hu
  have hM0 : Mods (MS bO bY gO gY) w w := Mods.refl _ _
  have hm0 := hm
  have hn0 := hm.fresh
  go_enter Try.func27, Try.ntmps27
  go_wp2_with fail
  refine (part_any _ _ _ _).mono ?_
  rintro e w1 ⟨rfl, hb1⟩
  have hB1 : Below w.heap.size w w1 := by (repeat (first | exact Below.refl _ _ | assumption | refine Below.drew ?_ | refine below_drewN ?_ _ | refine balloc ?_ _ | refine Below.setCell ?_ (by first | (simp; done) | (simp; omega) | omega) _ | refine bchain (by assumption) ?_))
  have k0 : w1.heap[w.heap.size]? = some (.cells #[.pointer (some ⟨bO, 0, none⟩), .pointer (some ⟨bY, 0, none⟩)] 29 (0, 0)) := bblock hb1 (by repeat (first | exact alloc_at _ (by simp) | refine alloc_lt _ ?_))
  have hM1 := Mods.chain hB1 hM0
  have hm1 := hm0.below hB1
  have hs1 : w.heap.size ≤ w1.heap.size := hM1.size
  have hz_k0 : w.heap.size < w1.heap.size := (Array.getElem?_eq_some_iff.1 k0).1
  clear hB1 hm0 hM0 hb1
  have k0_0 : w1.cell? ⟨w.heap.size, 0, none⟩ = some (.pointer (some ⟨bO, 0, none⟩)) := by rw [cell_of_block k0]; rfl
  have k0_1 : w1.cell? ⟨w.heap.size, 1, none⟩ = some (.pointer (some ⟨bY, 0, none⟩)) := by rw [cell_of_block k0]; rfl
  go_wp2_with fail
  refine (hS _ (hm1.below (by (repeat (first | exact Below.refl _ _ | assumption | refine Below.drew ?_ | refine below_drewN ?_ _ | refine balloc ?_ _ | refine Below.setCell ?_ (by first | (simp; done) | (simp; omega) | omega) _ | refine bchain (by assumption) ?_))))).mono ?_
  rintro e w2 ⟨rfl, hm2, hX2⟩
  have k0 := mblock hX2 (bblock (show Below w1.heap.size w1 _ from by (repeat (first | exact Below.refl _ _ | assumption | refine Below.drew ?_ | refine below_drewN ?_ _ | refine balloc ?_ _ | refine Below.setCell ?_ (by first | (simp; done) | (simp; omega) | omega) _ | refine bchain (by assumption) ?_))) k0) (hn0 _ (by omega))
  have hM2 := (Mods.chain (show Below w1.heap.size w1 _ from by (repeat (first | exact Below.refl _ _ | assumption | refine Below.drew ?_ | refine below_drewN ?_ _ | refine balloc ?_ _ | refine Below.setCell ?_ (by first | (simp; done) | (simp; omega) | omega) _ | refine bchain (by assumption) ?_))) hM1).trans hX2 (fun i hi => .inl hi)
  have hs2 : w.heap.size ≤ w2.heap.size := hM2.size
  clear hz_k0
  have hz_k0 : w.heap.size < w2.heap.size := (Array.getElem?_eq_some_iff.1 k0).1
  clear hm1 hM1 hX2
  clear k0_0 k0_1
  have k0_0 : w2.cell? ⟨w.heap.size, 0, none⟩ = some (.pointer (some ⟨bO, 0, none⟩)) := by rw [cell_of_block k0]; rfl
  have k0_1 : w2.cell? ⟨w.heap.size, 1, none⟩ = some (.pointer (some ⟨bY, 0, none⟩)) := by rw [cell_of_block k0]; rfl
  go_wp2
  go_ret
  exact ⟨rfl, hm2.below (by (repeat (first | exact Below.refl _ _ | assumption | refine Below.drew ?_ | refine below_drewN ?_ _ | refine balloc ?_ _ | refine Below.setCell ?_ (by first | (simp; done) | (simp; omega) | omega) _ | refine bchain (by assumption) ?_))), Mods.chain (show Below w2.heap.size w2 _ from by (repeat (first | exact Below.refl _ _ | assumption | refine Below.drew ?_ | refine below_drewN ?_ _ | refine balloc ?_ _ | refine Below.setCell ?_ (by first | (simp; done) | (simp; omega) | omega) _ | refine bchain (by assumption) ?_))) hM2⟩
def sfE (wo wy : List Int) (a i : Int) : Int := if fdE wo wy a i = 0 then LE wo wy (fdA wo wy a i) else fdE wo wy a i
def sfO (wo wy : List Int) (a i u : Int) : List Int := if fdE wo wy a i = 0 then stO wo (fdA wo wy a i) u else wo
def sfY (wo wy : List Int) (a i u : Int) : List Int := if fdE wo wy a i = 0 then stY wy (fdA wo wy a i) u else wy
set_option maxRecDepth 100000 in
set_option maxHeartbeats 1000000 in
theorem msetf_no {w : World} {bO bY : Nat} {lo ly : Int} {wo wy : List Int} {gO gY : Option Nat} (hm : MemAt w bO bY lo ly wo wy gO gY) (a i u : Int) (he : fdE wo wy a i ≠ 0) :
    Calls Try.prog 24 #[.agg #[.pointer (some ⟨bO, 0, none⟩), .pointer (some ⟨bY, 0, none⟩)], .int .i64 a, .int .i64 i, .int .u64 u] w fun e w' => e = .returned (.int .i64 (fdE wo wy a i)) ∧ MemAt w' bO bY lo ly (wo) (wy) gO gY ∧ Mods (MS bO bY gO gY) w w' := by
  have hH := fun (W : World) (H : MemAt W bO bY lo ly wo wy gO gY) => field_any H a i
  generalize fdE wo wy a i = er at *
  generalize fdA wo wy a i = x at *
  have hb1 : (er != 0) = true := by simpa using he
  clear he
  have hM0 : Mods (MS bO bY gO gY) w w := Mods.refl _ _
  have hm0 := hm
  have hn0 := hm.fresh
  go_enter Try.func24, Try.ntmps24
  go_wp2_with fail
  refine (hH _ (hm0.below (by (repeat (first | exact Below.refl _ _ | assumption | refine Below.drew ?_ | refine below_drewN ?_ _ | refine balloc ?_ _ | refine Below.setCell ?_ (by first | (simp; done) | (simp; omega) | omega) _ | refine bchain (by assumption) ?_))))).mono ?_
  rintro e w1 ⟨rfl, hb1⟩
  have hB1 : Below w.heap.size w w1 := by (repeat (first | exact Below.refl _ _ | assumption | refine Below.drew ?_ | refine below_drewN ?_ _ | refine balloc ?_ _ | refine Below.setCell ?_ (by first | (simp; done) | (simp; omega) | omega) _ | refine bchain (by assumption) ?_))
  have k0 : w1.heap[w.heap.size]? = some (.cells #[.pointer (some ⟨bO, 0, none⟩), .pointer (some ⟨bY, 0, none⟩)] 29 (0, 0)) := bblock hb1 (by repeat (first | exact alloc_at _ (by simp) | refine alloc_lt _ ?_))
  have hM1 := Mods.chain hB1 hM0
  have hm1 := hm0.below hB1
  have hs1 : w.heap.size ≤ w1.heap.size := hM1.size
  have hz_k0 : w.heap.size < w1.heap.size := (Array.getElem?_eq_some_iff.1 k0).1
  clear hB1 hm0 hM0 hb1
  have k0_0 : w1.cell? ⟨w.heap.size, 0, none⟩ = some (.pointer (some ⟨bO, 0, none⟩)) := by rw [cell_of_block k0]; rfl
  have k0_1 : w1.cell? ⟨w.heap.size, 1, none⟩ = some (.pointer (some ⟨bY, 0, none⟩)) := by rw [cell_of_block k0]; rfl
  go_wp2
  go_ret
  exact ⟨rfl, hm1.below (by (repeat (first | exact Below.refl _ _ | assumption | refine Below.drew ?_ | refine below_drewN ?_ _ | refine balloc ?_ _ | refine Below.setCell ?_ (by first | (simp; done) | (simp; omega) | omega) _ | refine bchain (by assumption) ?_))), Mods.chain (show Below w1.heap.size w1 _ from by (repeat (first | exact Below.refl _ _ | assumption | refine Below.drew ?_ | refine below_drewN ?_ _ | refine balloc ?_ _ | refine Below.setCell ?_ (by first | (simp; done) | (simp; omega) | omega) _ | refine bchain (by assumption) ?_))) hM1⟩
set_option maxRecDepth 100000 in
set_option maxHeartbeats 1000000 in
theorem msetf_yes {w : World} {bO bY : Nat} {lo ly : Int} {wo wy : List Int} {gO gY : Option Nat} (hm : MemAt w bO bY lo ly wo wy gO gY) (a i u : Int) (hu : U64 u) (he : fdE wo wy a i = 0) :
    Calls Try.prog 24 #[.agg #[.pointer (some ⟨bO, 0, none⟩), .pointer (some ⟨bY, 0, none⟩)], .int .i64 a, .int .i64 i, .int .u64 u] w fun e w' => e = .returned (.int .i64 (LE wo wy (fdA wo wy a i))) ∧ MemAt w' bO bY lo ly (stO wo (fdA wo wy a i) u) (stY wy (fdA wo wy a i) u) gO gY ∧ Mods (MS bO bY gO gY) w w' := by
  have hH := fun (W : World) (H : MemAt W bO bY lo ly wo wy gO gY) => field_any H a i
  have hS := fun (W : World) (H : MemAt W bO bY lo ly wo wy gO gY) (c : Int) => mstore_any H c u hu
  rw [he] at hH
  generalize fdA wo wy a i = x at *
  have hS := fun W H => hS W H x
  generalize LE wo wy x = er at *
  generalize stO wo x u = wo2 at *
  generalize stY wy x u = wy2 at *
  clear he hu
  have hM0 : Mods (MS bO bY gO gY) w w := Mods.refl _ _
  have hm0 := hm
  have hn0 := hm.fresh
  go_enter Try.func24, Try.ntmps24
  go_wp2_with fail
  refine (hH _ (hm0.below (by (repeat (first | exact Below.refl _ _ | assumption | refine Below.drew ?_ | refine below_drewN ?_ _ | refine balloc ?_ _ | refine Below.setCell ?_ (by first | (simp; done) | (simp; omega) | omega) _ | refine bchain (by assumption) ?_))))).mono ?_
  rintro e w1 ⟨rfl, hb1⟩
  have hB1 : Below w.heap.size w w1 := by (repeat (first | exact Below.refl _ _ | assumption | refine Below.drew ?_ | refine below_drewN ?_ _ | refine balloc ?_ _ | refine Below.setCell ?_ (by first | (simp; done) | (simp; omega) | omega) _ | refine bchain (by assumption) ?_))
  have k0 : w1.heap[w.heap.size]? = some (.cells #[.pointer (some ⟨bO, 0, none⟩), .pointer (some ⟨bY, 0, none⟩)] 29 (0, 0)) := bblock hb1 (by repeat (first | exact alloc_at _ (by simp) | refine alloc_lt _ ?_))
  have hM1 := Mods.chain hB1 hM0
  have hm1 := hm0.below hB1
  have hs1 : w.heap.size ≤ w1.heap.size := hM1.size
  have hz_k0 : w.heap.size < w1.heap.size := (Array.getElem?_eq_some_iff.1 k0).1
  clear hB1 hm0 hM0 hb1
  have k0_0 : w1.cell? ⟨w.heap.size, 0, none⟩ = some (.pointer (some ⟨bO, 0, none⟩)) := by rw [cell_of_block k0]; rfl
  have k0_1 : w1.cell? ⟨w.heap.size, 1, none⟩ = some (.pointer (some ⟨bY, 0, none⟩)) := by rw [cell_of_block k0]; rfl
  go_wp2_with fail
  refine (hS _ (hm1.below (by (repeat (first | exact Below.refl _ _ | assumption | refine Below.drew ?_ | refine below_drewN ?_ _ | refine balloc ?_ _ | refine Below.setCell ?_ (by first | (simp; done) | (simp; omega) | omega) _ | refine bchain (by assumption) ?_))))).mono ?_
  rintro e w2 ⟨rfl, hm2, hX2⟩
  have k0 := mblock hX2 (bblock (show Below w1.heap.size w1 _ from by (repeat (first | exact Below.refl _ _ | assumption | refine Below.drew ?_ | refine below_drewN ?_ _ | refine balloc ?_ _ | refine Below.setCell ?_ (by first | (simp; done) | (simp; omega) | omega) _ | refine bchain (by assumption) ?_))) k0) (hn0 _ (by omega))
  have hM2 := (Mods.chain (show Below w1.heap.size w1 _ from by (repeat (first | exact Below.refl _ _ | assumption | refine Below.drew ?_ | refine below_drewN ?_ _ | refine balloc ?_ _ | refine Below.setCell ?_ (by first | (simp; done) | (simp; omega) | omega) _ | refine bchain (by assumption) ?_))) hM1).trans hX2 (fun i hi => .inl hi)
  have hs2 : w.heap.size ≤ w2.heap.size := hM2.size
  clear hz_k0
  have hz_k0 : w.heap.size < w2.heap.size := (Array.getElem?_eq_some_iff.1 k0).1
  clear hm1 hM1 hX2
  clear k0_0 k0_1
  have k0_0 : w2.cell? ⟨w.heap.size, 0, none⟩ = some (.pointer (some ⟨bO, 0, none⟩)) := by rw [cell_of_block k0]; rfl
  have k0_1 : w2.cell? ⟨w.heap.size, 1, none⟩ = some (.pointer (some ⟨bY, 0, none⟩)) := by rw [cell_of_block k0]; rfl
  go_wp2
  go_ret
  exact ⟨rfl, hm2.below (by (repeat (first | exact Below.refl _ _ | assumption | refine Below.drew ?_ | refine below_drewN ?_ _ | refine balloc ?_ _ | refine Below.setCell ?_ (by first | (simp; done) | (simp; omega) | omega) _ | refine bchain (by assumption) ?_))), Mods.chain (show Below w2.heap.size w2 _ from by (repeat (first | exact Below.refl _ _ | assumption | refine Below.drew ?_ | refine below_drewN ?_ _ | refine balloc ?_ _ | refine Below.setCell ?_ (by first | (simp; done) | (simp; omega) | omega) _ | refine bchain (by assumption) ?_))) hM2⟩
theorem msetf_any {w : World} {bO bY : Nat} {lo ly : Int} {wo wy : List Int} {gO gY : Option Nat} (hm : MemAt w bO bY lo ly wo wy gO gY) (a i u : Int) (hu : U64 u) : Calls Try.prog 24 #[.agg #[.pointer (some ⟨bO, 0, none⟩), .pointer (some ⟨bY, 0, none⟩)], .int .i64 a, .int .i64 i, .int .u64 u] w fun e w' => e = .returned (.int .i64 (sfE wo wy a i)) ∧ MemAt w' bO bY lo ly (sfO wo wy a i u) (sfY wo wy a i u) gO gY ∧ Mods (MS bO bY gO gY) w w' := by
  unfold sfE sfO sfY
  by_cases he : fdE wo wy a i = 0
  · simp only [if_pos he]
    exact msetf_yes hm a i u hu he
  · simp only [if_neg he]
    exact msetf_no hm a i u he
/-- The payload of write. -/
def PayAt (w : World) (G : Nat) (pl : List Int) : Prop := ∀ i x, pl[i]? = some x → w.cell? ⟨G, i, none⟩ = some (.int .u64 x)
/-- The words of write, after i fields. -/
def wrS (m : List Int × List Int) (a : Int) (pl : List Int) : Nat → List Int × List Int
  | 0 => m
  | j + 1 => (stO (wrS m a pl j).1 (a + 2 + (j : Int)) (pl.getD j 0), stY (wrS m a pl j).2 (a + 2 + (j : Int)) (pl.getD j 0))
def wrH (wo wy : List Int) (a k : Int) : Int := encI k (HC wo wy a) (HF wo wy a)
def wrM (wo wy : List Int) (a k : Int) (pl : List Int) : List Int × List Int := wrS (stO wo a (wrH wo wy a k), stY wy a (wrH wo wy a k)) a pl (wordsI (HF wo wy a) - 2).toNat
theorem hd_word {wo wy : List Int} {a : Int} (h : HE wo wy a = 0) : decB (LD wo wy a) = true ∧ HK wo wy a = decK (LD wo wy a) ∧ HC wo wy a = decC (LD wo wy a) ∧ HF wo wy a = decF (LD wo wy a) ∧ hvB (HK wo wy a) (HC wo wy a) (HF wo wy a) = true := by
  obtain ⟨h1, h2, h3, _⟩ := hd_bd h
  obtain ⟨e1, e2, e3, e4⟩ := hd_ok h1 h2
  obtain ⟨k0, k1, k2, k3⟩ := obB_iff.1 h2
  unfold LD
  rw [ld_in h1]
  exact ⟨k1, e2, e3, e4, h3⟩

set_option maxRecDepth 100000 in
set_option maxHeartbeats 2000000 in
theorem write_any {w : World} {bO bY : Nat} {lo ly : Int} {wo wy : List Int} {gO gY : Option Nat} (hm : MemAt w bO bY lo ly wo wy gO gY) (a k : Int) (hkk : k = 3 ∨ k = 4) (G c : Nat) (pl : List Int) (hpl : PayAt w G pl) (hplu : ∀ x ∈ pl, U64 x) (hG : ¬ MS bO bY gO gY G) (hpc : pl.length ≤ c) (hc63 : c ≤ 9223372036854775807) (he : HE wo wy a = 0) :
    Calls Try.prog 55 #[.agg #[.pointer (some ⟨bO, 0, none⟩), .pointer (some ⟨bY, 0, none⟩)], .int .i64 a, .int .i64 k, .slice (some ⟨G, 0, none⟩) pl.length c] w fun e w' => e = .returned (.tuple #[]) ∧ MemAt w' bO bY lo ly (wrM wo wy a k pl).1 (wrM wo wy a k pl).2 gO gY ∧ Mods (MS bO bY gO gY) w w' := by
  have hH := fun (W : World) (H : MemAt W bO bY lo ly wo wy gO gY) => mhdr_any H a
  have hL := fun (W : World) (H : MemAt W bO bY lo ly wo wy gO gY) => mload_any H a
  obtain ⟨g1, g2, g3, g4, g5⟩ := hd_word he
  have hCh := fun W => change_yes (LD wo wy a) k (hm.ldU a) g1 hkk W
  rw [← g3, ← g4] at hCh
  have hW := fun W => words_yes _ _ _ g5 W
  have hbd := HE_bd he
  have hk1 := (hm.partOk a).b0
  have hk2 := (hm.partOk a).top
  have hk3 := (hm.partOk a).lm1
  obtain ⟨x0, x1, x2⟩ := wordsI_bd g5
  have ha : 0 ≤ a ∧ a ≤ 1099511627776 := by omega
  have hhu : U64 (encI k (HC wo wy a) (HF wo wy a)) := by
    have := encI_bd (k := k) (c := HC wo wy a) (f := HF wo wy a) (by rw [g3, g4]; exact hvB_change g1 hkk)
    exact U64.of (by omega) (by omega)
  rw [he] at hH
  unfold wrM wrH
  obtain ⟨sz, hsz⟩ : ∃ sz : Nat, wordsI (HF wo wy a) = ((sz + 2 : Nat) : Int) := ⟨(wordsI (HF wo wy a) - 2).toNat, by omega⟩
  rw [hsz] at hW x0 x1 ⊢
  rw [show ((sz + 2 : Nat) : Int) - 2 = (sz : Int) by omega, Int.toNat_natCast]
  generalize hhd : encI k (HC wo wy a) (HF wo wy a) = hd at *
  generalize LD wo wy a = x at *
  generalize LE wo wy a = y at *
  generalize HK wo wy a = hk at *
  generalize HC wo wy a = hc at *
  generalize HF wo wy a = hf at *
  clear he g1 g2 g3 g4 g5 hbd hk1 hk2 hk3 x2 hsz hhd hkk
  have hSt := fun (W : World) (H : MemAt W bO bY lo ly wo wy gO gY) => mstore_any H a hd hhu
  obtain ⟨m0, hm0'⟩ : ∃ m0, (stO wo a hd, stY wy a hd) = m0 := ⟨_, rfl⟩
  have e1 : stO wo a hd = m0.1 := by rw [← hm0']
  have e2 : stY wy a hd = m0.2 := by rw [← hm0']
  rw [e1, e2] at hSt
  rw [hm0']
  clear e1 e2 hm0' hhu
  have hpg : ∀ i, U64 (pl.getD i 0) := getD_u64 hplu
  have hwl : ∀ j, (U64 (pl.getD j 0)) := hpg
  clear hplu hwl
  have hpm : ∀ W, Mods (MS bO bY gO gY) w W → PayAt W G pl := fun W hM i x hx => mcell hM (hpl i x hx) hG
  clear hpl hG
  have hM0 : Mods (MS bO bY gO gY) w w := Mods.refl _ _
  have hm0 := hm
  have hn0 := hm.fresh
  go_enter Try.func55, Try.ntmps55
  go_wp2_with fail
  refine (hH _ (hm0.below (by (repeat (first | exact Below.refl _ _ | assumption | refine Below.drew ?_ | refine below_drewN ?_ _ | refine balloc ?_ _ | refine Below.setCell ?_ (by first | (simp; done) | (simp; omega) | omega) _ | refine bchain (by assumption) ?_))))).mono ?_
  rintro e w1 ⟨rfl, hb1⟩
  have hB1 : Below w.heap.size w w1 := by (repeat (first | exact Below.refl _ _ | assumption | refine Below.drew ?_ | refine below_drewN ?_ _ | refine balloc ?_ _ | refine Below.setCell ?_ (by first | (simp; done) | (simp; omega) | omega) _ | refine bchain (by assumption) ?_))
  have k0 : w1.heap[w.heap.size]? = some (.cells #[.pointer (some ⟨bO, 0, none⟩), .pointer (some ⟨bY, 0, none⟩)] 29 (0, 0)) := bblock hb1 (by repeat (first | exact alloc_at _ (by simp) | refine alloc_lt _ ?_))
  have hM1 := Mods.chain hB1 hM0
  have hm1 := hm0.below hB1
  have hs1 : w.heap.size ≤ w1.heap.size := hM1.size
  have hz_k0 : w.heap.size < w1.heap.size := (Array.getElem?_eq_some_iff.1 k0).1
  clear hB1 hm0 hM0 hb1
  have k0_0 : w1.cell? ⟨w.heap.size, 0, none⟩ = some (.pointer (some ⟨bO, 0, none⟩)) := by rw [cell_of_block k0]; rfl
  have k0_1 : w1.cell? ⟨w.heap.size, 1, none⟩ = some (.pointer (some ⟨bY, 0, none⟩)) := by rw [cell_of_block k0]; rfl
  go_wp2_with fail
  refine (hL _ (hm1.below (by (repeat (first | exact Below.refl _ _ | assumption | refine Below.drew ?_ | refine below_drewN ?_ _ | refine balloc ?_ _ | refine Below.setCell ?_ (by first | (simp; done) | (simp; omega) | omega) _ | refine bchain (by assumption) ?_))))).mono ?_
  rintro e w2 ⟨rfl, hb2⟩
  have hB2 : Below w1.heap.size w1 w2 := by (repeat (first | exact Below.refl _ _ | assumption | refine Below.drew ?_ | refine below_drewN ?_ _ | refine balloc ?_ _ | refine Below.setCell ?_ (by first | (simp; done) | (simp; omega) | omega) _ | refine bchain (by assumption) ?_))
  have k0 := bblock hB2 k0
  have t : w2.heap[w1.heap.size]? = some (.cells #[.int .i64 hk, .int .i64 hc, .int .i64 hf] 23 (0, 0)) := bblock hb2 (by repeat (first | exact alloc_at _ (by simp) | refine alloc_lt _ ?_))
  have hM2 := Mods.chain hB2 hM1
  have hm2 := hm1.below hB2
  have hs2 : w.heap.size ≤ w2.heap.size := hM2.size
  clear hz_k0
  have hz_k0 : w.heap.size < w2.heap.size := (Array.getElem?_eq_some_iff.1 k0).1
  have hz_t : w1.heap.size < w2.heap.size := (Array.getElem?_eq_some_iff.1 t).1
  clear hB2 hm1 hM1 hb2
  clear k0_0 k0_1
  have k0_0 : w2.cell? ⟨w.heap.size, 0, none⟩ = some (.pointer (some ⟨bO, 0, none⟩)) := by rw [cell_of_block k0]; rfl
  have k0_1 : w2.cell? ⟨w.heap.size, 1, none⟩ = some (.pointer (some ⟨bY, 0, none⟩)) := by rw [cell_of_block k0]; rfl
  have t_0 : w2.cell? ⟨w1.heap.size, 0, none⟩ = some (.int .i64 hk) := by rw [cell_of_block t]; rfl
  have t_1 : w2.cell? ⟨w1.heap.size, 1, none⟩ = some (.int .i64 hc) := by rw [cell_of_block t]; rfl
  have t_2 : w2.cell? ⟨w1.heap.size, 2, none⟩ = some (.int .i64 hf) := by rw [cell_of_block t]; rfl
  go_wp2_with fail
  refine (hCh _).mono ?_
  rintro e w3 ⟨rfl, hb3⟩
  have hB3 : Below w2.heap.size w2 w3 := by (repeat (first | exact Below.refl _ _ | assumption | refine Below.drew ?_ | refine below_drewN ?_ _ | refine balloc ?_ _ | refine Below.setCell ?_ (by first | (simp; done) | (simp; omega) | omega) _ | refine bchain (by assumption) ?_))
  have k0 := bblock hB3 k0
  have t := bblock hB3 t
  have hM3 := Mods.chain hB3 hM2
  have hm3 := hm2.below hB3
  have hs3 : w.heap.size ≤ w3.heap.size := hM3.size
  clear hz_k0 hz_t
  have hz_k0 : w.heap.size < w3.heap.size := (Array.getElem?_eq_some_iff.1 k0).1
  have hz_t : w1.heap.size < w3.heap.size := (Array.getElem?_eq_some_iff.1 t).1
  clear hB3 hm2 hM2 hb3
  clear k0_0 k0_1 t_0 t_1 t_2
  have k0_0 : w3.cell? ⟨w.heap.size, 0, none⟩ = some (.pointer (some ⟨bO, 0, none⟩)) := by rw [cell_of_block k0]; rfl
  have k0_1 : w3.cell? ⟨w.heap.size, 1, none⟩ = some (.pointer (some ⟨bY, 0, none⟩)) := by rw [cell_of_block k0]; rfl
  have t_0 : w3.cell? ⟨w1.heap.size, 0, none⟩ = some (.int .i64 hk) := by rw [cell_of_block t]; rfl
  have t_1 : w3.cell? ⟨w1.heap.size, 1, none⟩ = some (.int .i64 hc) := by rw [cell_of_block t]; rfl
  have t_2 : w3.cell? ⟨w1.heap.size, 2, none⟩ = some (.int .i64 hf) := by rw [cell_of_block t]; rfl
  go_wp2_with fail
  refine (hSt _ (hm3.below (by (repeat (first | exact Below.refl _ _ | assumption | refine Below.drew ?_ | refine below_drewN ?_ _ | refine balloc ?_ _ | refine Below.setCell ?_ (by first | (simp; done) | (simp; omega) | omega) _ | refine bchain (by assumption) ?_))))).mono ?_
  rintro e w4 ⟨rfl, hm4, hX4⟩
  have k0 := mblock hX4 (bblock (show Below w3.heap.size w3 _ from by (repeat (first | exact Below.refl _ _ | assumption | refine Below.drew ?_ | refine below_drewN ?_ _ | refine balloc ?_ _ | refine Below.setCell ?_ (by first | (simp; done) | (simp; omega) | omega) _ | refine bchain (by assumption) ?_))) k0) (hn0 _ (by omega))
  have t := mblock hX4 (bblock (show Below w3.heap.size w3 _ from by (repeat (first | exact Below.refl _ _ | assumption | refine Below.drew ?_ | refine below_drewN ?_ _ | refine balloc ?_ _ | refine Below.setCell ?_ (by first | (simp; done) | (simp; omega) | omega) _ | refine bchain (by assumption) ?_))) t) (hn0 _ (by omega))
  have hM4 := (Mods.chain (show Below w3.heap.size w3 _ from by (repeat (first | exact Below.refl _ _ | assumption | refine Below.drew ?_ | refine below_drewN ?_ _ | refine balloc ?_ _ | refine Below.setCell ?_ (by first | (simp; done) | (simp; omega) | omega) _ | refine bchain (by assumption) ?_))) hM3).trans hX4 (fun i hi => .inl hi)
  have hs4 : w.heap.size ≤ w4.heap.size := hM4.size
  clear hz_k0 hz_t
  have hz_k0 : w.heap.size < w4.heap.size := (Array.getElem?_eq_some_iff.1 k0).1
  have hz_t : w1.heap.size < w4.heap.size := (Array.getElem?_eq_some_iff.1 t).1
  clear hm3 hM3 hX4
  clear k0_0 k0_1 t_0 t_1 t_2
  have k0_0 : w4.cell? ⟨w.heap.size, 0, none⟩ = some (.pointer (some ⟨bO, 0, none⟩)) := by rw [cell_of_block k0]; rfl
  have k0_1 : w4.cell? ⟨w.heap.size, 1, none⟩ = some (.pointer (some ⟨bY, 0, none⟩)) := by rw [cell_of_block k0]; rfl
  have t_0 : w4.cell? ⟨w1.heap.size, 0, none⟩ = some (.int .i64 hk) := by rw [cell_of_block t]; rfl
  have t_1 : w4.cell? ⟨w1.heap.size, 1, none⟩ = some (.int .i64 hc) := by rw [cell_of_block t]; rfl
  have t_2 : w4.cell? ⟨w1.heap.size, 2, none⟩ = some (.int .i64 hf) := by rw [cell_of_block t]; rfl
  go_wp2_with fail
  refine (hW _).mono ?_
  rintro e w5 ⟨rfl, hb5⟩
  have hB5 : Below w4.heap.size w4 w5 := by (repeat (first | exact Below.refl _ _ | assumption | refine Below.drew ?_ | refine below_drewN ?_ _ | refine balloc ?_ _ | refine Below.setCell ?_ (by first | (simp; done) | (simp; omega) | omega) _ | refine bchain (by assumption) ?_))
  have k0 := bblock hB5 k0
  have t := bblock hB5 t
  have hM5 := Mods.chain hB5 hM4
  have hm5 := hm4.below hB5
  have hs5 : w.heap.size ≤ w5.heap.size := hM5.size
  clear hz_k0 hz_t
  have hz_k0 : w.heap.size < w5.heap.size := (Array.getElem?_eq_some_iff.1 k0).1
  have hz_t : w1.heap.size < w5.heap.size := (Array.getElem?_eq_some_iff.1 t).1
  clear hB5 hm4 hM4 hb5
  clear k0_0 k0_1 t_0 t_1 t_2
  have k0_0 : w5.cell? ⟨w.heap.size, 0, none⟩ = some (.pointer (some ⟨bO, 0, none⟩)) := by rw [cell_of_block k0]; rfl
  have k0_1 : w5.cell? ⟨w.heap.size, 1, none⟩ = some (.pointer (some ⟨bY, 0, none⟩)) := by rw [cell_of_block k0]; rfl
  have t_0 : w5.cell? ⟨w1.heap.size, 0, none⟩ = some (.int .i64 hk) := by rw [cell_of_block t]; rfl
  have t_1 : w5.cell? ⟨w1.heap.size, 1, none⟩ = some (.int .i64 hc) := by rw [cell_of_block t]; rfl
  have t_2 : w5.cell? ⟨w1.heap.size, 2, none⟩ = some (.int .i64 hf) := by rw [cell_of_block t]; rfl
  go_wp2_with fail
  go_loopw [12, 13, 39] (fun _ _ i wr => ∃ j : Nat, j ≤ sz ∧ i = .int .i64 j ∧ MemAt wr bO bY lo ly (wrS m0 a pl j).1 (wrS m0 a pl j).2 gO gY ∧ wr.heap[w.heap.size]? = some (.cells #[.pointer (some ⟨bO, 0, none⟩), .pointer (some ⟨bY, 0, none⟩)] 29 (0, 0)) ∧ Mods (MS bO bY gO gY) w wr) (fun _ _ i _ => sz - (intOf i).toNat)
  case atStart => exact ⟨0, Nat.zero_le _, rfl, hm5, k0, hM5⟩
  case round =>
    obtain ⟨j, hj, rfl, hmr, k0, hMr⟩ := hrel
    clear hm5 hM5 k0_0 k0_1 t_0 t_1 t_2 hz_k0 hz_t t
    have k0_0 : wr.cell? ⟨w.heap.size, 0, none⟩ = some (.pointer (some ⟨bO, 0, none⟩)) := by rw [cell_of_block k0]; rfl
    have k0_1 : wr.cell? ⟨w.heap.size, 1, none⟩ = some (.pointer (some ⟨bY, 0, none⟩)) := by rw [cell_of_block k0]; rfl
    by_cases hlt : j < sz
    · have hpj := hpg j
      have hst := mstore_any hmr (a + 2 + (j : Int)) (pl.getD j 0) hpj
      have s1 : ((j : Int)).toNat = j := by omega
      have hnx : wrS m0 a pl (j + 1) = (stO (wrS m0 a pl j).1 (a + 2 + (j : Int)) (pl.getD j 0), stY (wrS m0 a pl j).2 (a + 2 + (j : Int)) (pl.getD j 0)) := rfl
      have HNX := Lib.hid hnx
      clear hnx
      by_cases hp : j < pl.length
      · have hgd : pl.getD j 0 = pl[j] := by rw [List.getD_eq_getElem?_getD, List.getElem?_eq_getElem hp]; rfl
        have qp := hpm wr hMr j _ (List.getElem?_eq_getElem hp)
        rw [← hgd] at qp
        clear hgd
        generalize hu : pl.getD j 0 = u at *
        clear hu hpm hpg
        go_wp2_with fail
        refine hst.mono ?_
        rintro e w9 ⟨rfl, hm9, hX9⟩
        have k0 := mblock hX9 k0 (hn0 _ (Nat.le_refl _))
        have hM9 := hMr.trans hX9 (fun i hi => .inl hi)
        clear hst hmr
        go_wp2
        go_roundw
        case rel => exact ⟨j + 1, by omega, by go_num, by rw [HNX.out]; exact hm9, k0, hM9⟩
        case measure => simp [intOf]; omega
      · have hz : pl.getD j 0 = 0 := by rw [List.getD_eq_getElem?_getD, List.getElem?_eq_none (by omega)]; rfl
        rw [hz] at HNX hst
        clear hz hpm hpg
        go_wp2_with fail
        refine hst.mono ?_
        rintro e w9 ⟨rfl, hm9, hX9⟩
        have k0 := mblock hX9 k0 (hn0 _ (Nat.le_refl _))
        have hM9 := hMr.trans hX9 (fun i hi => .inl hi)
        clear hst hmr
        go_wp2
        go_roundw
        case rel => exact ⟨j + 1, by omega, by go_num, by rw [HNX.out]; exact hm9, k0, hM9⟩
        case measure => simp [intOf]; omega
    · have hjz : j = sz := by omega
      subst hjz
      clear hpm hpg
      go_wp2
      exact bodyPost_end (v := .tuple #[]) (by simp [results, Try.results55, go_sem]) rfl ⟨rfl, hmr, hMr⟩
end Go.Proofs.Ytcmhgjkijegpnaa
