/-
  A memory that is written; object.Store, SetField, write.
-/
import Derived.Test.YtgjaafcagnkfdaaTE
import Derived.Maps.Views
import Derived.Maps.OwnOps
import Derived.Deep.LoopGhost
namespace Go.Proofs.Ytgjaafcagnkfdaa
open Go.RowKit
set_option linter.unusedSimpArgs false
set_option linter.unusedVariables false

/-- The blocks of a memory. -/
def MS (bO bY : Nat) (gO gY : Option Nat) : Nat → Prop := fun k => SpS bO gO k ∨ SpS bY gY k
theorem MemAt.fresh {w : World} {bO bY : Nat} {lo ly : Int} {wo wy : List Int} {gO gY : Option Nat} (hm : MemAt w bO bY lo ly wo wy gO gY) : ∀ k, w.heap.size ≤ k → ¬ MS bO bY gO gY k := by
  intro k hk
  have h1 := hm.old.lt
  have h2 := hm.yng.lt
  have h3 := hm.old.glt
  have h4 := hm.yng.glt
  rintro ((h | h) | (h | h))
  · omega
  · have := h3 _ h; omega
  · omega
  · have := h4 _ h; omega
theorem MemAt.mods {S : Nat → Prop} {w : World} {bO bY : Nat} {lo ly : Int} {wo wy : List Int} {gO gY : Option Nat} (hm : MemAt w bO bY lo ly wo wy gO gY) {w' : World} (hM : Mods S w w') (hS : ∀ k, MS bO bY gO gY k → ¬ S k) : MemAt w' bO bY lo ly wo wy gO gY :=
  ⟨hm.old.mods hM (hS _ (.inl (.inl rfl))) (fun G e => hS _ (.inl (.inr e))), hm.yng.mods hM (hS _ (.inr (.inl rfl))) (fun G e => hS _ (.inr (.inr e))), hm.okO, hm.okY, hm.lim, hm.bb, hm.gb, hm.bg, hm.gg⟩
/-- Store leaves the row where it is. -/
theorem store_keep {w : World} {b : Nat} {bs lm : Int} {ws : List Int} {g : Option Nat} (h : SpAt w b bs lm ws g) (hk : SpOk bs lm ws) (x u : Int) :
    Calls Try.prog 50 #[.pointer (some ⟨b, 0, none⟩), .int .i64 x, .int .u64 u] w fun e w' => e = .returned (.int .i64 (ioE bs ws x)) ∧ SpAt w' b bs lm (stW bs ws x u) g ∧ Mods (SpS b g) w w' := by
  unfold stW ioE
  cases hx : inB bs ws.length x
  · refine (store_no h hk x u hx).mono ?_
    rintro e w' ⟨rfl, hb⟩
    exact ⟨rfl, h.below hb, Mods.of_below hb⟩
  · obtain ⟨h0, h1⟩ := inB_iff.1 hx
    obtain ⟨i, rfl⟩ : ∃ i : Nat, x = bs + (i : Int) := ⟨(x - bs).toNat, by omega⟩
    rw [show (bs + (i : Int) - bs).toNat = i by omega]
    refine (store_yes h hk i (by omega) u).mono ?_
    rintro e w' ⟨rfl, h1, h2⟩
    exact ⟨rfl, h1, h2.mono (fun k hk => .inr hk)⟩
def stO (wo : List Int) (a u : Int) : List Int := if 16777216 ≤ a then wo else stW 0 wo a u
def stY (wy : List Int) (a u : Int) : List Int := if 16777216 ≤ a then stW 16777216 wy a u else wy
theorem stO_len {wo : List Int} {a u : Int} : (stO wo a u).length = wo.length := by unfold stO; split; rfl; exact stLen
theorem stY_len {wy : List Int} {a u : Int} : (stY wy a u).length = wy.length := by unfold stY; split; exact stLen; rfl
theorem mem_old {w : World} {bO bY : Nat} {lo ly : Int} {wo wy : List Int} {gO gY : Option Nat} (hm : MemAt w bO bY lo ly wo wy gO gY) {w' : World} {wo' : List Int} (hs : SpAt w' bO 0 lo wo' gO) (hk : SpOk 0 lo wo') (hM : Mods (SpS bO gO) w w') : MemAt w' bO bY lo ly wo' wy gO gY :=
  ⟨hs, hm.yng.mods hM (not_sps (Ne.symm hm.bb) (fun G e => fun h => hm.gb (by rw [e, h]))) (fun G e => not_sps (fun h => hm.bg (by rw [e, h])) (fun G' e' h => hm.gg G' e' (by rw [e, h]))), hk, hm.okY, hm.lim, hm.bb, hm.gb, hm.bg, hm.gg⟩
theorem mem_yng {w : World} {bO bY : Nat} {lo ly : Int} {wo wy : List Int} {gO gY : Option Nat} (hm : MemAt w bO bY lo ly wo wy gO gY) {w' : World} {wy' : List Int} (hs : SpAt w' bY 16777216 ly wy' gY) (hk : SpOk 16777216 ly wy') (hM : Mods (SpS bY gY) w w') : MemAt w' bO bY lo ly wo wy' gO gY :=
  ⟨hm.old.mods hM (not_sps hm.bb (fun G e => fun h => hm.bg (by rw [e, h]))) (fun G e => not_sps (fun h => hm.gb (by rw [e, h])) (fun G' e' h => hm.gg G e (by rw [e', h]))), hs, hm.okO, hk, hm.lim, hm.bb, hm.gb, hm.bg, hm.gg⟩
theorem mem_store {w : World} {bO bY : Nat} {lo ly : Int} {wo wy : List Int} {gO gY : Option Nat} (hm : MemAt w bO bY lo ly wo wy gO gY) (a u : Int) (hu : U64 u) : Calls Try.prog 50 #[.pointer (some ⟨bpA bO bY a, 0, none⟩), .int .i64 a, .int .u64 u] w fun e w' => e = .returned (.int .i64 (LE wo wy a)) ∧ MemAt w' bO bY lo ly (stO wo a u) (stY wy a u) gO gY ∧ Mods (MS bO bY gO gY) w w' := by
  unfold bpA LE bsA wsA stO stY
  by_cases h : 16777216 ≤ a
  · simp only [if_pos h]
    refine (store_keep hm.yng hm.okY a u).mono ?_
    rintro e w' ⟨rfl, hs, hM⟩
    exact ⟨rfl, mem_yng hm hs (stOk hm.okY a hu) hM, hM.mono (fun k hk => .inr hk)⟩
  · simp only [if_neg h]
    refine (store_keep hm.old hm.okO a u).mono ?_
    rintro e w' ⟨rfl, hs, hM⟩
    exact ⟨rfl, mem_old hm hs (stOk hm.okO a hu) hM, hM.mono (fun k hk => .inl hk)⟩
set_option maxRecDepth 100000 in
set_option maxHeartbeats 1000000 in
theorem mstore_any {w : World} {bO bY : Nat} {lo ly : Int} {wo wy : List Int} {gO gY : Option Nat} (hm : MemAt w bO bY lo ly wo wy gO gY) (a u : Int) (hu : U64 u) :
    Calls Try.prog 24 #[.agg #[.pointer (some ⟨bO, 0, none⟩), .pointer (some ⟨bY, 0, none⟩)], .int .i64 a, .int .u64 u] w fun e w' => e = .returned (.int .i64 (LE wo wy a)) ∧ MemAt w' bO bY lo ly (stO wo a u) (stY wy a u) gO gY ∧ Mods (MS bO bY gO gY) w w' := by
  have hS := fun (W : World) (H : MemAt W bO bY lo ly wo wy gO gY) => mem_store H a u hu
  generalize LE wo wy a = er at *
  generalize stO wo a u = wo2 at *
  generalize stY wy a u = wy2 at *
  clear hu
  have hM0 : Mods (MS bO bY gO gY) w w := Mods.refl _ _
  have hm0 := hm
  have hn0 := hm.fresh
  go_enter Try.func24, Try.ntmps24
  go_wp2_with fail
  refine (part_any _ _ _ _).mono ?_
  rintro e w1 ⟨rfl, hb1⟩
  have hB1 : Below w.heap.size w w1 := by (repeat (first | exact Below.refl _ _ | assumption | refine Below.drew ?_ | refine below_drewN ?_ _ | refine balloc ?_ _ | refine Below.setCell ?_ (by first | (simp; done) | (simp; omega) | omega) _ | refine bchain (by assumption) ?_))
  have k0 : w1.heap[w.heap.size]? = some (.cells #[.pointer (some ⟨bO, 0, none⟩), .pointer (some ⟨bY, 0, none⟩)] 26 (0, 0)) := bblock hb1 (by repeat (first | exact alloc_at _ (by simp) | refine alloc_lt _ ?_))
  have hM1 := Mods.chain hB1 hM0
  have hm1 := hm0.below hB1
  have hs1 : w.heap.size ≤ w1.heap.size := hM1.size
  have hz_k0 : w.heap.size < w1.heap.size := (Array.getElem?_eq_some_iff.1 k0).1
  clear hB1 hm0 hM0 hb1
  have k0_0 : w1.cell? ⟨w.heap.size, 0, none⟩ = some (.pointer (some ⟨bO, 0, none⟩)) := by rw [cell_of_block k0]; rfl
  have k0_1 : w1.cell? ⟨w.heap.size, 1, none⟩ = some (.pointer (some ⟨bY, 0, none⟩)) := by rw [cell_of_block k0]; rfl
  go_wp2_with fail
  refine (hS _ (hm1.below (by (repeat (first | exact Below.refl _ _ | assumption | refine Below.drew ?_ | refine below_drewN ?_ _ | refine balloc ?_ _ | refine Below.setCell ?_ (by first | (simp; done) | (simp; omega) | omega) _ | refine bchain (by assumption) ?_))))).mono ?_
  rintro e w2 ⟨rfl, hm2, hX2⟩
  have k0 := mblock hX2 (bblock (show Below w1.heap.size w1 _ from by (repeat (first | exact Below.refl _ _ | assumption | refine Below.drew ?_ | refine below_drewN ?_ _ | refine balloc ?_ _ | refine Below.setCell ?_ (by first | (simp; done) | (simp; omega) | omega) _ | refine bchain (by assumption) ?_))) k0) (hn0 _ (by omega))
  have hM2 := (Mods.chain (show Below w1.heap.size w1 _ from by (repeat (first | exact Below.refl _ _ | assumption | refine Below.drew ?_ | refine below_drewN ?_ _ | refine balloc ?_ _ | refine Below.setCell ?_ (by first | (simp; done) | (simp; omega) | omega) _ | refine bchain (by assumption) ?_))) hM1).trans hX2 (fun i hi => .inl hi)
  have hs2 : w.heap.size ≤ w2.heap.size := hM2.size
  clear hz_k0
  have hz_k0 : w.heap.size < w2.heap.size := (Array.getElem?_eq_some_iff.1 k0).1
  clear hm1 hM1 hX2
  clear k0_0 k0_1
  have k0_0 : w2.cell? ⟨w.heap.size, 0, none⟩ = some (.pointer (some ⟨bO, 0, none⟩)) := by rw [cell_of_block k0]; rfl
  have k0_1 : w2.cell? ⟨w.heap.size, 1, none⟩ = some (.pointer (some ⟨bY, 0, none⟩)) := by rw [cell_of_block k0]; rfl
  go_wp2
  go_ret
  exact ⟨rfl, hm2.below (by (repeat (first | exact Below.refl _ _ | assumption | refine Below.drew ?_ | refine below_drewN ?_ _ | refine balloc ?_ _ | refine Below.setCell ?_ (by first | (simp; done) | (simp; omega) | omega) _ | refine bchain (by assumption) ?_))), Mods.chain (show Below w2.heap.size w2 _ from by (repeat (first | exact Below.refl _ _ | assumption | refine Below.drew ?_ | refine below_drewN ?_ _ | refine balloc ?_ _ | refine Below.setCell ?_ (by first | (simp; done) | (simp; omega) | omega) _ | refine bchain (by assumption) ?_))) hM2⟩
def sfE (wo wy : List Int) (a i : Int) : Int := if fdE wo wy a i = 0 then LE wo wy (fdA wo wy a i) else fdE wo wy a i
def sfO (wo wy : List Int) (a i u : Int) : List Int := if fdE wo wy a i = 0 then stO wo (fdA wo wy a i) u else wo
def sfY (wo wy : List Int) (a i u : Int) : List Int := if fdE wo wy a i = 0 then stY wy (fdA wo wy a i) u else wy
set_option maxRecDepth 100000 in
set_option maxHeartbeats 1000000 in
theorem msetf_no {w : World} {bO bY : Nat} {lo ly : Int} {wo wy : List Int} {gO gY : Option Nat} (hm : MemAt w bO bY lo ly wo wy gO gY) (a i u : Int) (he : fdE wo wy a i ≠ 0) :
    Calls Try.prog 33 #[.agg #[.pointer (some ⟨bO, 0, none⟩), .pointer (some ⟨bY, 0, none⟩)], .int .i64 a, .int .i64 i, .int .u64 u] w fun e w' => e = .returned (.int .i64 (fdE wo wy a i)) ∧ MemAt w' bO bY lo ly (wo) (wy) gO gY ∧ Mods (MS bO bY gO gY) w w' := by
  have hH := fun (W : World) (H : MemAt W bO bY lo ly wo wy gO gY) => field_any H a i
  generalize fdE wo wy a i = er at *
  generalize fdA wo wy a i = x at *
  have hb1 : (er != 0) = true := by simpa using he
  clear he
  have hM0 : Mods (MS bO bY gO gY) w w := Mods.refl _ _
  have hm0 := hm
  have hn0 := hm.fresh
  go_enter Try.func33, Try.ntmps33
  go_wp2_with fail
  refine (hH _ (hm0.below (by (repeat (first | exact Below.refl _ _ | assumption | refine Below.drew ?_ | refine below_drewN ?_ _ | refine balloc ?_ _ | refine Below.setCell ?_ (by first | (simp; done) | (simp; omega) | omega) _ | refine bchain (by assumption) ?_))))).mono ?_
  rintro e w1 ⟨rfl, hb1⟩
  have hB1 : Below w.heap.size w w1 := by (repeat (first | exact Below.refl _ _ | assumption | refine Below.drew ?_ | refine below_drewN ?_ _ | refine balloc ?_ _ | refine Below.setCell ?_ (by first | (simp; done) | (simp; omega) | omega) _ | refine bchain (by assumption) ?_))
  have k0 : w1.heap[w.heap.size]? = some (.cells #[.pointer (some ⟨bO, 0, none⟩), .pointer (some ⟨bY, 0, none⟩)] 26 (0, 0)) := bblock hb1 (by repeat (first | exact alloc_at _ (by simp) | refine alloc_lt _ ?_))
  have hM1 := Mods.chain hB1 hM0
  have hm1 := hm0.below hB1
  have hs1 : w.heap.size ≤ w1.heap.size := hM1.size
  have hz_k0 : w.heap.size < w1.heap.size := (Array.getElem?_eq_some_iff.1 k0).1
  clear hB1 hm0 hM0 hb1
  have k0_0 : w1.cell? ⟨w.heap.size, 0, none⟩ = some (.pointer (some ⟨bO, 0, none⟩)) := by rw [cell_of_block k0]; rfl
  have k0_1 : w1.cell? ⟨w.heap.size, 1, none⟩ = some (.pointer (some ⟨bY, 0, none⟩)) := by rw [cell_of_block k0]; rfl
  go_wp2
  go_ret
  exact ⟨rfl, hm1.below (by (repeat (first | exact Below.refl _ _ | assumption | refine Below.drew ?_ | refine below_drewN ?_ _ | refine balloc ?_ _ | refine Below.setCell ?_ (by first | (simp; done) | (simp; omega) | omega) _ | refine bchain (by assumption) ?_))), Mods.chain (show Below w1.heap.size w1 _ from by (repeat (first | exact Below.refl _ _ | assumption | refine Below.drew ?_ | refine below_drewN ?_ _ | refine balloc ?_ _ | refine Below.setCell ?_ (by first | (simp; done) | (simp; omega) | omega) _ | refine bchain (by assumption) ?_))) hM1⟩
set_option maxRecDepth 100000 in
set_option maxHeartbeats 1000000 in
theorem msetf_yes {w : World} {bO bY : Nat} {lo ly : Int} {wo wy : List Int} {gO gY : Option Nat} (hm : MemAt w bO bY lo ly wo wy gO gY) (a i u : Int) (hu : U64 u) (he : fdE wo wy a i = 0) :
    Calls Try.prog 33 #[.agg #[.pointer (some ⟨bO, 0, none⟩), .pointer (some ⟨bY, 0, none⟩)], .int .i64 a, .int .i64 i, .int .u64 u] w fun e w' => e = .returned (.int .i64 (LE wo wy (fdA wo wy a i))) ∧ MemAt w' bO bY lo ly (stO wo (fdA wo wy a i) u) (stY wy (fdA wo wy a i) u) gO gY ∧ Mods (MS bO bY gO gY) w w' := by
  have hH := fun (W : World) (H : MemAt W bO bY lo ly wo wy gO gY) => field_any H a i
  have hS := fun (W : World) (H : MemAt W bO bY lo ly wo wy gO gY) (c : Int) => mstore_any H c u hu
  rw [he] at hH
  generalize fdA wo wy a i = x at *
  have hS := fun W H => hS W H x
  generalize LE wo wy x = er at *
  generalize stO wo x u = wo2 at *
  generalize stY wy x u = wy2 at *
  clear he hu
  have hM0 : Mods (MS bO bY gO gY) w w := Mods.refl _ _
  have hm0 := hm
  have hn0 := hm.fresh
  go_enter Try.func33, Try.ntmps33
  go_wp2_with fail
  refine (hH _ (hm0.below (by (repeat (first | exact Below.refl _ _ | assumption | refine Below.drew ?_ | refine below_drewN ?_ _ | refine balloc ?_ _ | refine Below.setCell ?_ (by first | (simp; done) | (simp; omega) | omega) _ | refine bchain (by assumption) ?_))))).mono ?_
  rintro e w1 ⟨rfl, hb1⟩
  have hB1 : Below w.heap.size w w1 := by (repeat (first | exact Below.refl _ _ | assumption | refine Below.drew ?_ | refine below_drewN ?_ _ | refine balloc ?_ _ | refine Below.setCell ?_ (by first | (simp; done) | (simp; omega) | omega) _ | refine bchain (by assumption) ?_))
  have k0 : w1.heap[w.heap.size]? = some (.cells #[.pointer (some ⟨bO, 0, none⟩), .pointer (some ⟨bY, 0, none⟩)] 26 (0, 0)) := bblock hb1 (by repeat (first | exact alloc_at _ (by simp) | refine alloc_lt _ ?_))
  have hM1 := Mods.chain hB1 hM0
  have hm1 := hm0.below hB1
  have hs1 : w.heap.size ≤ w1.heap.size := hM1.size
  have hz_k0 : w.heap.size < w1.heap.size := (Array.getElem?_eq_some_iff.1 k0).1
  clear hB1 hm0 hM0 hb1
  have k0_0 : w1.cell? ⟨w.heap.size, 0, none⟩ = some (.pointer (some ⟨bO, 0, none⟩)) := by rw [cell_of_block k0]; rfl
  have k0_1 : w1.cell? ⟨w.heap.size, 1, none⟩ = some (.pointer (some ⟨bY, 0, none⟩)) := by rw [cell_of_block k0]; rfl
  go_wp2_with fail
  refine (hS _ (hm1.below (by (repeat (first | exact Below.refl _ _ | assumption | refine Below.drew ?_ | refine below_drewN ?_ _ | refine balloc ?_ _ | refine Below.setCell ?_ (by first | (simp; done) | (simp; omega) | omega) _ | refine bchain (by assumption) ?_))))).mono ?_
  rintro e w2 ⟨rfl, hm2, hX2⟩
  have k0 := mblock hX2 (bblock (show Below w1.heap.size w1 _ from by (repeat (first | exact Below.refl _ _ | assumption | refine Below.drew ?_ | refine below_drewN ?_ _ | refine balloc ?_ _ | refine Below.setCell ?_ (by first | (simp; done) | (simp; omega) | omega) _ | refine bchain (by assumption) ?_))) k0) (hn0 _ (by omega))
  have hM2 := (Mods.chain (show Below w1.heap.size w1 _ from by (repeat (first | exact Below.refl _ _ | assumption | refine Below.drew ?_ | refine below_drewN ?_ _ | refine balloc ?_ _ | refine Below.setCell ?_ (by first | (simp; done) | (simp; omega) | omega) _ | refine bchain (by assumption) ?_))) hM1).trans hX2 (fun i hi => .inl hi)
  have hs2 : w.heap.size ≤ w2.heap.size := hM2.size
  clear hz_k0
  have hz_k0 : w.heap.size < w2.heap.size := (Array.getElem?_eq_some_iff.1 k0).1
  clear hm1 hM1 hX2
  clear k0_0 k0_1
  have k0_0 : w2.cell? ⟨w.heap.size, 0, none⟩ = some (.pointer (some ⟨bO, 0, none⟩)) := by rw [cell_of_block k0]; rfl
  have k0_1 : w2.cell? ⟨w.heap.size, 1, none⟩ = some (.pointer (some ⟨bY, 0, none⟩)) := by rw [cell_of_block k0]; rfl
  go_wp2
  go_ret
  exact ⟨rfl, hm2.below (by (repeat (first | exact Below.refl _ _ | assumption | refine Below.drew ?_ | refine below_drewN ?_ _ | refine balloc ?_ _ | refine Below.setCell ?_ (by first | (simp; done) | (simp; omega) | omega) _ | refine bchain (by assumption) ?_))), Mods.chain (show Below w2.heap.size w2 _ from by (repeat (first | exact Below.refl _ _ | assumption | refine Below.drew ?_ | refine below_drewN ?_ _ | refine balloc ?_ _ | refine Below.setCell ?_ (by first | (simp; done) | (simp; omega) | omega) _ | refine bchain (by assumption) ?_))) hM2⟩
theorem msetf_any {w : World} {bO bY : Nat} {lo ly : Int} {wo wy : List Int} {gO gY : Option Nat} (hm : MemAt w bO bY lo ly wo wy gO gY) (a i u : Int) (hu : U64 u) : Calls Try.prog 33 #[.agg #[.pointer (some ⟨bO, 0, none⟩), .pointer (some ⟨bY, 0, none⟩)], .int .i64 a, .int .i64 i, .int .u64 u] w fun e w' => e = .returned (.int .i64 (sfE wo wy a i)) ∧ MemAt w' bO bY lo ly (sfO wo wy a i u) (sfY wo wy a i u) gO gY ∧ Mods (MS bO bY gO gY) w w' := by
  unfold sfE sfO sfY
  by_cases he : fdE wo wy a i = 0
  · simp only [if_pos he]
    exact msetf_yes hm a i u hu he
  · simp only [if_neg he]
    exact msetf_no hm a i u he
/-- The payload of write. -/
def PayAt (w : World) (G : Nat) (pl : List Int) : Prop := ∀ i x, pl[i]? = some x → w.cell? ⟨G, i, none⟩ = some (.int .u64 x)
/-- The words of write, after i fields. -/
def wrS (m : List Int × List Int) (a : Int) (pl : List Int) : Nat → List Int × List Int
  | 0 => m
  | j + 1 => (stO (wrS m a pl j).1 (a + 2 + (j : Int)) (pl.getD j 0), stY (wrS m a pl j).2 (a + 2 + (j : Int)) (pl.getD j 0))
def wrH (wo wy : List Int) (a k : Int) : Int := encI k (HC wo wy a) (HF wo wy a)
def wrM (wo wy : List Int) (a k : Int) (pl : List Int) : List Int × List Int := wrS (stO wo a (wrH wo wy a k), stY wy a (wrH wo wy a k)) a pl (wordsI (HF wo wy a) - 2).toNat
theorem hd_word {wo wy : List Int} {a : Int} (h : HE wo wy a = 0) : decB (LD wo wy a) = true ∧ HK wo wy a = decK (LD wo wy a) ∧ HC wo wy a = decC (LD wo wy a) ∧ HF wo wy a = decF (LD wo wy a) ∧ hvB (HK wo wy a) (HC wo wy a) (HF wo wy a) = true := by
  obtain ⟨h1, h2, h3, _⟩ := hd_bd h
  obtain ⟨e1, e2, e3, e4⟩ := hd_ok h1 h2
  obtain ⟨k0, k1, k2, k3⟩ := obB_iff.1 h2
  unfold LD
  rw [ld_in h1]
  exact ⟨k1, e2, e3, e4, h3⟩

end Go.Proofs.Ytgjaafcagnkfdaa
namespace Go.Proofs.Ytgjaafcagnkfdaa
open Go.RowKit
set_option linter.unusedSimpArgs false
set_option linter.unusedVariables false

def adB (x : Int) : Bool := decide (x % 4 = 2 ∧ x / 4 ≤ 4294967295)
def adA (x : Int) : Int := if adB x then x / 4 else 0
theorem adB_iff {x : Int} : adB x = true ↔ x % 4 = 2 ∧ x / 4 ≤ 4294967295 := by unfold adB; exact decide_eq_true_iff
theorem and3 {n : Int} (h : U64 n) : bits BinOp.and IntKind.u64 n 3 = n % 4 := by
  obtain ⟨h0, h1⟩ := h
  exact bits_mask .u64 64 (by decide) u64_wraps 2 (by decide) n (by omega) (by omega)
theorem or2 {a : Int} (h0 : 0 ≤ a) (h1 : a ≤ 4294967295) : bits BinOp.or IntKind.u64 (a * 4) 2 = a * 4 + 2 := by
  rw [bits_join .u64 64 (by decide) u64_wraps 2 (a * 4) 2 (by omega) (by omega) (by omega) (by omega) (by omega) (by omega)]
def NotTwo (w : World) (e : Ending) (w' : World) : Prop := ∃ n : Int, (n == 2) = false ∧ e = .returned (.int .i64 n) ∧ Below w.heap.size w w'
theorem kind_addr (x : Int) (hx : U64 x) (h : x % 4 = 2) (g : x / 4 ≤ 4294967295) (w : World) : Calls Try.prog 59 #[.int .u64 x] w fun e w' => e = .returned (.int .i64 2) ∧ Below w.heap.size w w' := by
  have h3 := and3 hx
  have h0 := hx.nonneg
  rw [h] at h3
  have hxz : (x == 0) = false := by simp; omega
  clear h
  clear hx
  go_enter Try.func59, Try.ntmps59
  go_wp2
  go_ret
  exact ⟨rfl, by (repeat (first | exact Below.refl _ _ | assumption | refine Below.drew ?_ | refine below_drewN ?_ _ | refine balloc ?_ _ | refine Below.setCell ?_ (by first | (simp; done) | (simp; omega) | omega) _ | refine bchain (by assumption) ?_))⟩
theorem kind_0z (x : Int) (hx : U64 x) (h : x = 0) (w : World) : Calls Try.prog 59 #[.int .u64 x] w (NotTwo w) := by
  have h3 := and3 hx
  have h0 := hx.nonneg
  subst h
  clear hx
  go_enter Try.func59, Try.ntmps59
  go_wp2
  go_ret
  exact ⟨_, by decide, rfl, by (repeat (first | exact Below.refl _ _ | assumption | refine Below.drew ?_ | refine below_drewN ?_ _ | refine balloc ?_ _ | refine Below.setCell ?_ (by first | (simp; done) | (simp; omega) | omega) _ | refine bchain (by assumption) ?_))⟩
theorem kind_0 (x : Int) (hx : U64 x) (h : x % 4 = 0) (hz : x ≠ 0) (w : World) : Calls Try.prog 59 #[.int .u64 x] w (NotTwo w) := by
  have h3 := and3 hx
  have h0 := hx.nonneg
  rw [h] at h3
  have hxz : (x == 0) = false := by simpa using hz
  clear h hz
  clear hx
  go_enter Try.func59, Try.ntmps59
  go_wp2
  go_ret
  exact ⟨_, by decide, rfl, by (repeat (first | exact Below.refl _ _ | assumption | refine Below.drew ?_ | refine below_drewN ?_ _ | refine balloc ?_ _ | refine Below.setCell ?_ (by first | (simp; done) | (simp; omega) | omega) _ | refine bchain (by assumption) ?_))⟩
theorem kind_1 (x : Int) (hx : U64 x) (h : x % 4 = 1) (w : World) : Calls Try.prog 59 #[.int .u64 x] w (NotTwo w) := by
  have h3 := and3 hx
  have h0 := hx.nonneg
  rw [h] at h3
  clear h
  clear hx
  go_enter Try.func59, Try.ntmps59
  go_wp2
  go_ret
  exact ⟨_, by decide, rfl, by (repeat (first | exact Below.refl _ _ | assumption | refine Below.drew ?_ | refine below_drewN ?_ _ | refine balloc ?_ _ | refine Below.setCell ?_ (by first | (simp; done) | (simp; omega) | omega) _ | refine bchain (by assumption) ?_))⟩
theorem kind_2 (x : Int) (hx : U64 x) (h : x % 4 = 2) (g : 4294967295 < x / 4) (w : World) : Calls Try.prog 59 #[.int .u64 x] w (NotTwo w) := by
  have h3 := and3 hx
  have h0 := hx.nonneg
  rw [h] at h3
  clear h
  clear hx
  go_enter Try.func59, Try.ntmps59
  go_wp2
  go_ret
  exact ⟨_, by decide, rfl, by (repeat (first | exact Below.refl _ _ | assumption | refine Below.drew ?_ | refine below_drewN ?_ _ | refine balloc ?_ _ | refine Below.setCell ?_ (by first | (simp; done) | (simp; omega) | omega) _ | refine bchain (by assumption) ?_))⟩
theorem kind_3 (x : Int) (hx : U64 x) (h : x % 4 = 3) (w : World) : Calls Try.prog 59 #[.int .u64 x] w (NotTwo w) := by
  have h3 := and3 hx
  have h0 := hx.nonneg
  rw [h] at h3
  clear h
  clear hx
  go_enter Try.func59, Try.ntmps59
  go_wp2
  go_ret
  exact ⟨_, by decide, rfl, by (repeat (first | exact Below.refl _ _ | assumption | refine Below.drew ?_ | refine below_drewN ?_ _ | refine balloc ?_ _ | refine Below.setCell ?_ (by first | (simp; done) | (simp; omega) | omega) _ | refine bchain (by assumption) ?_))⟩
theorem kind_not (x : Int) (hx : U64 x) (h : adB x = false) (w : World) : Calls Try.prog 59 #[.int .u64 x] w (NotTwo w) := by
  have hn : ¬ (x % 4 = 2 ∧ x / 4 ≤ 4294967295) := fun h' => by rw [adB_iff.2 h'] at h; cases h
  have h0 := hx.nonneg
  by_cases h2 : x % 4 = 2
  · exact kind_2 x hx h2 (by omega) w
  · by_cases hz : x = 0
    · exact kind_0z x hx hz w
    · by_cases h00 : x % 4 = 0
      · exact kind_0 x hx h00 hz w
      · by_cases h1 : x % 4 = 1
        · exact kind_1 x hx h1 w
        · exact kind_3 x hx (by omega) w
theorem address_any (x : Int) (hx : U64 x) (w : World) : Calls Try.prog 46 #[.int .u64 x] w fun e w' => e = .returned (.tuple #[.int .i64 (adA x), .bool (adB x)]) ∧ Below w.heap.size w w' := by
  unfold adA
  cases h : adB x
  · have hk := fun W => kind_not x hx h W
    have h0 := hx.nonneg
    clear h hx
    go_enter Try.func46, Try.ntmps46
    go_wp2_with fail
    refine (hk _).mono ?_
    rintro e w1 ⟨n, hn, rfl, hb1⟩
    have hn2 : (n != 2) = true := by simpa using hn
    clear hn hk
    go_wp2
    go_ret2
    exact ⟨rfl, by (repeat (first | exact Below.refl _ _ | assumption | refine Below.drew ?_ | refine below_drewN ?_ _ | refine balloc ?_ _ | refine Below.setCell ?_ (by first | (simp; done) | (simp; omega) | omega) _ | refine bchain (by assumption) ?_))⟩
  · obtain ⟨h1, h2⟩ := adB_iff.1 h
    have hk := fun W => kind_addr x hx h1 h2 W
    have h0 := hx.nonneg
    clear h hx h1
    go_enter Try.func46, Try.ntmps46
    go_wp2_with fail
    refine (hk _).mono ?_
    rintro e w1 ⟨rfl, hb1⟩
    clear hk
    go_wp2
    go_ret2
    exact ⟨rfl, by (repeat (first | exact Below.refl _ _ | assumption | refine Below.drew ?_ | refine below_drewN ?_ _ | refine balloc ?_ _ | refine Below.setCell ?_ (by first | (simp; done) | (simp; omega) | omega) _ | refine bchain (by assumption) ?_))⟩
def faE (a : Int) : Int := if 0 ≤ a ∧ a ≤ 4294967295 then 0 else 2
def faW (a : Int) : Int := if 0 ≤ a ∧ a ≤ 4294967295 then a * 4 + 2 else 0
theorem faU (a : Int) : U64 (faW a) := by unfold faW; split <;> exact U64.of (by omega) (by omega)
theorem fromaddr_any (a : Int) (w : World) : Calls Try.prog 22 #[.int .i64 a] w fun e w' => e = .returned (.tuple #[.int .u64 (faW a), .int .i64 (faE a)]) ∧ Below w.heap.size w w' := by
  unfold faE faW
  by_cases h0 : 0 ≤ a
  · by_cases h1 : a ≤ 4294967295
    · rw [if_pos ⟨h0, h1⟩, if_pos ⟨h0, h1⟩]
      have hor := or2 h0 h1
      go_enter Try.func22, Try.ntmps22
      go_wp2
      go_ret2
      exact ⟨rfl, by (repeat (first | exact Below.refl _ _ | assumption | refine Below.drew ?_ | refine below_drewN ?_ _ | refine balloc ?_ _ | refine Below.setCell ?_ (by first | (simp; done) | (simp; omega) | omega) _ | refine bchain (by assumption) ?_))⟩
    · rw [if_neg (fun h => h1 h.2), if_neg (fun h => h1 h.2)]
      go_enter Try.func22, Try.ntmps22
      go_wp2
      go_ret2
      exact ⟨rfl, by (repeat (first | exact Below.refl _ _ | assumption | refine Below.drew ?_ | refine below_drewN ?_ _ | refine balloc ?_ _ | refine Below.setCell ?_ (by first | (simp; done) | (simp; omega) | omega) _ | refine bchain (by assumption) ?_))⟩
  · rw [if_neg (fun h => h0 h.1), if_neg (fun h => h0 h.1)]
    go_enter Try.func22, Try.ntmps22
    go_wp2
    go_ret2
    exact ⟨rfl, by (repeat (first | exact Below.refl _ _ | assumption | refine Below.drew ?_ | refine below_drewN ?_ _ | refine balloc ?_ _ | refine Below.setCell ?_ (by first | (simp; done) | (simp; omega) | omega) _ | refine bchain (by assumption) ?_))⟩

end Go.Proofs.Ytgjaafcagnkfdaa
namespace Go.Proofs.Ytgjaafcagnkfdaa
open Go.RowKit
set_option linter.unusedSimpArgs false
set_option linter.unusedVariables false

def isE (p : Int → Bool) (wo wy : List Int) (a : Int) : Int := if HE wo wy a ≠ 0 then HE wo wy a else if p (HK wo wy a) then 0 else 7
theorem isE_zero {p : Int → Bool} {wo wy : List Int} {a : Int} (h : isE p wo wy a = 0) : HE wo wy a = 0 ∧ p (HK wo wy a) = true := by
  unfold isE at h
  by_cases he : HE wo wy a = 0
  · rw [if_neg (by simpa using he)] at h
    cases hp : p (HK wo wy a)
    · rw [hp] at h; cases h
    · exact ⟨he, rfl⟩
  · rw [if_pos he] at h
    exact absurd h he
def okM (n : Int) : Bool := decide (1 ≤ n ∧ n ≤ 8)
def tsE (wo wy : List Int) (a n : Int) : Int := if isE (fun k => !stB k) wo wy a ≠ 0 then isE (fun k => !stB k) wo wy a else if okM n then 0 else 1
def tsM (wo wy : List Int) (a n u : Int) : List Int × List Int := if tsE wo wy a n = 0 then wrM wo wy a 3 [n, u] else (wo, wy)
def sbE (wo wy : List Int) (a : Int) : Int := isE (fun k => k == 3) wo wy a
def sbN (wo wy : List Int) (a : Int) : Int := if sbE wo wy a = 0 then wrap64 (LD wo wy (a + 2)) else 0
def sbU (wo wy : List Int) (a : Int) : Int := if sbE wo wy a = 0 then LD wo wy (a + 3) else 0
def rrE (wo wy : List Int) (a n : Int) : Int := if sbE wo wy a ≠ 0 then sbE wo wy a else if okM n then 0 else 1
def rrM (wo wy : List Int) (a n u : Int) : List Int × List Int := if rrE wo wy a n = 0 then (stO (stO wo (a + 2) n) (a + 3) u, stY (stY wy (a + 2) n) (a + 3) u) else (wo, wy)
end Go.Proofs.Ytgjaafcagnkfdaa
namespace Go.Proofs.Ytgjaafcagnkfdaa
open Go.RowKit Go.Maps
set_option linter.unusedSimpArgs false
set_option linter.unusedVariables false

theorem seen_law : Keyed Try.prog 3 := int_keyed Try.underlying3
/-- Block b is a map that holds true at the numbers of S, and nothing else. -/
def SeenAt (w : World) (b : Nat) (S : List Int) : Prop :=
  ∃ D : DataW Unit, w.ownsMap Try.prog 3 (plainElem Try.prog 4) b S.length D ∧ IsMap D ∧ ∀ x : Int, D.atKey (.int .i64 x) (.lit (.bool false)) = .lit (.bool (decide (x ∈ S)))
theorem seen_made (w : World) : SeenAt (w.alloc (.map #[] 0)) w.heap.size [] :=
  ⟨.map [], World.ownsMap_made w _ _ _, isMap_empty, fun x => by simp [DataW.atKey]⟩
theorem SeenAt.kept {w w' : World} {b : Nat} {S : List Int} {row : Option Nat} (h : SeenAt w b S) (hg : w.grownBy w' row) (hne : some b ≠ row) : SeenAt w' b S := by
  obtain ⟨D, h1, h2, h3⟩ := h
  exact ⟨D, h1.kept hg hne, h2, h3⟩
theorem SeenAt.below {w w' : World} {b : Nat} {S : List Int} (h : SeenAt w b S) (hb : Below w.heap.size w w') : SeenAt w' b S := h.kept (grown_of hb) (by simp)
theorem SeenAt.lt {w : World} {b : Nat} {S : List Int} (h : SeenAt w b S) : b < w.heap.size := by
  obtain ⟨D, h1, _⟩ := h
  exact h1.lt
theorem plainElem_bool_inv {H : Type} {P : Program} {e : TypeId} (he : P.underlying e = some .bool) {v : Value} {z : DataW H × List MemPlace} (h : plainElem P e v = some z) : ∃ x, v = .bool x ∧ z = (.lit (.bool x), []) := by
  unfold plainElem at h
  rw [he] at h
  cases v <;> simp at h
  exact ⟨_, rfl, h.symm⟩
theorem seen_zero (w : World) : (zeroValue 4).run Try.prog w = .ok (.bool false) w := by kernel_rfl
theorem wf_i64 {x : Int} (h : -9223372036854775808 ≤ x ∧ x ≤ 9223372036854775807) : (Lit.int .i64 x).wf = true := by
  simp [Lit.wf, IntKind.min, IntKind.max, IntKind.signed, IntKind.bits]
  omega
theorem SeenAt.look {w : World} {b : Nat} {S : List Int} (h : SeenAt w b S) {x : Int} (hx : -9223372036854775808 ≤ x ∧ x ≤ 9223372036854775807) :
    (Instr.lookup 71 (.map (some b)) (.int .i64 x) false).run Try.prog w = .ok (.bool (decide (x ∈ S))) w := by
  obtain ⟨D, h1, _, h3⟩ := h
  obtain ⟨v, ps, hrun, hv⟩ := h1.lookup seen_law Try.underlying71 (seen_zero w) (plainElem_bool Try.underlying4 false) (keyOf_int_mk Try.underlying3 (wf_i64 hx))
  rw [h3 x] at hv
  obtain ⟨y, rfl, hy⟩ := plainElem_bool_inv Try.underlying4 hv
  simp only [Prod.mk.injEq, DataW.lit.injEq, Lit.bool.injEq] at hy
  rw [hrun, hy.1]
theorem wpList_seen {w : World} {ops : Array Oper} {rest : List Oper} {o : Oper} {a : Act} {Q : Exit → Act → World → Prop}
    (hg : o.guard = none) (m x v : Operand) (hop : o.op = Op.mapUpdate 71 m x v) (b : Nat) (S : List Int) (hm : a.eval m = .map (some b)) (hown : SeenAt w b S) (hn : S.length < maxLen) (k : Int) (hx : a.eval x = .int .i64 k) (hv : a.eval v = .bool true)
    (hk : -9223372036854775808 ≤ k ∧ k ≤ 9223372036854775807)
    (hK : ∀ w', SeenAt w' b (S ++ [k]) → w.grownBy w' (some b) → wpList Try.prog ops Q rest (a.put o.dst undef) w') :
    wpList Try.prog ops Q (o :: rest) a w := by
  obtain ⟨D, h1, h2, h3⟩ := hown
  refine wpList_mapUpdate_own w hg m x v 71 hop 3 4 seen_law Try.underlying71 (plainElem Try.prog 4) b S.length D hm h1 hn (.int .i64 k) (.bool true) (.int .i64 k) hx hv (keyOf_int_mk Try.underlying3 (wf_i64 hk)) (.lit (.bool true)) [] (plainElem_bool Try.underlying4 true) ?_
  intro w' h4 h5
  refine hK w' ⟨_, by simpa using h4, h2.put _ _, fun y => ?_⟩ h5
  by_cases hy : y = k
  · subst hy
    rw [atKey_put_same h2 (by first | exact .inr (.inl ⟨_, _, rfl⟩) | simp [WideAt.IsKeyLit])]
    simp
  · rw [atKey_put_other (by simpa using hy), h3 y]
    simp [hy]
end Go.Proofs.Ytgjaafcagnkfdaa
namespace Go.Proofs.Ytgjaafcagnkfdaa
open Go.RowKit
set_option linter.unusedSimpArgs false
set_option linter.unusedVariables false

/-- The resolution of an address, in at most n steps: the address, the error. -/
def rsv (wo wy : List Int) : Nat → Int → Int × Int
  | 0, _ => (0, 11)
  | n + 1, a => if HE wo wy a ≠ 0 then (0, 11) else if HK wo wy a ≠ 4 then (a, 0) else if adB (LD wo wy (a + 2)) then rsv wo wy n (adA (LD wo wy (a + 2))) else (0, 11)
theorem rsv_err {wo wy : List Int} {a : Int} (h : HE wo wy a ≠ 0) (n : Nat) : rsv wo wy n a = (0, 11) := by
  cases n with
  | zero => rfl
  | succ n => unfold rsv; rw [if_pos h]
theorem rsv_end {wo wy : List Int} {a : Int} (h : HE wo wy a = 0) (g : HK wo wy a ≠ 4) (n : Nat) : rsv wo wy (n + 1) a = (a, 0) := by unfold rsv; rw [if_neg (by simpa using h), if_pos g]
theorem rsv_bad {wo wy : List Int} {a : Int} (h : HE wo wy a = 0) (g : HK wo wy a = 4) (k : adB (LD wo wy (a + 2)) = false) (n : Nat) : rsv wo wy n a = (0, 11) := by
  cases n with
  | zero => rfl
  | succ n => unfold rsv; rw [if_neg (by simpa using h), if_neg (by simpa using g), k]; rfl
theorem rsv_go {wo wy : List Int} {a : Int} (h : HE wo wy a = 0) (g : HK wo wy a = 4) (k : adB (LD wo wy (a + 2)) = true) (n : Nat) : rsv wo wy (n + 1) a = rsv wo wy n (adA (LD wo wy (a + 2))) := by
  show (if HE wo wy a ≠ 0 then (0, 11) else if HK wo wy a ≠ 4 then (a, 0) else if adB (LD wo wy (a + 2)) then rsv wo wy n (adA (LD wo wy (a + 2))) else (0, 11)) = _
  rw [if_neg (by simpa using h), if_neg (by simpa using g), k]
  rfl
/-- A Forward, and where it leads. -/
def fwd (wo wy : List Int) (a : Int) : Prop := HE wo wy a = 0 ∧ HK wo wy a = 4 ∧ adB (LD wo wy (a + 2)) = true
def nxt (wo wy : List Int) (a : Int) : Int := adA (LD wo wy (a + 2))
/-- Where Forwards lead to Forwards of one set alone, nothing is resolved. -/
theorem rsv_ring {wo wy : List Int} {S : List Int} (h : ∀ s ∈ S, fwd wo wy s ∧ nxt wo wy s ∈ S) : ∀ (n : Nat) (a : Int), a ∈ S → rsv wo wy n a = (0, 11) := by
  intro n
  induction n with
  | zero => intro a _; rfl
  | succ n ih =>
    intro a ha
    obtain ⟨⟨h0, h1, h2⟩, h3⟩ := h a ha
    rw [rsv_go h0 h1 h2]
    exact ih _ h3
/-- How far the set has come: n steps are left of N + 1. -/
structure Trail (wo wy : List Int) (N : Nat) (a0 : Int) (S : List Int) (a : Int) : Prop where
  nd : S.Nodup
  mem : ∀ s ∈ S, fwd wo wy s ∧ (nxt wo wy s ∈ S ∨ nxt wo wy s = a)
  fuel : rsv wo wy (N + 1) a0 = rsv wo wy (N + 1 - S.length) a
theorem trail_start (wo wy : List Int) (N : Nat) (a0 : Int) : Trail wo wy N a0 [] a0 := ⟨List.nodup_nil, fun s h => (by cases h), rfl⟩
theorem trail_ring {wo wy : List Int} {N : Nat} {a0 a : Int} {S : List Int} (h : Trail wo wy N a0 S a) (ha : a ∈ S) : rsv wo wy (N + 1) a0 = (0, 11) := by
  rw [h.fuel]
  refine rsv_ring (S := S) (fun s hs => ⟨(h.mem s hs).1, ?_⟩) _ a ha
  rcases (h.mem s hs).2 with h' | h'
  · exact h'
  · rw [h']; exact ha
/-- The word on which an object begins, counted through both spaces. -/
def slotA (wo : List Int) (a : Int) : Nat := if 16777216 ≤ a then wo.length + (a - 16777216).toNat else a.toNat
theorem slot_lt {wo wy : List Int} {a : Int} (h : HE wo wy a = 0) : slotA wo a < wo.length + wy.length := by
  obtain ⟨_, _, _, h1, h2⟩ := HE_bd h
  have h3 : 0 ≤ wordsI (HF wo wy a) := by unfold wordsI; split <;> omega
  have h4 := (hd_bd h).1
  obtain ⟨h5, h6⟩ := inB_iff.1 h4
  unfold slotA bsA wsA at *
  split at h6 <;> rename_i hh
  · rw [if_pos hh] at *
    simp only [if_pos hh] at *
    omega
  · simp only [if_neg hh] at *
    omega
theorem slot_inj {wo wy : List Int} {a b : Int} (ha : HE wo wy a = 0) (hb : HE wo wy b = 0) (h : slotA wo a = slotA wo b) : a = b := by
  obtain ⟨h5, h6⟩ := inB_iff.1 (hd_bd ha).1
  obtain ⟨h7, h8⟩ := inB_iff.1 (hd_bd hb).1
  unfold slotA at h
  unfold bsA at h5 h6 h7 h8
  unfold wsA at h6 h8
  by_cases h1 : 16777216 ≤ a
  · rw [if_pos h1] at h h5
    rw [if_pos h1, if_pos h1] at h6
    by_cases h2 : 16777216 ≤ b
    · rw [if_pos h2] at h h7
      omega
    · rw [if_neg h2] at h h7
      rw [if_neg h2, if_neg h2] at h8
      omega
  · rw [if_neg h1] at h h5
    rw [if_neg h1, if_neg h1] at h6
    by_cases h2 : 16777216 ≤ b
    · rw [if_pos h2] at h h7
      omega
    · rw [if_neg h2] at h h7
      omega
theorem nodup_bound : ∀ (n : Nat) (l : List Nat), l.Nodup → (∀ x ∈ l, x < n) → l.length ≤ n := by
  intro n l hd hb
  have := List.Nodup.length_le_of_subset hd (l₂ := List.range n) (fun x hx => List.mem_range.2 (hb x hx))
  simpa using this
theorem trail_len {wo wy : List Int} {S : List Int} (hd : S.Nodup) (h : ∀ s ∈ S, HE wo wy s = 0) : S.length ≤ wo.length + wy.length := by
  have h1 : (S.map (slotA wo)).Nodup := by
    rw [List.Nodup, List.pairwise_map]
    exact hd.imp_of_mem (fun ha hb hne e => hne (slot_inj (h _ ha) (h _ hb) e))
  have h2 := nodup_bound (wo.length + wy.length) (S.map (slotA wo)) h1 (fun x hx => by
    obtain ⟨s, hs, rfl⟩ := List.mem_map.1 hx
    exact slot_lt (h s hs))
  simpa using h2
/-- One Forward further. -/
theorem trail_step {wo wy : List Int} {a0 a : Int} {S : List Int} (h : Trail wo wy (wo.length + wy.length) a0 S a) (ha : a ∉ S) (hf : fwd wo wy a) : Trail wo wy (wo.length + wy.length) a0 (S ++ [a]) (nxt wo wy a) ∧ (S ++ [a]).length ≤ wo.length + wy.length := by
  have hnd : (S ++ [a]).Nodup := by
    rw [List.nodup_append]
    exact ⟨h.nd, by simp, fun x hx y hy => by
      simp only [List.mem_singleton] at hy
      rintro rfl
      exact ha (hy ▸ hx)⟩
  have hmem : ∀ s ∈ S ++ [a], fwd wo wy s := fun s hs => by
    rcases List.mem_append.1 hs with hs | hs
    · exact (h.mem s hs).1
    · rw [List.mem_singleton.1 hs]; exact hf
  have hl := trail_len hnd (fun s hs => (hmem s hs).1)
  refine ⟨⟨hnd, fun s hs => ⟨hmem s hs, ?_⟩, ?_⟩, hl⟩
  · rcases List.mem_append.1 hs with hs | hs
    · rcases (h.mem s hs).2 with h' | h'
      · exact .inl (List.mem_append.2 (.inl h'))
      · exact .inl (List.mem_append.2 (.inr (List.mem_singleton.2 h')))
    · rw [List.mem_singleton.1 hs]; exact .inr rfl
  · rw [h.fuel]
    rw [List.length_append, List.length_singleton] at hl ⊢
    obtain ⟨m, hm⟩ : ∃ m, wo.length + wy.length + 1 - S.length = m + 1 := ⟨wo.length + wy.length - S.length, by omega⟩
    rw [hm, rsv_go hf.1 hf.2.1 hf.2.2, show wo.length + wy.length + 1 - (S.length + 1) = m by omega]
    rfl
theorem trail_pos {wo wy : List Int} {a0 a : Int} {S : List Int} (h : Trail wo wy (wo.length + wy.length) a0 S a) : ∃ m, wo.length + wy.length + 1 - S.length = m + 1 := by
  have := trail_len h.nd (fun s hs => (h.mem s hs).1.1)
  exact ⟨wo.length + wy.length - S.length, by omega⟩
/-- Resolve. -/
def RA (wo wy : List Int) (a : Int) : Int := if LE wo wy a = 0 then (rsv wo wy (wo.length + wy.length + 1) a).1 else 0
def RE (wo wy : List Int) (a : Int) : Int := if LE wo wy a = 0 then (rsv wo wy (wo.length + wy.length + 1) a).2 else LE wo wy a
end Go.Proofs.Ytgjaafcagnkfdaa
namespace Go.Proofs.Ytgjaafcagnkfdaa
open Go.RowKit
set_option linter.unusedSimpArgs false
set_option linter.unusedVariables false

set_option maxRecDepth 100000 in
set_option maxHeartbeats 1000000 in
theorem mresolve_out {w : World} {bO bY : Nat} {lo ly : Int} {wo wy : List Int} {gO gY : Option Nat} (hm : MemAt w bO bY lo ly wo wy gO gY) (a : Int) (hl : LE wo wy a ≠ 0) :
    Calls Try.prog 47 #[.agg #[.pointer (some ⟨bO, 0, none⟩), .pointer (some ⟨bY, 0, none⟩)], .int .i64 a] w fun e w' => e = .returned (.tuple #[.int .i64 0, .int .i64 (LE wo wy a)]) ∧ Below w.heap.size w w' := by
  have hL := fun W (h : Below w.heap.size w W) => mload_any (hm.below h) a
  generalize LD wo wy a = x at *
  generalize LE wo wy a = y at *
  have hb1 : (y != 0) = true := by simpa using hl
  clear hm hl
  have hw0 : Below w.heap.size w w := Below.refl _ _
  go_enter Try.func47, Try.ntmps47
  go_wp2_with fail
  refine (hL _ (by (repeat (first | exact Below.refl _ _ | assumption | refine Below.drew ?_ | refine below_drewN ?_ _ | refine balloc ?_ _ | refine Below.setCell ?_ (by first | (simp; done) | (simp; omega) | omega) _ | refine bchain (by assumption) ?_)))).mono ?_
  rintro e w1 ⟨rfl, hb1⟩
  have hB1 : Below w.heap.size w w1 := by (repeat (first | exact Below.refl _ _ | assumption | refine Below.drew ?_ | refine below_drewN ?_ _ | refine balloc ?_ _ | refine Below.setCell ?_ (by first | (simp; done) | (simp; omega) | omega) _ | refine bchain (by assumption) ?_))
  have k0 : w1.heap[w.heap.size]? = some (.cells #[.pointer (some ⟨bO, 0, none⟩), .pointer (some ⟨bY, 0, none⟩)] 26 (0, 0)) := bblock hb1 (by repeat (first | exact alloc_at _ (by simp) | refine alloc_lt _ ?_))
  have hw1 := bchain hB1 hw0
  have hz_k0 : w.heap.size < w1.heap.size := (Array.getElem?_eq_some_iff.1 k0).1
  clear hB1
  have k0_0 : w1.cell? ⟨w.heap.size, 0, none⟩ = some (.pointer (some ⟨bO, 0, none⟩)) := by rw [cell_of_block k0]; rfl
  have k0_1 : w1.cell? ⟨w.heap.size, 1, none⟩ = some (.pointer (some ⟨bY, 0, none⟩)) := by rw [cell_of_block k0]; rfl
  go_wp2
  go_ret2
  exact ⟨rfl, by (repeat (first | exact Below.refl _ _ | assumption | refine Below.drew ?_ | refine below_drewN ?_ _ | refine balloc ?_ _ | refine Below.setCell ?_ (by first | (simp; done) | (simp; omega) | omega) _ | refine bchain (by assumption) ?_))⟩
theorem LE_bd {w : World} {bO bY : Nat} {lo ly : Int} {wo wy : List Int} {gO gY : Option Nat} (hm : MemAt w bO bY lo ly wo wy gO gY) {a : Int} (h : LE wo wy a = 0) : 0 ≤ a ∧ a ≤ 1099511627776 := by
  have hk1 := (hm.partOk a).b0
  have hk2 := (hm.partOk a).top
  have hk3 := (hm.partOk a).lm1
  unfold LE ioE at h
  cases h1 : inB (bsA a) (wsA wo wy a).length a
  · rw [h1] at h; cases h
  · obtain ⟨h2, h3⟩ := inB_iff.1 h1
    omega
theorem HE_rng {w : World} {bO bY : Nat} {lo ly : Int} {wo wy : List Int} {gO gY : Option Nat} (hm : MemAt w bO bY lo ly wo wy gO gY) {a : Int} (h : HE wo wy a = 0) : 0 ≤ a ∧ a ≤ 1099511627776 := by
  have hk1 := (hm.partOk a).b0
  have hk2 := (hm.partOk a).top
  have hk3 := (hm.partOk a).lm1
  obtain ⟨h2, h3⟩ := inB_iff.1 (hd_bd h).1
  omega
set_option maxRecDepth 100000 in
set_option maxHeartbeats 4000000 in
theorem mresolve_in {w : World} {bO bY : Nat} {lo ly : Int} {wo wy : List Int} {gO gY : Option Nat} (hm : MemAt w bO bY lo ly wo wy gO gY) (a0 : Int) (hl : LE wo wy a0 = 0) (r1 r2 : Int) (hr : rsv wo wy (wo.length + wy.length + 1) a0 = (r1, r2)) :
    Calls Try.prog 47 #[.agg #[.pointer (some ⟨bO, 0, none⟩), .pointer (some ⟨bY, 0, none⟩)], .int .i64 a0] w fun e w' => e = .returned (.tuple #[.int .i64 r1, .int .i64 r2]) ∧ Below w.heap.size w w' := by
  have hmm := @run_makeMap Try.prog
  have hH := fun W (h : Below w.heap.size w W) (c : Int) => mhdr_any (hm.below h) c
  have hL := fun W (h : Below w.heap.size w W) (c : Int) => mload_any (hm.below h) c
  have hu := fun c => hm.ldU c
  have hrg := fun (c : Int) (h : HE wo wy c = 0) => HE_rng hm h
  have hab := LE_bd hm hl
  have hLn : wo.length + wy.length ≤ 4398046511104 := by have := hm.okO.top; have := hm.okO.lm1; have := hm.okY.top; have := hm.okY.lm1; omega
  have hL0 := fun W h => hL W h a0
  rw [hl] at hL0
  have HR := Lib.hid hr
  have hml : maxLen = 9223372036854775807 := rfl
  clear hm hr hl
  have hw0 : Below w.heap.size w w := Below.refl _ _
  go_enter Try.func47, Try.ntmps47
  go_wp2_with fail
  refine (hL0 _ (by (repeat (first | exact Below.refl _ _ | assumption | refine Below.drew ?_ | refine below_drewN ?_ _ | refine balloc ?_ _ | refine Below.setCell ?_ (by first | (simp; done) | (simp; omega) | omega) _ | refine bchain (by assumption) ?_)))).mono ?_
  rintro e w1 ⟨rfl, hb1⟩
  have hB1 : Below w.heap.size w w1 := by (repeat (first | exact Below.refl _ _ | assumption | refine Below.drew ?_ | refine below_drewN ?_ _ | refine balloc ?_ _ | refine Below.setCell ?_ (by first | (simp; done) | (simp; omega) | omega) _ | refine bchain (by assumption) ?_))
  have k0 : w1.heap[w.heap.size]? = some (.cells #[.pointer (some ⟨bO, 0, none⟩), .pointer (some ⟨bY, 0, none⟩)] 26 (0, 0)) := bblock hb1 (by repeat (first | exact alloc_at _ (by simp) | refine alloc_lt _ ?_))
  have hw1 := bchain hB1 hw0
  have hz_k0 : w.heap.size < w1.heap.size := (Array.getElem?_eq_some_iff.1 k0).1
  clear hB1
  have k0_0 : w1.cell? ⟨w.heap.size, 0, none⟩ = some (.pointer (some ⟨bO, 0, none⟩)) := by rw [cell_of_block k0]; rfl
  have k0_1 : w1.cell? ⟨w.heap.size, 1, none⟩ = some (.pointer (some ⟨bY, 0, none⟩)) := by rw [cell_of_block k0]; rfl
  go_wp2_with fail
  have k0' := bblock (balloc (Below.refl _ w1) (.map #[] 0)) k0
  have hsn := seen_made w1
  have hbm : Below w.heap.size w (w1.alloc (.map #[] 0)) := balloc hw1 _
  have hw1s : w.heap.size < w1.heap.size := hz_k0
  clear k0 k0_0 k0_1 hz_k0
  go_loopg [1] (wo.length + wy.length + 1) (fun g p wr => ∃ (S : List Int) (x : Int), g = wo.length + wy.length + 1 - S.length ∧ S.length ≤ wo.length + wy.length ∧ p = .int .i64 x ∧ Trail wo wy (wo.length + wy.length) a0 S x ∧ (0 ≤ x ∧ x ≤ 1099511627776) ∧ SeenAt wr w1.heap.size S ∧ wr.heap[w.heap.size]? = some (.cells #[.pointer (some ⟨bO, 0, none⟩), .pointer (some ⟨bY, 0, none⟩)] 26 (0, 0)) ∧ Below w.heap.size w wr) 
  case atStart => exact ⟨[], a0, by simp, by simp, rfl, trail_start _ _ _ _, hab, hsn, k0', hbm⟩
  case round =>
    obtain ⟨S, x, hgk, hSl, rfl, htr, ⟨hx0, hx1⟩, hse, k0, hbr⟩ := hrel
    clear hsn k0' hbm hab
    have hlook := hse.look (x := x) ⟨by omega, by omega⟩
    have k0_0 : wr.cell? ⟨w.heap.size, 0, none⟩ = some (.pointer (some ⟨bO, 0, none⟩)) := by rw [cell_of_block k0]; rfl
    have k0_1 : wr.cell? ⟨w.heap.size, 1, none⟩ = some (.pointer (some ⟨bY, 0, none⟩)) := by rw [cell_of_block k0]; rfl
    by_cases hin : x ∈ S
    · rw [decide_eq_true hin] at hlook
      have e := HR.out.symm.trans (trail_ring htr hin)
      obtain ⟨rfl, rfl⟩ := Prod.mk.inj e
      clear HR e htr hin hgk hH hL hu hrg hL0
      go_wp2
      go_ret2
      exact ⟨rfl, hbr⟩
    · rw [decide_eq_false hin] at hlook
      have hne : w.heap.size ≠ w1.heap.size := by have := (Array.getElem?_eq_some_iff.1 k0).1; omega
      by_cases he : HE wo wy x = 0
      · by_cases hk4 : HK wo wy x = 4
        · cases had : adB (LD wo wy (x + 2))
          · have hH1 := fun W h => hH W h x
            rw [he, hk4] at hH1
            have hL1 := fun W h => hL W h (x + 2)
            have hA1 := fun W => address_any (LD wo wy (x + 2)) (hu (x + 2)) W
            rw [had] at hA1
            have e := HR.out.symm.trans (htr.fuel.trans (rsv_bad he hk4 had _))
            obtain ⟨rfl, rfl⟩ := Prod.mk.inj e
            clear HR e
            clear hH hL hu hrg hL0 htr he hk4 had
            generalize LD wo wy (x + 2) = xv at *
            generalize LE wo wy (x + 2) = yv at *
            generalize adA xv = av at *
            generalize HC wo wy x = hc at *
            generalize HF wo wy x = hf at *
            have HIN := Lib.hid hin
            have HG := Lib.hid hgk
            clear hin hgk
            go_wp2_with (at_mapUpdate; refine wpList_seen rfl _ _ _ rfl w1.heap.size S rfl hse (by omega) x rfl rfl ⟨by omega, by omega⟩ ?_; intro w3 hs3 hg3; have hb3 : Below w1.heap.size wr w3 := (Below.refl _ wr).grown hg3 (by have := hse.lt; omega) (fun k e => by cases e; exact Nat.le_refl _); have k0 := (hb3.block w.heap.size (by omega)).trans k0; have hbw3 : Below w.heap.size w w3 := hbr.trans (hb3.mono (by omega)); have k0_0 : w3.cell? ⟨w.heap.size, 0, none⟩ = some (.pointer (some ⟨bO, 0, none⟩)) := (by rw [cell_of_block k0]; rfl); have k0_1 : w3.cell? ⟨w.heap.size, 1, none⟩ = some (.pointer (some ⟨bY, 0, none⟩)) := (by rw [cell_of_block k0]; rfl))
            refine (hH1 _ hbw3).mono ?_
            rintro e w4 ⟨rfl, hb4⟩
            have k0 := bblock hb4 k0
            have hs4 := hs3.below hb4
            have hbw4 := bchain hb4 hbw3
            have hz4 : w.heap.size < w4.heap.size := (Array.getElem?_eq_some_iff.1 k0).1
            clear k0_0 k0_1 hb4 hbw3 hs3 hlook hse hb3 hg3 hH1
            have k0_0 : w4.cell? ⟨w.heap.size, 0, none⟩ = some (.pointer (some ⟨bO, 0, none⟩)) := (by rw [cell_of_block k0]; rfl)
            have k0_1 : w4.cell? ⟨w.heap.size, 1, none⟩ = some (.pointer (some ⟨bY, 0, none⟩)) := (by rw [cell_of_block k0]; rfl)
            go_wp2_with fail
            refine (hL1 _ (by (repeat (first | exact Below.refl _ _ | assumption | refine Below.drew ?_ | refine below_drewN ?_ _ | refine balloc ?_ _ | refine Below.setCell ?_ (by first | (simp; done) | (simp; omega) | omega) _ | refine bchain (by assumption) ?_)))).mono ?_
            rintro e w5 ⟨rfl, hb5⟩
            have hB5 : Below w4.heap.size w4 w5 := by (repeat (first | exact Below.refl _ _ | assumption | refine Below.drew ?_ | refine below_drewN ?_ _ | refine balloc ?_ _ | refine Below.setCell ?_ (by first | (simp; done) | (simp; omega) | omega) _ | refine bchain (by assumption) ?_))
            have k0 := bblock hB5 k0
            have hs5 := hs4.below hB5
            have hbw5 := bchain hB5 hbw4
            clear k0_0 k0_1
            have k0_0 : w5.cell? ⟨w.heap.size, 0, none⟩ = some (.pointer (some ⟨bO, 0, none⟩)) := (by rw [cell_of_block k0]; rfl)
            have k0_1 : w5.cell? ⟨w.heap.size, 1, none⟩ = some (.pointer (some ⟨bY, 0, none⟩)) := (by rw [cell_of_block k0]; rfl)
            go_wp2_with fail
            refine (hA1 _).mono ?_
            rintro e w6 ⟨rfl, hb6⟩
            have k0 := bblock hb6 k0
            have hs6 := hs5.below hb6
            have hbw6 := bchain hb6 hbw5
            clear hb5 hs4 hs5 hb6 hB5
            go_wp2
            go_ret2
            exact ⟨rfl, by (repeat (first | exact Below.refl _ _ | assumption | refine Below.drew ?_ | refine below_drewN ?_ _ | refine balloc ?_ _ | refine Below.setCell ?_ (by first | (simp; done) | (simp; omega) | omega) _ | refine bchain (by assumption) ?_))⟩
          · have hH1 := fun W h => hH W h x
            rw [he, hk4] at hH1
            have hL1 := fun W h => hL W h (x + 2)
            have hA1 := fun W => address_any (LD wo wy (x + 2)) (hu (x + 2)) W
            rw [had] at hA1
            obtain ⟨htr2, hl2⟩ := trail_step htr hin ⟨he, hk4, had⟩
            have hnb : 0 ≤ nxt wo wy x ∧ nxt wo wy x ≤ 1099511627776 := by
              have h5 := (adB_iff.1 had).2
              have h6 := (hu (x + 2)).nonneg
              unfold nxt adA
              rw [had, if_pos rfl]
              omega
            have hadx : adA (LD wo wy (x + 2)) = nxt wo wy x := rfl
            rw [hadx] at hA1
            have hlen : (S ++ [x]).length = S.length + 1 := by simp
            have HLN := Lib.hid hlen
            clear htr he hk4 had hadx hlen hL0
            generalize LD wo wy (x + 2) = xv at *
            generalize LE wo wy (x + 2) = yv at *
            generalize nxt wo wy x = av at *
            generalize HC wo wy x = hc at *
            generalize HF wo wy x = hf at *
            have HIN := Lib.hid hin
            have HG := Lib.hid hgk
            clear hin hgk
            go_wp2_with (at_mapUpdate; refine wpList_seen rfl _ _ _ rfl w1.heap.size S rfl hse (by omega) x rfl rfl ⟨by omega, by omega⟩ ?_; intro w3 hs3 hg3; have hb3 : Below w1.heap.size wr w3 := (Below.refl _ wr).grown hg3 (by have := hse.lt; omega) (fun k e => by cases e; exact Nat.le_refl _); have k0 := (hb3.block w.heap.size (by omega)).trans k0; have hbw3 : Below w.heap.size w w3 := hbr.trans (hb3.mono (by omega)); have k0_0 : w3.cell? ⟨w.heap.size, 0, none⟩ = some (.pointer (some ⟨bO, 0, none⟩)) := (by rw [cell_of_block k0]; rfl); have k0_1 : w3.cell? ⟨w.heap.size, 1, none⟩ = some (.pointer (some ⟨bY, 0, none⟩)) := (by rw [cell_of_block k0]; rfl))
            refine (hH1 _ hbw3).mono ?_
            rintro e w4 ⟨rfl, hb4⟩
            have k0 := bblock hb4 k0
            have hs4 := hs3.below hb4
            have hbw4 := bchain hb4 hbw3
            have hz4 : w.heap.size < w4.heap.size := (Array.getElem?_eq_some_iff.1 k0).1
            clear k0_0 k0_1 hb4 hbw3 hs3 hlook hse hb3 hg3 hH1
            have k0_0 : w4.cell? ⟨w.heap.size, 0, none⟩ = some (.pointer (some ⟨bO, 0, none⟩)) := (by rw [cell_of_block k0]; rfl)
            have k0_1 : w4.cell? ⟨w.heap.size, 1, none⟩ = some (.pointer (some ⟨bY, 0, none⟩)) := (by rw [cell_of_block k0]; rfl)
            go_wp2_with fail
            refine (hL1 _ (by (repeat (first | exact Below.refl _ _ | assumption | refine Below.drew ?_ | refine below_drewN ?_ _ | refine balloc ?_ _ | refine Below.setCell ?_ (by first | (simp; done) | (simp; omega) | omega) _ | refine bchain (by assumption) ?_)))).mono ?_
            rintro e w5 ⟨rfl, hb5⟩
            have hB5 : Below w4.heap.size w4 w5 := by (repeat (first | exact Below.refl _ _ | assumption | refine Below.drew ?_ | refine below_drewN ?_ _ | refine balloc ?_ _ | refine Below.setCell ?_ (by first | (simp; done) | (simp; omega) | omega) _ | refine bchain (by assumption) ?_))
            have k0 := bblock hB5 k0
            have hs5 := hs4.below hB5
            have hbw5 := bchain hB5 hbw4
            clear k0_0 k0_1
            have k0_0 : w5.cell? ⟨w.heap.size, 0, none⟩ = some (.pointer (some ⟨bO, 0, none⟩)) := (by rw [cell_of_block k0]; rfl)
            have k0_1 : w5.cell? ⟨w.heap.size, 1, none⟩ = some (.pointer (some ⟨bY, 0, none⟩)) := (by rw [cell_of_block k0]; rfl)
            go_wp2_with fail
            refine (hA1 _).mono ?_
            rintro e w6 ⟨rfl, hb6⟩
            have k0 := bblock hb6 k0
            have hs6 := hs5.below hb6
            have hbw6 := bchain hb6 hbw5
            clear hb5 hs4 hs5 hb6 hB5
            go_wp2
            go_roundg (wo.length + wy.length + 1 - (S ++ [x]).length)
            case measure => have := HG.out; have := HLN.out; omega
            case rel => exact ⟨S ++ [x], av, rfl, hl2, rfl, htr2, hnb, hs6, k0, hbw6⟩
        · have hH1 := fun W h => hH W h x
          rw [he] at hH1
          obtain ⟨m, hm⟩ := trail_pos htr
          have e := HR.out.symm.trans (htr.fuel.trans ((congrArg (fun k => rsv wo wy k x) hm).trans (rsv_end he hk4 m)))
          obtain ⟨rfl, rfl⟩ := Prod.mk.inj e
          have hb1 : (HK wo wy r1 != 4) = true := by simpa using hk4
          clear HR e hm hH hL hu hrg hL0 htr he hk4
          generalize HK wo wy r1 = hk at *
          generalize HC wo wy r1 = hc at *
          generalize HF wo wy r1 = hf at *
          have HIN := Lib.hid hin
          have HG := Lib.hid hgk
          clear hin hgk
          go_wp2_with (at_mapUpdate; refine wpList_seen rfl _ _ _ rfl w1.heap.size S rfl hse (by omega) r1 rfl rfl ⟨by omega, by omega⟩ ?_; intro w3 hs3 hg3; have hb3 : Below w1.heap.size wr w3 := (Below.refl _ wr).grown hg3 (by have := hse.lt; omega) (fun k e => by cases e; exact Nat.le_refl _); have k0 := (hb3.block w.heap.size (by omega)).trans k0; have hbw3 : Below w.heap.size w w3 := hbr.trans (hb3.mono (by omega)); have k0_0 : w3.cell? ⟨w.heap.size, 0, none⟩ = some (.pointer (some ⟨bO, 0, none⟩)) := (by rw [cell_of_block k0]; rfl); have k0_1 : w3.cell? ⟨w.heap.size, 1, none⟩ = some (.pointer (some ⟨bY, 0, none⟩)) := (by rw [cell_of_block k0]; rfl))
          refine (hH1 _ hbw3).mono ?_
          rintro e w4 ⟨rfl, hb4⟩
          have k0 := bblock hb4 k0
          have hs4 := hs3.below hb4
          have hbw4 := bchain hb4 hbw3
          have hz4 : w.heap.size < w4.heap.size := (Array.getElem?_eq_some_iff.1 k0).1
          clear k0_0 k0_1 hb4 hbw3 hs3 hlook hse hb3 hg3 hH1
          have k0_0 : w4.cell? ⟨w.heap.size, 0, none⟩ = some (.pointer (some ⟨bO, 0, none⟩)) := (by rw [cell_of_block k0]; rfl)
          have k0_1 : w4.cell? ⟨w.heap.size, 1, none⟩ = some (.pointer (some ⟨bY, 0, none⟩)) := (by rw [cell_of_block k0]; rfl)
          go_wp2
          go_ret2
          exact ⟨rfl, by (repeat (first | exact Below.refl _ _ | assumption | refine Below.drew ?_ | refine below_drewN ?_ _ | refine balloc ?_ _ | refine Below.setCell ?_ (by first | (simp; done) | (simp; omega) | omega) _ | refine bchain (by assumption) ?_))⟩
      · have hH1 := fun W h => hH W h x
        have e := HR.out.symm.trans (htr.fuel.trans (rsv_err he _))
        obtain ⟨rfl, rfl⟩ := Prod.mk.inj e
        clear HR e
        have hb1 : (HE wo wy x != 0) = true := by simpa using he
        clear hH hL hu hrg hL0 htr
        generalize HK wo wy x = hk at *
        generalize HC wo wy x = hc at *
        generalize HF wo wy x = hf at *
        generalize HE wo wy x = er at *
        clear he
        have HIN := Lib.hid hin
        have HG := Lib.hid hgk
        clear hin hgk
        go_wp2_with (at_mapUpdate; refine wpList_seen rfl _ _ _ rfl w1.heap.size S rfl hse (by omega) x rfl rfl ⟨by omega, by omega⟩ ?_; intro w3 hs3 hg3; have hb3 : Below w1.heap.size wr w3 := (Below.refl _ wr).grown hg3 (by have := hse.lt; omega) (fun k e => by cases e; exact Nat.le_refl _); have k0 := (hb3.block w.heap.size (by omega)).trans k0; have hbw3 : Below w.heap.size w w3 := hbr.trans (hb3.mono (by omega)); have k0_0 : w3.cell? ⟨w.heap.size, 0, none⟩ = some (.pointer (some ⟨bO, 0, none⟩)) := (by rw [cell_of_block k0]; rfl); have k0_1 : w3.cell? ⟨w.heap.size, 1, none⟩ = some (.pointer (some ⟨bY, 0, none⟩)) := (by rw [cell_of_block k0]; rfl))
        refine (hH1 _ hbw3).mono ?_
        rintro e w4 ⟨rfl, hb4⟩
        have k0 := bblock hb4 k0
        have hs4 := hs3.below hb4
        have hbw4 := bchain hb4 hbw3
        have hz4 : w.heap.size < w4.heap.size := (Array.getElem?_eq_some_iff.1 k0).1
        clear k0_0 k0_1 hb4 hbw3 hs3 hlook hse hb3 hg3 hH1
        have k0_0 : w4.cell? ⟨w.heap.size, 0, none⟩ = some (.pointer (some ⟨bO, 0, none⟩)) := (by rw [cell_of_block k0]; rfl)
        have k0_1 : w4.cell? ⟨w.heap.size, 1, none⟩ = some (.pointer (some ⟨bY, 0, none⟩)) := (by rw [cell_of_block k0]; rfl)
        go_wp2
        go_ret2
        exact ⟨rfl, by (repeat (first | exact Below.refl _ _ | assumption | refine Below.drew ?_ | refine below_drewN ?_ _ | refine balloc ?_ _ | refine Below.setCell ?_ (by first | (simp; done) | (simp; omega) | omega) _ | refine bchain (by assumption) ?_))⟩
end Go.Proofs.Ytgjaafcagnkfdaa
namespace Go.Proofs.Ytgjaafcagnkfdaa
open Go.RowKit
set_option linter.unusedSimpArgs false
set_option linter.unusedVariables false

theorem mresolve_any {w : World} {bO bY : Nat} {lo ly : Int} {wo wy : List Int} {gO gY : Option Nat} (hm : MemAt w bO bY lo ly wo wy gO gY) (a : Int) : Calls Try.prog 47 #[.agg #[.pointer (some ⟨bO, 0, none⟩), .pointer (some ⟨bY, 0, none⟩)], .int .i64 a] w fun e w' => e = .returned (.tuple #[.int .i64 (RA wo wy a), .int .i64 (RE wo wy a)]) ∧ Below w.heap.size w w' := by
  unfold RA RE
  by_cases hl : LE wo wy a = 0
  · rw [if_pos hl, if_pos hl]
    exact mresolve_in hm a hl _ _ rfl
  · rw [if_neg hl, if_neg hl]
    exact mresolve_out hm a hl
def tfB (wo wy : List Int) (a t : Int) : Bool := decide (RE wo wy t ≠ 0 ∨ RA wo wy t = a)
def tfE (wo wy : List Int) (a t : Int) : Int := if isE (fun k => k != 4) wo wy a ≠ 0 then isE (fun k => k != 4) wo wy a else if tfB wo wy a t then 1 else 0
def tfM (wo wy : List Int) (a t : Int) : List Int × List Int := if tfE wo wy a t = 0 then wrM wo wy a 4 [faW t] else (wo, wy)
end Go.Proofs.Ytgjaafcagnkfdaa
namespace Go.Proofs.Ytgjaafcagnkfdaa
open Go.RowKit
set_option linter.unusedSimpArgs false
set_option linter.unusedVariables false

/-- The limit of a new memory. -/
def nmL (limit : Int) : Int := if limit < 0 then 0 else if limit ≤ 16777216 then limit else 16777216
theorem nmL_bd (limit : Int) : 0 ≤ nmL limit ∧ nmL limit ≤ 16777216 := by unfold nmL; split <;> (try split) <;> omega
theorem newLm_at {b L : Int} (h0 : 0 ≤ b) (h1 : 0 ≤ L) (h2 : L ≤ 16777216) (h3 : b ≤ 16777216) : newLm b (b + L) = b + L := by unfold newLm; omega
theorem new_ok {b L : Int} (h0 : 0 ≤ b) (h1 : 0 ≤ L) (h2 : L ≤ 16777216) (h3 : b ≤ 16777216) : SpOk b (b + L) [] := ⟨h0, by simp; omega, by omega, fun x h => by cases h⟩
theorem space_made {w : World} {k : Nat} {b lm : Int} (h : w.heap[k]? = some (.cells #[.int .i64 b, .int .i64 lm, .slice none 0 0] 69 (0, 0))) : SpAt w k b lm [] none := ⟨none, 0, h, ⟨by simp, by omega, .inl ⟨rfl, rfl⟩⟩, by simp⟩
theorem mem_made {w : World} {b1 b2 : Nat} {L : Int} (h0 : 0 ≤ L) (h1 : L ≤ 16777216) (h : w.heap[b1]? = some (.cells #[.int .i64 0, .int .i64 L, .slice none 0 0] 69 (0, 0))) (h' : w.heap[b2]? = some (.cells #[.int .i64 16777216, .int .i64 (16777216 + L), .slice none 0 0] 69 (0, 0))) (hn : b1 ≠ b2) : MemAt w b1 b2 L (16777216 + L) [] [] none none :=
  ⟨space_made h, space_made h', (by have := new_ok (b := 0) (by omega) h0 h1 (by omega); rwa [show (0 : Int) + L = L by omega] at this), new_ok (by omega) h0 h1 (by omega), h1, hn, by simp, by simp, by simp⟩
def NewMem (w : World) (L : Int) (e : Ending) (w' : World) : Prop := ∃ b1 b2, w.heap.size ≤ b1 ∧ w.heap.size ≤ b2 ∧ e = .returned (.agg #[.pointer (some ⟨b1, 0, none⟩), .pointer (some ⟨b2, 0, none⟩)]) ∧ MemAt w' b1 b2 L (16777216 + L) [] [] none none ∧ Below w.heap.size w w'
set_option maxRecDepth 100000 in
set_option maxHeartbeats 1000000 in
theorem onew_any (limit : Int) (w : World) : Calls Try.prog 11 #[.int .i64 limit] w (NewMem w (nmL limit)) := by
  obtain ⟨l0, l1⟩ := nmL_bd limit
  have hX : min (max limit 0) 16777216 = nmL limit := by unfold nmL; split <;> (try split) <;> omega
  generalize nmL limit = L at *
  have n1 := fun W => new_any 0 L W
  have n2 := fun W => new_any 16777216 (16777216 + L) W
  rw [show max (0 : Int) 0 = 0 by decide, show newLm 0 L = L by have := newLm_at (b := 0) (by omega) l0 l1 (by omega); rwa [show (0 : Int) + L = L by omega] at this] at n1
  rw [show max (16777216 : Int) 0 = 16777216 by decide, newLm_at (by omega) l0 l1 (by omega)] at n2
  have hm := fun (W : World) => mem_made (w := W) (b1 := w.heap.size + 1) (b2 := w.heap.size + 2) l0 l1
  go_enter Try.func11, Try.ntmps11
  go_wp2_with fail
  refine (n1 _).mono ?_
  rintro e _ ⟨rfl, rfl⟩
  go_wp2_with fail
  refine (n2 _).mono ?_
  rintro e _ ⟨rfl, rfl⟩
  go_wp2
  refine bodyPost_ret (v := .agg #[.pointer (some ⟨w.heap.size + 1, 0, none⟩), .pointer (some ⟨w.heap.size + 2, 0, none⟩)]) (by simp [results, Try.results11, go_sem]) rfl ?_
  refine ⟨w.heap.size + 1, w.heap.size + 2, by omega, by omega, rfl, hm _ ?_ ?_ (by omega), by (repeat (first | exact Below.refl _ _ | assumption | refine Below.drew ?_ | refine below_drewN ?_ _ | refine balloc ?_ _ | refine Below.setCell ?_ (by first | (simp; done) | (simp; omega) | omega) _ | refine bchain (by assumption) ?_))⟩
  · repeat (first | exact alloc_at _ (by simp) | refine alloc_lt _ ?_)
  · repeat (first | exact alloc_at _ (by simp) | refine alloc_lt _ ?_)
end Go.Proofs.Ytgjaafcagnkfdaa
namespace Go.Proofs.Ytgjaafcagnkfdaa
open Go.RowKit
set_option linter.unusedSimpArgs false
set_option linter.unusedVariables false

theorem mem_old' {w : World} {bO bY : Nat} {lo ly : Int} {wo wy : List Int} {gO gY : Option Nat} (hm : MemAt w bO bY lo ly wo wy gO gY) {w' : World} {wo' : List Int} (hn : SpNext w bO 0 lo wo' gO w') (hk : SpOk 0 lo wo') : ∃ gO', MemAt w' bO bY lo ly wo' wy gO' gY ∧ Mods (MS bO bY gO gY) w w' ∧ (∀ G, gO' = some G → gO = some G ∨ w.heap.size ≤ G) := by
  obtain ⟨g', hs, hM, hg⟩ := hn
  have l1 := hm.yng.lt
  have l2 := hm.yng.glt
  refine ⟨g', ⟨hs, hm.yng.mods hM (not_sps (Ne.symm hm.bb) (fun G e => fun h => hm.gb (by rw [e, h]))) (fun G e => not_sps (fun h => hm.bg (by rw [e, h])) (fun G' e' h => hm.gg G' e' (by rw [e, h]))), hk, hm.okY, hm.lim, hm.bb, fun e => ?_, hm.bg, fun G e e' => ?_⟩, hM.mono (fun k hk => .inl hk), hg⟩
  · rcases hg _ e with h | h
    · exact hm.gb h
    · omega
  · rcases hg _ e with h | h
    · exact hm.gg G h e'
    · have := l2 G e'; omega
theorem mem_yng' {w : World} {bO bY : Nat} {lo ly : Int} {wo wy : List Int} {gO gY : Option Nat} (hm : MemAt w bO bY lo ly wo wy gO gY) {w' : World} {wy' : List Int} (hn : SpNext w bY 16777216 ly wy' gY w') (hk : SpOk 16777216 ly wy') : ∃ gY', MemAt w' bO bY lo ly wo wy' gO gY' ∧ Mods (MS bO bY gO gY) w w' ∧ (∀ G, gY' = some G → gY = some G ∨ w.heap.size ≤ G) := by
  obtain ⟨g', hs, hM, hg⟩ := hn
  have l1 := hm.old.lt
  have l2 := hm.old.glt
  refine ⟨g', ⟨hm.old.mods hM (not_sps hm.bb (fun G e => fun h => hm.bg (by rw [e, h]))) (fun G e => not_sps (fun h => hm.gb (by rw [e, h])) (fun G' e' h => hm.gg G e (by rw [e', h]))), hs, hm.okO, hk, hm.lim, hm.bb, hm.gb, fun e => ?_, fun G e e' => ?_⟩, hM.mono (fun k hk => .inr hk), hg⟩
  · rcases hg _ e with h | h
    · exact hm.bg h
    · omega
  · rcases hg _ e' with h | h
    · exact hm.gg G e h
    · have := l2 G e; omega
theorem aw1 : nmL 100 = 100 := by decide
theorem aw2 : alA 0 100 [] 0 1 3 1 1 = 0 ∧ alE 0 100 [] 0 1 3 1 1 = 0 := by decide
def awO1 : List Int := alW 0 100 [] 0 1 3 1 1
def awO2 : List Int := sfO awO1 [] 0 2 5
def awO3 : List Int := (tsM awO2 [] 0 2 9).1
theorem aw3 : sfE awO1 [] 0 2 = 0 ∧ sfY awO1 [] 0 2 5 = [] := by decide
theorem aw4 : LD awO2 [] 4 = 5 ∧ LE awO2 [] 4 = 0 := by decide
theorem aw5 : tsE awO2 [] 0 2 = 0 ∧ (tsM awO2 [] 0 2 9).2 = [] := by decide
theorem aw6a : sbE awO3 [] 0 = 0 := by decide
theorem aw6 : sbN awO3 [] 0 = 2 ∧ sbU awO3 [] 0 = 9 ∧ sbE awO3 [] 0 = 0 := by
  refine ⟨?_, by decide, aw6a⟩
  unfold sbN
  rw [if_pos aw6a, show LD awO3 [] (0 + 2) = 2 by decide]
  unfold wrap64; omega
theorem aw7 : LD awO3 [] 4 = 0 ∧ LE awO3 [] 4 = 0 ∧ LD awO3 [] 3 = 9 ∧ LE awO3 [] 3 = 0 := by decide
end Go.Proofs.Ytgjaafcagnkfdaa
