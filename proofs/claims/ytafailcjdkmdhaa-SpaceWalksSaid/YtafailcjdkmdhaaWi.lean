/-
  The iterator that (*Space).walk hands back: its contract.
-/
import Derived.RangeFuncKeeps
import Derived.RangeFuncLeaves
import Derived.Shelf.Abstract
import Derived.WalkKit
import Derived.OwnWalkIn
import Derived.TacticsInMore
import Derived.LoopNIn
import Derived.LoopIn
import Derived.Test.YtafailcjdkmdhaaWk
namespace Go.Proofs.Ytafailcjdkmdhaa
open Go.RowKit Go.Shelf
set_option linter.unusedSimpArgs false
set_option linter.unusedVariables false

/-- The places of the objects from place i on. -/
def objs (ws : List Int) (i : Nat) : List Nat := if h : szB ws i = true then i :: objs ws (i + szN ws i) else []
termination_by ws.length - i
decreasing_by have := szN_bd h; omega
/-- Where walking from place i ends. -/
def stopAt (ws : List Int) (i : Nat) : Nat := if h : szB ws i = true then stopAt ws (i + szN ws i) else i
termination_by ws.length - i
decreasing_by have := szN_bd h; omega
theorem objs_yes {ws : List Int} {i : Nat} (h : szB ws i = true) : objs ws i = i :: objs ws (i + szN ws i) := by rw [objs, dif_pos h]
theorem objs_no {ws : List Int} {i : Nat} (h : szB ws i = false) : objs ws i = [] := by rw [objs, dif_neg (by rw [h]; simp)]
theorem stopAt_yes {ws : List Int} {i : Nat} (h : szB ws i = true) : stopAt ws i = stopAt ws (i + szN ws i) := by rw [stopAt, dif_pos h]
theorem stopAt_no {ws : List Int} {i : Nat} (h : szB ws i = false) : stopAt ws i = i := by rw [stopAt, dif_neg (by rw [h]; simp)]
/-- What walking from place i on yields. -/
def seqL (bs : Int) (ws : List Int) (i : Nat) : List (Int × Bool) := (objs ws i).map (fun (j : Nat) => (bs + (j : Int), true)) ++ [(bs + (stopAt ws i : Int), false)]
theorem seqL_yes {bs : Int} {ws : List Int} {i : Nat} (h : szB ws i = true) : seqL bs ws i = (bs + (i : Int), true) :: seqL bs ws (i + szN ws i) := by unfold seqL; rw [objs_yes h, stopAt_yes h]; rfl
theorem seqL_no {bs : Int} {ws : List Int} {i : Nat} (h : szB ws i = false) : seqL bs ws i = [(bs + (i : Int), false)] := by unfold seqL; rw [objs_no h, stopAt_no h]; rfl

/-- The blocks of K lie as they lay. -/
def KeepB (K : Nat → Prop) (A B : World) : Prop := ∀ k, K k → B.heap[k]? = A.heap[k]?
theorem KeepB.t {K : Nat → Prop} {A B C : World} (h : KeepB K A B) (k : KeepB K B C) : KeepB K A C := fun i hi => (k i hi).trans (h i hi)
theorem KeepB.of_below {K : Nat → Prop} {A B : World} (h : Below A.heap.size A B) (hK : ∀ k, K k → k < A.heap.size) : KeepB K A B := fun i hi => h.block i (hK i hi)
theorem KeepB.b {K : Nat → Prop} {w : World} (hK : ∀ k, K k → k < w.heap.size) (W : World) (l : Nat) (o o' : Obj) (hl : w.heap.size ≤ l) (_ : W.heap[l]? = some o) (_ : o.isCells = false) (_ : o.isWalk = false) : KeepB K W (W.putObj l o') :=
  fun k hk => World.putObj_heap_other (by have := hK k hk; omega)
def WkK (Bn b : Nat) (g : Option Nat) : Nat → Prop := fun k => k = Bn ∨ k = b ∨ g = some k
theorem SpAt.keepB {A B : World} {Bn b : Nat} {bs lm : Int} {ws : List Int} {g : Option Nat} (h : SpAt A b bs lm ws g) (hk : KeepB (WkK Bn b g) A B) : SpAt B b bs lm ws g :=
  h.keep (fun o ho => (hk b (.inr (.inl rfl))).trans ho) (fun G o e ho => (hk G (.inr (.inr e))).trans ho)
theorem grown_of {A B : World} (h : Below A.heap.size A B) : A.grownBy B none := ⟨h.os, h.tape, h.output, h.size, fun k hk _ => h.block k hk⟩
theorem below_of {A B : World} (h : A.grownBy B none) : Below A.heap.size A B := ⟨h.os, h.tape, h.output, h.size, fun k hk => h.block k hk (by simp)⟩
theorem abgo {β : Type} {N : Nat} {J : β → World → Prop} (h : AbidesFrom N J) {s : β} {A B : World} (hs : J s A) (hb : Below A.heap.size A B) : J s B := h s A B none hs (grown_of hb) (fun r e => by cases e)

attribute [local go_sem] Oper.semAt_some
def natOf : Value → Nat
  | .int _ v => v.toNat
  | _ => 0

set_option maxRecDepth 100000 in
set_option maxHeartbeats 1000000 in
theorem walk1_in (n : Nat) (hn : 1 ≤ n) (l Bn : Nat) {b : Nat} {bs lm : Int} {ws : List Int} {g : Option Nat} (hk : SpOk bs lm ws) (N0 : Nat) (J Jx : List (Int × Bool) → World → Prop) (hJ : AbidesFrom N0 J) (hJx : AbidesFrom N0 Jx)
    (hY : ∀ pre (x : Int × Bool) W, x ∈ seqL bs ws 0 → J pre W → pre.length < (seqL bs ws 0).length → YieldAt Fence.wide (n - 1) Try.prog l #[.int .i64 x.1, .bool x.2] W fun e W' =>
      (e = .returned (.bool true) ∧ J (pre ++ [x]) W' ∧ KeepB (WkK Bn b g) W W') ∨ (e = .returned (.bool false) ∧ Jx (pre ++ [x]) W'))
    (W : World) (hBn : W.cell? ⟨Bn, 0, none⟩ = some (.pointer (some ⟨b, 0, none⟩))) (hL : SpAt W b bs lm ws g) (h0 : J [] W) :
    CallsIn Fence.wide n Try.prog 47 #[.func (.yield l) #[] #[], .pointer (some ⟨Bn, 0, none⟩)] W fun e W' => (∃ v, e = .returned v) ∧
      ((∃ ys, ys = seqL bs ws 0 ∧ J ys W') ∨ (∃ pre, pre <+: seqL bs ws 0 ∧ Jx pre W')) := by
  refine callsIn_of_wp Try.func47 rfl trivial ?_ rfl
  simp only [Try.ntmps47, List.size_toArray, List.length_cons, List.length_nil, Nat.reduceAdd, Nat.reduceSub, Array.replicate_succ, Array.replicate_zero, List.push_toArray, List.append_toArray, List.nil_append, List.cons_append]
  gi_wp2_with fail
  refine ⟨trivial, (callsIn_wide.2 (size_any hL hk 0 (Nat.zero_le _))).mono ?_⟩
  rintro e w1 ⟨rfl, hb1⟩
  have hL1 := hL.below hb1
  have hB1 := bcellv hb1 hBn
  have hJ1 := abgo hJ h0 hb1
  gi_wp2_with fail
  gi_loopw [3, 4] (fun p q wr => ∃ (pre : List (Int × Bool)) (i : Nat), p = .int .i64 i ∧ q = .int .i64 (szN ws i : Nat) ∧ i ≤ ws.length ∧ seqL bs ws 0 = pre ++ seqL bs ws i ∧ SpAt wr b bs lm ws g ∧ wr.cell? ⟨Bn, 0, none⟩ = some (.pointer (some ⟨b, 0, none⟩)) ∧ J pre wr)
    (fun p q wr => ws.length - natOf p)
  case atStart =>
    exact ⟨[], 0, rfl, rfl, Nat.zero_le _, rfl, hL1, hB1, hJ1⟩
  case round =>
    obtain ⟨pre, i, rfl, rfl, hi, hsq, hLr, hBr, hJr⟩ := hrel
    obtain ⟨a, cap, c0, c1, c2, hr⟩ := hLr.cells
    have b0 := hk.b0
    have b1 := hk.top
    have b2 := hk.lm1
    have s1 : IntKind.i64.wrap (bs + (i : Int)) = bs + (i : Int) := IntWalk.i64_in _ (by omega)
    cases hz : szB ws i
    · rw [szN_no hz] at *
      rw [seqL_no hz] at hsq
      have hlen : pre.length < (seqL bs ws 0).length := by rw [hsq]; simp
      obtain ⟨fn, tmps, assign, body, hy, hR⟩ := hY pre (bs + (i : Int), false) wr (by rw [hsq]; simp) hJr hlen
      gi_wp2
      refine hR.mono ?_
      clear hR hy
      rintro e W3 (⟨rfl, hJ3, hk3⟩ | ⟨rfl, hJx3⟩)
      · gi_wp2
        go_end0
        exact ⟨⟨_, rfl⟩, .inl ⟨_, rfl, by rw [hsq]; exact hJ3⟩⟩
      · gi_wp2
        go_end0
        exact ⟨⟨_, rfl⟩, .inr ⟨_, ⟨[], by rw [hsq]; simp⟩, hJx3⟩⟩
    · have hb := szN_bd hz
      rw [seqL_yes hz] at hsq
      have hlen : pre.length < (seqL bs ws 0).length := by rw [hsq]; simp
      have hp : (0 : Int) < (szN ws i : Nat) := by omega
      have s2 : IntKind.i64.wrap ((i : Int) + (szN ws i : Nat)) = ((i + szN ws i : Nat) : Int) := by rw [show ((i + szN ws i : Nat) : Int) = (i : Int) + (szN ws i : Nat) by omega]; exact IntWalk.i64_in _ (by omega)
      obtain ⟨fn, tmps, assign, body, hy, hR⟩ := hY pre (bs + (i : Int), true) wr (by rw [hsq]; simp) hJr hlen
      gi_wp2
      refine hR.mono ?_
      clear hR hy
      rintro e W3 (⟨rfl, hJ3, hk3⟩ | ⟨rfl, hJx3⟩)
      · have hL3 := hLr.keepB hk3
        have hB3 : W3.cell? ⟨Bn, 0, none⟩ = some (.pointer (some ⟨b, 0, none⟩)) := (World.cell?_of_block (hk3 Bn (.inl rfl))).trans hBr
        gi_wp2_with fail
        refine ⟨trivial, (callsIn_wide.2 (size_any hL3 hk (i + szN ws i) hb.2.2)).mono ?_⟩
        rintro e W4 ⟨rfl, hb4⟩
        have hL4 := hL3.below hb4
        have hB4 := bcellv hb4 hB3
        have hJ4 := abgo hJ hJ3 hb4
        gi_wp2
        go_roundw
        case rel => exact ⟨_, i + szN ws i, rfl, rfl, hb.2.2, by rw [hsq]; simp, hL4, hB4, hJ4⟩
        case measure => simp [natOf]; omega
      · gi_wp2
        refine bodyPost_ret (results_none rfl _ _ _) rfl ?_
        exact ⟨⟨_, rfl⟩, .inr ⟨_, ⟨seqL bs ws (i + szN ws i), by rw [hsq]; simp⟩, hJx3⟩⟩
end Go.Proofs.Ytafailcjdkmdhaa
