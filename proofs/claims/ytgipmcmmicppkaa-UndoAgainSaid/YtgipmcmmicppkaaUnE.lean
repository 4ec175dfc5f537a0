/-
  law 13: every operation on both sides; the two sides compared.
-/
import Derived.Test.YtgipmcmmicppkaaUnD
import Derived.Test.YtgipmcmmicppkaaUnZ
import Derived.Test.YtgipmcmmicppkaaUnW
import Derived.Test.YtgipmcmmicppkaaUnC
namespace Go.Proofs.Ytgipmcmmicppkaa
open Go.RowKit
set_option linter.unusedSimpArgs false
set_option linter.unusedVariables false

noncomputable def stpS (lo ly : Int) (s : M13) (nn kd nf a u : Int) (raw : Bool) : M13 :=
  if kd = 0 then alS lo ly false s (nf.tmod 6) (nn + 1) else if kd = 1 then alS lo ly true s (nf.tmod 6) (nn + 1)
  else if kd = 2 then ntS s (at13 raw s.wo.length s.wy.length a) else if kd = 3 then stS s (at13 raw s.wo.length s.wy.length a) u
  else if kd = 4 then stS (ntS s (at13 raw s.wo.length s.wy.length a)) (at13 raw s.wo.length s.wy.length a) u
  else if kd = 5 then bgS s else if kd = 6 then cmS s else if kd = 7 then rlS s else s
def stpN (nn kd : Int) : Int := if kd = 0 then nn + 1 else if kd = 1 then nn + 1 else nn
theorem step_any {w : World} {n0 : Dom} {p : Nat} {lo ly nn : Int} {s : M13} (kd nf a u : Int) (raw : Bool) (h : WW w n0 p lo ly s s nn) (hnn : 0 ≤ nn) (hnn1 : nn < 4611686018427387904) (hkd : 0 ≤ kd) (hnf : 0 ≤ nf) (hnf1 : nf < 256) (hu : U64 u) (hn : s.nt.length ≤ 100000) :
    Calls Try.prog 25 #[.pointer (some ⟨p, 0, none⟩), .agg #[.int .u8 kd, .int .u8 nf, .int .i64 a, .int .u64 u, .bool raw]] w fun e w' => e = .returned (.bool true) ∧ WNx w n0 p lo ly (stpS lo ly s nn kd nf a u raw) (stpS lo ly s nn kd nf a u raw) (stpN nn kd) w' := by
  unfold stpS stpN
  by_cases h0 : kd = 0
  · subst h0; exact step_0 nf a u raw h hnn hnn1 hnf hnf1
  rw [if_neg h0, if_neg h0]
  by_cases h1 : kd = 1
  · subst h1; exact step_1 nf a u raw h hnn hnn1 hnf hnf1
  rw [if_neg h1, if_neg h1]
  by_cases h2 : kd = 2
  · subst h2; exact step_2 nf a u raw h hn
  rw [if_neg h2]
  by_cases h3 : kd = 3
  · subst h3; exact step_3 nf a u raw h hu
  rw [if_neg h3]
  by_cases h4 : kd = 4
  · subst h4; exact step_4 nf a u raw h hu hn
  rw [if_neg h4]
  by_cases h5 : kd = 5
  · subst h5; exact step_5 nf a u raw h
  rw [if_neg h5]
  by_cases h6 : kd = 6
  · subst h6; exact step_6 nf a u raw h
  rw [if_neg h6]
  by_cases h7 : kd = 7
  · subst h7; exact step_7 nf a u raw h hn
  rw [if_neg h7]
  exact step_8 kd nf a u raw h (by omega)
theorem WrdsV.of_rowAt {w : World} {a : Option Addr} {cap : Nat} {ws : List Int} {g : Option Nat} (h : RowAt w a cap ws g) (n : Nat) (hn : ws.length = n) : WrdsV w (.slice a n cap) ws := by
  subst hn
  obtain ⟨h1, h2, h3⟩ := h
  refine ⟨a, cap, rfl, h1, h2, ?_⟩
  rcases h3 with ⟨h3, _⟩ | ⟨G, cur, rfl, ha, hh, hs, ht⟩
  · exact .inl (List.length_eq_zero_iff.1 (by omega))
  · refine .inr ⟨G, 0, ha, fun i x hx => ?_⟩
    rw [Nat.zero_add, cell_of_block hh]
    have hi : i < ws.length := (List.getElem?_eq_some_iff.1 hx).1
    have e : (cur.toList.take ws.length)[i]? = (ws.map (Value.int .u64))[i]? := by rw [ht]
    rw [List.getElem?_take_of_lt hi] at e
    rw [← Array.getElem?_toList, e, List.getElem?_map, hx]
    rfl
set_option maxRecDepth 100000 in
set_option maxHeartbeats 4000000 in
theorem same_any {w : World} {n0 : Dom} {p : Nat} {lo ly nn : Int} {s : M13} (h : WW w n0 p lo ly s s nn) :
    Calls Try.prog 26 #[.pointer (some ⟨p, 0, none⟩)] w fun e w' => e = .returned (.bool true) ∧ Below w.heap.size w w' := by
  obtain ⟨bO, bY, bL, aO, nO, cO, aY, nY, cY, vA, vW, rO, rY, S, h⟩ := h
  obtain ⟨a1, c1, eA, _⟩ := row_form1 h.lg.at_
  subst eA
  have HW := Lib.hid h
  have hreal := h.real
  obtain ⟨lv, gO, gY, hR, hS⟩ := hreal
  have HR := Lib.hid hR
  have kp := h.blk
  unfold wc13 at kp
  have p0 : w.cell? ⟨p, 0, none⟩ = some (.pointer (some ⟨bO, 0, none⟩)) := by rw [cell_of_block kp]; rfl
  have p1 : w.cell? ⟨p, 1, none⟩ = some (.pointer (some ⟨bY, 0, none⟩)) := by rw [cell_of_block kp]; rfl
  have HQ := Lib.hid kp
  clear h hR hS kp
  go_enter Try.func26, Try.ntmps26
  go_wp2_with fail
  refine (words13_any HR.out.mem).mono ?_
  rintro e w1 ⟨v1, v2, rfl, hv1, hv2, hb1, _, _⟩
  have kp := bblock hb1 HQ.out
  have o2 : ∀ x, (over w1 x).cell? ⟨p, 2, none⟩ = some (.pointer (some ⟨bL, 0, none⟩)) := over_cell (by rw [cell_of_block kp]; rfl)
  have o5 : ∀ x, (over w1 x).cell? ⟨p, 5, none⟩ = some (.slice aO nO cO) := over_cell (by rw [cell_of_block kp]; rfl)
  have o8 : ∀ x, (over w1 x).cell? ⟨p, 8, none⟩ = some (.slice aY nY cY) := over_cell (by rw [cell_of_block kp]; rfl)
  have o9 : ∀ x, (over w1 x).cell? ⟨p, 9, none⟩ = some (.bool s.op) := over_cell (by rw [cell_of_block kp]; rfl)
  have o11 : ∀ x, (over w1 x).cell? ⟨p, 11, none⟩ = some (.slice a1 s.nt.length c1) := over_cell (by rw [cell_of_block kp]; rfl)
  have hm1 := HW.out.below hb1
  have hz : p < w1.heap.size := hm1.plt
  have hW1 := fun W (H : Below w1.heap.size w1 W) => wrds_any (hv1.below H) (WrdsV.of_rowAt (hm1.rm.below H).old _ hm1.rm.lO)
  have hW2 := fun W (H : Below w1.heap.size w1 W) => wrds_any (hv2.below H) (WrdsV.of_rowAt (hm1.rm.below H).yng _ hm1.rm.lY)
  have hOp := fun W (H : Below w1.heap.size w1 W) => lopen_any (hm1.real.below H)
  have hLn := fun W (H : Below w1.heap.size w1 W) => llen_any (hm1.real.below H)
  simp only [decide_true] at hW1 hW2
  have HW1 := Lib.hid hW1
  have HW2 := Lib.hid hW2
  have HOp := Lib.hid hOp
  have HLn := Lib.hid hLn
  have HB1 := Lib.hid hb1
  clear hW1 hW2 hOp hLn hm1 hv1 hv2 kp
  go_wp2_with fail
  (refine wp_region_over (by kernel_rfl) (by kernel_rfl) ?_); (repeat (go_big_quiet_step (((first | (go_at_call 28; first | (with_reducible exact calls_over (HW1.out _ (over_below _ _))) | (with_reducible exact calls_over (HW2.out _ (over_below _ _)))) | (go_at_call 22; exact calls_over (HOp.out _ (over_below _ _))) | (go_at_call 17; exact calls_over (HLn.out _ (over_below _ _)))))))); (refine wpQuiet_nil ?_)
  intro w2 hb2
  have HF := Lib.hid (bchain hb2 HB1.out)
  clear o2 o5 o8 o9 o11
  go_wp2
  go_ret
  exact ⟨by simp, HF.out⟩
end Go.Proofs.Ytgipmcmmicppkaa
