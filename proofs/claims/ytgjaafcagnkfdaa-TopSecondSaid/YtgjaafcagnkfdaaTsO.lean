/-
  refmeshtop.equal, refmeshtop.contents; barrier.Store.
-/
import Derived.Test.YtgjaafcagnkfdaaTsN
import Derived.BigQuiet
namespace Go.Proofs.Ytgjaafcagnkfdaa
open Go.RowKit Go.Maps
set_option linter.unusedSimpArgs false
set_option linter.unusedVariables false

set_option maxRecDepth 100000 in
set_option maxHeartbeats 2000000 in
theorem equal_eq {w : World} {v1 v2 : Value} {xs : List Int} (h1 : WrdsV w v1 xs) (h2 : WrdsV w v2 xs) :
    Calls Try.prog 8 #[v1, v2] w fun e w' => e = .returned (.bool true) ∧ Below w.heap.size w w' := by
  obtain ⟨a1, c1, rfl, n1, m1, r1⟩ := h1
  obtain ⟨a2, c2, rfl, n2, m2, r2⟩ := h2
  obtain ⟨n, hn⟩ : ∃ n, n = xs.length := ⟨_, rfl⟩
  rw [← hn] at n1 n2 ⊢
  go_enter Try.func8, Try.ntmps8
  go_wp2
  go_loopw [13] (fun i wr => ∃ t : Nat, t ≤ n ∧ i = .int .i64 t ∧ Below w.heap.size w wr) (fun i _ => n - (intOf i).toNat)
  case atStart => exact ⟨0, Nat.zero_le _, rfl, Below.refl _ _⟩
  case round =>
    obtain ⟨t, ht, rfl, hbr⟩ := hrel
    by_cases hlt : t < n
    · rcases r1 with r1 | ⟨b1, o1, rfl, r1⟩
      · have h0 : xs.length = 0 := by rw [r1]; rfl
        omega
      rcases r2 with r2 | ⟨b2, o2, rfl, r2⟩
      · have h0 : xs.length = 0 := by rw [r2]; rfl
        omega
      obtain ⟨x, hx⟩ : ∃ x, xs[t]? = some x := ⟨_, List.getElem?_eq_getElem (by omega)⟩
      have q1 : wr.cell? ⟨b1, o1 + t, none⟩ = some (.int .u64 x) := bcellv hbr (r1 t x hx)
      have q2 : wr.cell? ⟨b2, o2 + t, none⟩ = some (.int .u64 x) := bcellv hbr (r2 t x hx)
      have s1 : ((t : Int)).toNat = t := by omega
      have hd : decide ((t : Int) < (n : Int)) = true := by simpa using hlt
      clear r1 r2 hx
      go_wp2_with fail
      go_quiet (fail)
      go_wp2
      go_roundw
      case rel => exact ⟨t + 1, by omega, by go_num, by (repeat (first | exact Below.refl _ _ | assumption | refine Below.drew ?_ | refine below_drewN ?_ _ | refine balloc ?_ _ | refine Below.setCell ?_ (by first | (simp; done) | (simp; omega) | omega) _ | refine bchain (by assumption) ?_))⟩
      case measure => simp [intOf]; omega
    · have hd : decide ((t : Int) < (n : Int)) = false := by simp; omega
      go_wp2
      go_ret
      exact ⟨rfl, hbr⟩
set_option maxRecDepth 100000 in
set_option maxHeartbeats 4000000 in
theorem contents_any {w : World} {bO bY : Nat} {lo ly : Int} {wo wy : List Int} {gO gY : Option Nat} (hm : MemAt w bO bY lo ly wo wy gO gY) : Calls Try.prog 7 #[.agg #[.pointer (some ⟨bO, 0, none⟩), .pointer (some ⟨bY, 0, none⟩)]] w fun e w' => ∃ v, e = .returned v ∧ WrdsV w' v (wo ++ wy) ∧ Below w.heap.size w w' ∧ ∀ G, v.ownBlock = some G → w.heap.size ≤ G ∧ G < w'.heap.size := by
  obtain ⟨i0, hi, hz0, hz1q, hz2'⟩ := info_parts u64_info
  have hml : maxLen = 9223372036854775807 := rfl
  have hbo := fun W (H : Below w.heap.size w W) => base_any (hm.below H).old
  have hby := fun W (H : Below w.heap.size w W) => base_any (hm.below H).yng
  have hto := fun W (H : Below w.heap.size w W) => top_any (hm.below H).old hm.okO
  have hty := fun W (H : Below w.heap.size w W) => top_any (hm.below H).yng hm.okY
  have HLD := Lib.hid (fun W (H : Below w.heap.size w W) (a : Int) => mload_any (hm.below H) a)
  have l1 := hm.okO.top
  have l2 := hm.lim
  have l3 := hm.okY.top
  have l4 := hm.okY.lm1
  have l5 := hm.okO.lm1
  have hb0 : Below w.heap.size w (w.alloc (.cells #[.pointer (some ⟨bO, 0, none⟩), .pointer (some ⟨bY, 0, none⟩)] 26)) := balloc (Below.refl _ _) _
  have kw := alloc_get w (.cells #[.pointer (some ⟨bO, 0, none⟩), .pointer (some ⟨bY, 0, none⟩)] 26 (0, 0))
  clear hm
  go_enter Try.func7, Try.ntmps7
  go_wp2_with fail
  refine (hbo _ hb0).mono ?_
  rintro e w1 ⟨rfl, hb1⟩
  have hB1 := bchain hb1 hb0
  have k1' := bblock hb1 kw
  have hz1 : w.heap.size + 1 ≤ w1.heap.size := (Array.getElem?_eq_some_iff.1 k1').1
  clear hb1 hb0 kw hbo
  go_wp2_with fail
  go_loopw [3, 4] (fun p q wr => ∃ t : Nat, t ≤ wo.length ∧ q = .int .i64 ((t : Int)) ∧ wr.ownsRow (w.heap.size + 1) 49 1 p t ((wo.take t).map (Value.int .u64)) ∧ Below w.heap.size w wr ∧ w.heap.size + 1 ≤ wr.heap.size ∧ wr.heap[w.heap.size]? = some (.cells #[.pointer (some ⟨bO, 0, none⟩), .pointer (some ⟨bY, 0, none⟩)] 26 (0, 0))) (fun p q wr => 0 + wo.length - (intOf q).toNat)
  case atStart => exact ⟨0, Nat.zero_le _, rfl, by simpa using World.ownsRow_nil _ _ _ _, hB1, hz1, k1'⟩
  case round =>
    obtain ⟨t, ht, rfl, hown, hB, hz, k⟩ := hrel
    have k0 : wr.cell? ⟨w.heap.size, 0, none⟩ = some (.pointer (some ⟨bO, 0, none⟩)) := by rw [cell_of_block k]; rfl
    have k1 : wr.cell? ⟨w.heap.size, 1, none⟩ = some (.pointer (some ⟨bY, 0, none⟩)) := by rw [cell_of_block k]; rfl
    go_wp2_with fail
    refine (hto _ hB).mono ?_
    rintro e w2 ⟨rfl, hb2⟩
    have hown := row_below7 hown hb2
    have k := bblock hb2 k
    have hz2 := hb2.size
    have hB2 := bchain hb2 hB
    clear k0 k1 hB hb2
    have k0 : w2.cell? ⟨w.heap.size, 0, none⟩ = some (.pointer (some ⟨bO, 0, none⟩)) := by rw [cell_of_block k]; rfl
    have k1 : w2.cell? ⟨w.heap.size, 1, none⟩ = some (.pointer (some ⟨bY, 0, none⟩)) := by rw [cell_of_block k]; rfl
    have hz3 : w.heap.size < w2.heap.size := (Array.getElem?_eq_some_iff.1 k).1
    by_cases hlt : t < wo.length
    · have hd : decide ((t : Int) < 0 + (wo.length : Int)) = true := by simp; omega
      have hd0 : decide ((t : Int) < (wo.length : Int)) = true ∨ True := .inr trivial
      have hl := HLD.out _ hB2 ((t : Int))
      rw [LD_old hlt (by omega)] at hl
      obtain ⟨x, hx⟩ : ∃ x, wo.getD t 0 = x := ⟨_, rfl⟩
      rw [hx] at hl
      have HX := Lib.hid hx
      have hw64 : IntKind.i64.wrap ((t : Int) + 1) = ((t + 1 : Nat) : Int) := by rw [show (t : Int) + 1 = ((t + 1 : Nat) : Int) by omega]; exact IntWalk.i64_in _ (by omega)
      clear hx
      go_wp2_with fail
      refine hl.mono ?_
      rintro e w3 ⟨rfl, hb3⟩
      have hown := row_below7 hown hb3
      have k := bblock hb3 k
      have hB3 := bchain hb3 hB2
      have hz3 : w.heap.size < w3.heap.size := (Array.getElem?_eq_some_iff.1 k).1
      clear k0 k1 hl hb3 hB2
      go_wp2_with (at_builtin; refine wpList_append_own _ rfl _ _ 28 rfl (w.heap.size + 1) 49 i0 (.int .u64 0) 1 8 Try.underlying28 hi hz0 hz1q hz2' rfl (by decide) _ _ _ rfl (hown.alloc _) ⟨w3.heap.size, 0, none⟩ 1 1 [.int .u64 x] rfl rfl (cell_one_new _ _ _) (by simp [Value.oneCell']) (by omega) (by omega) (by simp; omega) ?_; intro v' w4 hown' hgrow _)
      have hB4 : Below w.heap.size w w4 := (hB3.alloc (Nat.le_trans hB3.size (Nat.le_refl _)) _).grown hgrow (by simp; omega) (fun k e => by have := (hown.lt k e).1; omega)
      have k4 : w4.heap[w.heap.size]? = some (.cells #[.pointer (some ⟨bO, 0, none⟩), .pointer (some ⟨bY, 0, none⟩)] 26 (0, 0)) := (hgrow.block _ (by simp; omega) (fun e => by have := (hown.lt _ e.symm).1; omega)).trans (alloc_lt _ k)
      have hz4 : w.heap.size + 1 ≤ w4.heap.size := (Array.getElem?_eq_some_iff.1 k4).1
      go_wp2
      go_roundw
      case rel => exact ⟨t + 1, by omega, by go_num, by rw [take_snoc hlt, HX.out]; simpa only [List.map_append, List.map_cons, List.map_nil, List.append_assoc, Nat.add_assoc] using hown', hB4, hz4, k4⟩
      case measure => simp [intOf, hw64]; omega
    · have htl : t = wo.length := by omega
      subst htl
      have hd : decide ((wo.length : Int) < 0 + (wo.length : Int)) = false := by simp
      rw [List.take_length] at hown
      go_wp2_with fail
      refine (hby _ hB2).mono ?_
      rintro e w3 ⟨rfl, hb3⟩
      have hown := row_below7 hown hb3
      have k3' := bblock hb3 k
      have hB3 := bchain hb3 hB2
      have hz3' : w.heap.size + 1 ≤ w3.heap.size := (Array.getElem?_eq_some_iff.1 k3').1
      clear k0 k1 hb3 hB2 hd hlt k hz
      go_wp2_with fail
      go_loopw [3, 7] (fun p q wr => ∃ t : Nat, t ≤ wy.length ∧ q = .int .i64 (16777216 + (t : Int)) ∧ wr.ownsRow (w.heap.size + 1) 49 1 p (wo.length + t) ((wo ++ wy.take t).map (Value.int .u64)) ∧ Below w.heap.size w wr ∧ w.heap.size + 1 ≤ wr.heap.size ∧ wr.heap[w.heap.size]? = some (.cells #[.pointer (some ⟨bO, 0, none⟩), .pointer (some ⟨bY, 0, none⟩)] 26 (0, 0))) (fun p q wr => 16777216 + wy.length - (intOf q).toNat)
      case atStart => exact ⟨0, Nat.zero_le _, by simp, by simpa using hown, hB3, hz3', k3'⟩
      case round =>
        obtain ⟨t, ht, rfl, hown, hB, hz, k⟩ := hrel
        have k0 : wr.cell? ⟨w.heap.size, 0, none⟩ = some (.pointer (some ⟨bO, 0, none⟩)) := by rw [cell_of_block k]; rfl
        have k1 : wr.cell? ⟨w.heap.size, 1, none⟩ = some (.pointer (some ⟨bY, 0, none⟩)) := by rw [cell_of_block k]; rfl
        go_wp2_with fail
        refine (hty _ hB).mono ?_
        rintro e w2 ⟨rfl, hb2⟩
        have hown := row_below7 hown hb2
        have k := bblock hb2 k
        have hz2 := hb2.size
        have hB2 := bchain hb2 hB
        clear k0 k1 hB hb2
        have k0 : w2.cell? ⟨w.heap.size, 0, none⟩ = some (.pointer (some ⟨bO, 0, none⟩)) := by rw [cell_of_block k]; rfl
        have k1 : w2.cell? ⟨w.heap.size, 1, none⟩ = some (.pointer (some ⟨bY, 0, none⟩)) := by rw [cell_of_block k]; rfl
        have hz3 : w.heap.size < w2.heap.size := (Array.getElem?_eq_some_iff.1 k).1
        by_cases hlt : t < wy.length
        · have hd : decide (16777216 + (t : Int) < 16777216 + (wy.length : Int)) = true := by simp; omega
          have hd0 : decide (16777216 + (t : Int) < (wy.length : Int)) = true ∨ True := .inr trivial
          have hl := HLD.out _ hB2 (16777216 + (t : Int))
          rw [LD_yng hlt] at hl
          obtain ⟨x, hx⟩ : ∃ x, wy.getD t 0 = x := ⟨_, rfl⟩
          rw [hx] at hl
          have HX := Lib.hid hx
          have hw64 : IntKind.i64.wrap (16777216 + (t : Int) + 1) = 16777216 + ((t + 1 : Nat) : Int) := by rw [show 16777216 + (t : Int) + 1 = 16777216 + ((t + 1 : Nat) : Int) by omega]; exact IntWalk.i64_in _ (by omega)
          clear hx
          go_wp2_with fail
          refine hl.mono ?_
          rintro e w3 ⟨rfl, hb3⟩
          have hown := row_below7 hown hb3
          have k := bblock hb3 k
          have hB3 := bchain hb3 hB2
          have hz3 : w.heap.size < w3.heap.size := (Array.getElem?_eq_some_iff.1 k).1
          clear k0 k1 hl hb3 hB2
          go_wp2_with (at_builtin; refine wpList_append_own _ rfl _ _ 28 rfl (w.heap.size + 1) 49 i0 (.int .u64 0) 1 8 Try.underlying28 hi hz0 hz1q hz2' rfl (by decide) _ _ _ rfl (hown.alloc _) ⟨w3.heap.size, 0, none⟩ 1 1 [.int .u64 x] rfl rfl (cell_one_new _ _ _) (by simp [Value.oneCell']) (by omega) (by omega) (by simp; omega) ?_; intro v' w4 hown' hgrow _)
          have hB4 : Below w.heap.size w w4 := (hB3.alloc (Nat.le_trans hB3.size (Nat.le_refl _)) _).grown hgrow (by simp; omega) (fun k e => by have := (hown.lt k e).1; omega)
          have k4 : w4.heap[w.heap.size]? = some (.cells #[.pointer (some ⟨bO, 0, none⟩), .pointer (some ⟨bY, 0, none⟩)] 26 (0, 0)) := (hgrow.block _ (by simp; omega) (fun e => by have := (hown.lt _ e.symm).1; omega)).trans (alloc_lt _ k)
          have hz4 : w.heap.size + 1 ≤ w4.heap.size := (Array.getElem?_eq_some_iff.1 k4).1
          go_wp2
          go_roundw
          case rel => exact ⟨t + 1, by omega, by go_num, by rw [take_snoc hlt, HX.out]; simpa only [List.map_append, List.map_cons, List.map_nil, List.append_assoc, Nat.add_assoc] using hown', hB4, hz4, k4⟩
          case measure => simp [intOf, hw64]; omega
        · have htl : t = wy.length := by omega
          subst htl
          have hd : decide (16777216 + (wy.length : Int) < 16777216 + (wy.length : Int)) = false := by simp
          rw [List.take_length] at hown
          have HF := Lib.hid (And.intro (WrdsV.of_row (B := w.heap.size + 1) (xs := wo ++ wy) (by rw [List.length_append]; exact hown)) (And.intro hB2 (fun G e => row_lt hown G e)))
          go_wp2
          go_ret
          exact ⟨_, rfl, HF.out.1, HF.out.2.1, fun G e => ⟨by have := (HF.out.2.2 G e).2; omega, (HF.out.2.2 G e).1⟩⟩
end Go.Proofs.Ytgjaafcagnkfdaa
