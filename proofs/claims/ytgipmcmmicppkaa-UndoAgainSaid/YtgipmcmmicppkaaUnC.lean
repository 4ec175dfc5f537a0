/-
  refmeshlaw13.words: the words of a memory, in two slices.
-/
import Derived.Test.YtgipmcmmicppkaaUnA
namespace Go.Proofs.Ytgipmcmmicppkaa
open Go.RowKit
set_option linter.unusedSimpArgs false
set_option linter.unusedVariables false

theorem row_base7 {A : World} {N B : Nat} {e : TypeId} {sz : Nat} {v : Value} {n : Nat} {xs : List Value} (h : A.ownsRow N e sz v n xs) (hB : B ≤ N) : A.ownsRow B e sz v n xs := by
  obtain ⟨h1, h2⟩ := h
  refine ⟨h1, ?_⟩
  rcases h2 with h2 | ⟨g, cap, cur, e1, hb, h3⟩
  · exact .inl h2
  · exact .inr ⟨g, cap, cur, e1, by omega, h3⟩
theorem row_below7 {A B : World} {N : Nat} {e : TypeId} {sz : Nat} {v : Value} {n : Nat} {xs : List Value} (h : A.ownsRow N e sz v n xs) (hb : Below A.heap.size A B) : B.ownsRow N e sz v n xs := by
  obtain ⟨h1, h2⟩ := h
  refine ⟨h1, ?_⟩
  rcases h2 with h2 | ⟨g, cap, cur, e1, hb', hh, h3⟩
  · exact .inl h2
  · exact .inr ⟨g, cap, cur, e1, hb', bblock hb hh, h3⟩
theorem LD_old {wo wy : List Int} {t : Nat} (h : t < wo.length) (hl : (wo.length : Int) ≤ 16777216) : LD wo wy (t : Int) = wo.getD t 0 := by
  unfold LD bsA wsA
  rw [if_neg (by omega), if_neg (by omega)]
  have e : inB 0 wo.length (t : Int) = true := inB_iff.2 ⟨by omega, by omega⟩
  rw [ld_in e, show ((t : Int) - 0).toNat = t by omega]
theorem LD_yng {wo wy : List Int} {t : Nat} (h : t < wy.length) : LD wo wy (16777216 + (t : Int)) = wy.getD t 0 := by
  unfold LD bsA wsA
  rw [if_pos (by omega), if_pos (by omega)]
  have e : inB 16777216 wy.length (16777216 + (t : Int)) = true := inB_iff.2 ⟨by omega, by omega⟩
  rw [ld_in e, show (16777216 + (t : Int) - 16777216).toNat = t by omega]
theorem take_snoc {l : List Int} {t : Nat} (h : t < l.length) : l.take (t + 1) = l.take t ++ [l.getD t 0] := by
  rw [List.take_succ_eq_append_getElem h]
  simp [List.getD, h]
theorem words_end {A : World} {N : Nat} {v : Value} {xs : List Int} {n : Nat} (h : A.ownsRow N 43 1 v n (xs.map (Value.int .u64))) (hn : n = xs.length) : WrdsV A v xs ∧ ∀ G, v.ownBlock = some G → N ≤ G := by
  subst hn
  exact ⟨WrdsV.of_row h, fun G e => (h.lt G e).1⟩
set_option maxRecDepth 100000 in
set_option maxHeartbeats 4000000 in
theorem words13_any {w : World} {bO bY : Nat} {lo ly : Int} {wo wy : List Int} {gO gY : Option Nat} (hm : MemAt w bO bY lo ly wo wy gO gY) :
    Calls Try.prog 27 #[.agg #[.pointer (some ⟨bO, 0, none⟩), .pointer (some ⟨bY, 0, none⟩)]] w fun e w' => ∃ v1 v2, e = .returned (.tuple #[v1, v2]) ∧ WrdsV w' v1 wo ∧ WrdsV w' v2 wy ∧ Below w.heap.size w w' ∧ (∀ G, v1.ownBlock = some G → w.heap.size ≤ G) ∧ (∀ G, v2.ownBlock = some G → w.heap.size ≤ G) := by
  obtain ⟨i0, hi, hz0, hz1, hz2⟩ := info_parts u64_info'
  have hml : maxLen = 9223372036854775807 := rfl
  have hbo := fun W (H : Below w.heap.size w W) => base_any (hm.below H).old
  have hby := fun W (H : Below w.heap.size w W) => base_any (hm.below H).yng
  have hto := fun W (H : Below w.heap.size w W) => top_any (hm.below H).old hm.okO
  have hty := fun W (H : Below w.heap.size w W) => top_any (hm.below H).yng hm.okY
  have hld := fun W (H : Below w.heap.size w W) (a : Int) => mload_any (hm.below H) a
  have l1 := hm.okO.top
  have l2 := hm.lim
  have l3 := hm.okY.top
  have l4 := hm.okY.lm1
  have l5 := hm.okO.lm1
  clear hm
  go_enter Try.func27, Try.ntmps27
  go_wp2_with fail
  have hBa : Below w.heap.size w (w.alloc (.cells #[.pointer (some ⟨bO, 0, none⟩), .pointer (some ⟨bY, 0, none⟩)] 30)) := by (repeat (first | exact Below.refl _ _ | assumption | refine Below.drew ?_ | refine below_drewN ?_ _ | refine balloc ?_ _ | refine Below.setCell ?_ (by first | (simp; done) | (simp; omega) | omega) _ | refine bchain (by assumption) ?_))
  refine (hbo _ hBa).mono ?_
  rintro e w1 ⟨rfl, hb1⟩
  have hB1 : Below w.heap.size w w1 := by (repeat (first | exact Below.refl _ _ | assumption | refine Below.drew ?_ | refine below_drewN ?_ _ | refine balloc ?_ _ | refine Below.setCell ?_ (by first | (simp; done) | (simp; omega) | omega) _ | refine bchain (by assumption) ?_))
  have hsz1 := Lib.hid hB1.size
  have k0 : w1.heap[w.heap.size]? = some (.cells #[.pointer (some ⟨bO, 0, none⟩), .pointer (some ⟨bY, 0, none⟩)] 30 (0, 0)) := bblock hb1 (alloc_get _ _)
  clear hb1 hbo
  go_wp2_with fail
  go_loopw [4, 6] (fun p q wr => ∃ t : Nat, t ≤ wo.length ∧ q = .int .i64 (t : Int) ∧ wr.ownsRow w1.heap.size 43 1 p t ((wo.take t).map (Value.int .u64)) ∧ wr.heap[w.heap.size]? = some (.cells #[.pointer (some ⟨bO, 0, none⟩), .pointer (some ⟨bY, 0, none⟩)] 30 (0, 0)) ∧ Below w1.heap.size w1 wr) (fun p q wr => 0 + wo.length - (intOf q).toNat)
  case atStart => exact ⟨0, Nat.zero_le _, rfl, by simpa using World.ownsRow_nil _ _ _ _, k0, Below.refl _ _⟩
  case round =>
    have k0w1 := k0
    clear k0
    obtain ⟨t, ht, rfl, hown, k0, hbr⟩ := hrel
    have k0_0 : wr.cell? ⟨w.heap.size, 0, none⟩ = some (.pointer (some ⟨bO, 0, none⟩)) := by rw [cell_of_block k0]; rfl
    have k0_1 : wr.cell? ⟨w.heap.size, 1, none⟩ = some (.pointer (some ⟨bY, 0, none⟩)) := by rw [cell_of_block k0]; rfl
    go_wp2_with fail
    refine (hto _ (bchain hbr hB1)).mono ?_
    rintro e w2 ⟨rfl, hb2⟩
    have k0 := bblock hb2 k0
    have hown := row_below7 hown hb2
    have hB2 := bchain hb2 hbr
    clear k0_0 k0_1 hbr hb2
    have k0_0 : w2.cell? ⟨w.heap.size, 0, none⟩ = some (.pointer (some ⟨bO, 0, none⟩)) := by rw [cell_of_block k0]; rfl
    have k0_1 : w2.cell? ⟨w.heap.size, 1, none⟩ = some (.pointer (some ⟨bY, 0, none⟩)) := by rw [cell_of_block k0]; rfl
    by_cases hlt : t < wo.length
    · have hd : decide ((t : Int) < 0 + (wo.length : Int)) = true := by simpa using hlt
      have hl := hld w2 (bchain hB2 hB1) ((t : Int))
      rw [LD_old hlt (by omega)] at hl
      have hz_k0 : w.heap.size < w2.heap.size := (Array.getElem?_eq_some_iff.1 k0).1
      generalize hx : wo.getD t 0 = x at *
      have HX := Lib.hid hx
      clear hx
      have hw64 : IntKind.i64.wrap ((t : Int) + 1) = ((t + 1 : Nat) : Int) := by rw [show ((t : Int)) + 1 = ((t + 1 : Nat) : Int) by omega]; exact IntWalk.i64_in _ (by omega)
      go_wp2_with fail
      refine hl.mono ?_
      rintro e w3 ⟨rfl, hb3⟩
      have k0 := bblock hb3 k0
      have hown := row_below7 hown hb3
      have hB3 := bchain hb3 hB2
      clear k0_0 k0_1 hl hb3 hB2 hz_k0
      have k0_0 : w3.cell? ⟨w.heap.size, 0, none⟩ = some (.pointer (some ⟨bO, 0, none⟩)) := by rw [cell_of_block k0]; rfl
      have k0_1 : w3.cell? ⟨w.heap.size, 1, none⟩ = some (.pointer (some ⟨bY, 0, none⟩)) := by rw [cell_of_block k0]; rfl
      have hz_k0 : w.heap.size < w3.heap.size := (Array.getElem?_eq_some_iff.1 k0).1
      go_wp2_with (at_builtin; refine wpList_append_own _ rfl _ _ 22 rfl w1.heap.size 43 i0 (.int .u64 0) 1 8 Try.underlying22 hi hz0 hz1 hz2 rfl (by decide) _ _ _ rfl (hown.alloc _) ⟨w3.heap.size, 0, none⟩ 1 1 [.int .u64 x] rfl rfl (cell_one_new _ _ _) (by simp [Value.oneCell']) (by omega) (by omega) (by simp; have := hB3.size; omega) ?_; intro v' w4 hown' hgrow _)
      have hB4 : Below w1.heap.size w1 w4 := (hB3.alloc (Nat.le_trans hB3.size (Nat.le_refl _)) _).grown hgrow (by simp; have := hB3.size; omega) (fun k e => by have := (hown.lt k e).1; omega)
      have k0 : w4.heap[w.heap.size]? = some (.cells #[.pointer (some ⟨bO, 0, none⟩), .pointer (some ⟨bY, 0, none⟩)] 30 (0, 0)) := bblock hB4 k0w1
      go_wp2
      go_roundw
      case rel => exact ⟨t + 1, by omega, by go_num, by rw [take_snoc hlt, HX.out]; simpa only [List.map_append, List.map_cons, List.map_nil, List.append_assoc, Nat.add_assoc] using hown', k0, hB4⟩
      case measure => simp [intOf, hw64]; omega
    · have htl : t = wo.length := by omega
      subst htl
      have hd : decide ((wo.length : Int) < 0 + (wo.length : Int)) = false := by simp
      clear hlt
      rw [List.take_length] at hown
      have hz_k0 : w.heap.size < w2.heap.size := (Array.getElem?_eq_some_iff.1 k0).1
      have hB2 := bchain hB2 hB1
      go_wp2_with fail
      refine (hby _ hB2).mono ?_
      rintro e w5 ⟨rfl, hb5⟩
      have k0 := bblock hb5 k0
      have hr5 := Lib.hid (row_below7 hown hb5)
      have hB5 := bchain hb5 hB2
      have hsz5 := Lib.hid hB5.size
      clear k0_0 k0_1 hown hB2 hb5 hz_k0 hd hto hby k0w1
      go_wp2_with fail
      go_loopw [5, 9] (fun p q wr => ∃ t : Nat, t ≤ wy.length ∧ q = .int .i64 (16777216 + (t : Int)) ∧ wr.ownsRow w5.heap.size 43 1 p t ((wy.take t).map (Value.int .u64)) ∧ wr.heap[w.heap.size]? = some (.cells #[.pointer (some ⟨bO, 0, none⟩), .pointer (some ⟨bY, 0, none⟩)] 30 (0, 0)) ∧ Below w5.heap.size w5 wr) (fun p q wr => 16777216 + wy.length - (intOf q).toNat)
      case atStart => exact ⟨0, Nat.zero_le _, by simp, by simpa using World.ownsRow_nil _ _ _ _, k0, Below.refl _ _⟩
      case round =>
        have k0w5 := k0
        clear k0
        obtain ⟨t, ht, rfl, hown, k0, hbr⟩ := hrel
        have k0_0 : wr.cell? ⟨w.heap.size, 0, none⟩ = some (.pointer (some ⟨bO, 0, none⟩)) := by rw [cell_of_block k0]; rfl
        have k0_1 : wr.cell? ⟨w.heap.size, 1, none⟩ = some (.pointer (some ⟨bY, 0, none⟩)) := by rw [cell_of_block k0]; rfl
        go_wp2_with fail
        refine (hty _ (bchain hbr hB5)).mono ?_
        rintro e w2 ⟨rfl, hb2⟩
        have k0 := bblock hb2 k0
        have hown := row_below7 hown hb2
        have hB2 := bchain hb2 hbr
        clear k0_0 k0_1 hbr hb2
        have k0_0 : w2.cell? ⟨w.heap.size, 0, none⟩ = some (.pointer (some ⟨bO, 0, none⟩)) := by rw [cell_of_block k0]; rfl
        have k0_1 : w2.cell? ⟨w.heap.size, 1, none⟩ = some (.pointer (some ⟨bY, 0, none⟩)) := by rw [cell_of_block k0]; rfl
        by_cases hlt : t < wy.length
        · have hd : decide (16777216 + (t : Int) < 16777216 + (wy.length : Int)) = true := by simpa using hlt
          have hl := hld w2 (bchain hB2 hB5) (16777216 + (t : Int))
          rw [LD_yng hlt] at hl
          have hz_k0 : w.heap.size < w2.heap.size := (Array.getElem?_eq_some_iff.1 k0).1
          generalize hx : wy.getD t 0 = x at *
          have HX := Lib.hid hx
          clear hx
          have hw64 : IntKind.i64.wrap (16777216 + (t : Int) + 1) = 16777216 + ((t + 1 : Nat) : Int) := by rw [show (16777216 + (t : Int)) + 1 = 16777216 + ((t + 1 : Nat) : Int) by omega]; exact IntWalk.i64_in _ (by omega)
          go_wp2_with fail
          refine hl.mono ?_
          rintro e w3 ⟨rfl, hb3⟩
          have k0 := bblock hb3 k0
          have hown := row_below7 hown hb3
          have hB3 := bchain hb3 hB2
          clear k0_0 k0_1 hl hb3 hB2 hz_k0
          have k0_0 : w3.cell? ⟨w.heap.size, 0, none⟩ = some (.pointer (some ⟨bO, 0, none⟩)) := by rw [cell_of_block k0]; rfl
          have k0_1 : w3.cell? ⟨w.heap.size, 1, none⟩ = some (.pointer (some ⟨bY, 0, none⟩)) := by rw [cell_of_block k0]; rfl
          have hz_k0 : w.heap.size < w3.heap.size := (Array.getElem?_eq_some_iff.1 k0).1
          go_wp2_with (at_builtin; refine wpList_append_own _ rfl _ _ 22 rfl w5.heap.size 43 i0 (.int .u64 0) 1 8 Try.underlying22 hi hz0 hz1 hz2 rfl (by decide) _ _ _ rfl (hown.alloc _) ⟨w3.heap.size, 0, none⟩ 1 1 [.int .u64 x] rfl rfl (cell_one_new _ _ _) (by simp [Value.oneCell']) (by omega) (by omega) (by simp; have := hB3.size; omega) ?_; intro v' w4 hown' hgrow _)
          have hB4 : Below w5.heap.size w5 w4 := (hB3.alloc (Nat.le_trans hB3.size (Nat.le_refl _)) _).grown hgrow (by simp; have := hB3.size; omega) (fun k e => by have := (hown.lt k e).1; omega)
          have k0 : w4.heap[w.heap.size]? = some (.cells #[.pointer (some ⟨bO, 0, none⟩), .pointer (some ⟨bY, 0, none⟩)] 30 (0, 0)) := bblock hB4 k0w5
          go_wp2
          go_roundw
          case rel => exact ⟨t + 1, by omega, by go_num, by rw [take_snoc hlt, HX.out]; simpa only [List.map_append, List.map_cons, List.map_nil, List.append_assoc, Nat.add_assoc] using hown', k0, hB4⟩
          case measure => simp [intOf, hw64]; omega
        · have htl : t = wy.length := by omega
          subst htl
          have hd : decide (16777216 + (wy.length : Int) < 16777216 + (wy.length : Int)) = false := by simp
          clear hlt
          rw [List.take_length] at hown
          have hf1 := Lib.hid (words_end (row_below7 hr5.out hB2) rfl)
          have hf2 := Lib.hid (words_end hown rfl)
          go_wp2
          go_ret2
          exact ⟨_, _, rfl, hf1.out.1, hf2.out.1, bchain hB2 hB5, fun G e => Nat.le_trans hsz1.out (hf1.out.2 G e), fun G e => Nat.le_trans hsz5.out (hf2.out.2 G e)⟩
end Go.Proofs.Ytgipmcmmicppkaa
