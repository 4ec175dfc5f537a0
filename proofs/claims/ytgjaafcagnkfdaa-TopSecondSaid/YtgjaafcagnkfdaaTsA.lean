/-
  barrier.young, nursery.leads, nursery.slots.
-/
import Derived.Test.YtgjaafcagnkfdaaTF
import Derived.Lib.Hide
import Derived.Deep.CutRange
namespace Go.Proofs.Ytgjaafcagnkfdaa
open Go.RowKit
set_option linter.unusedSimpArgs false
set_option linter.unusedVariables false

theorem row_base7 {A : World} {N B : Nat} {e : TypeId} {sz : Nat} {v : Value} {n : Nat} {xs : List Value} (h : A.ownsRow N e sz v n xs) (hB : B ≤ N) : A.ownsRow B e sz v n xs := by
  obtain ⟨h1, h2⟩ := h
  refine ⟨h1, ?_⟩
  rcases h2 with h2 | ⟨g, cap, cur, e1, hb, h3⟩
  · exact .inl h2
  · exact .inr ⟨g, cap, cur, e1, by omega, h3⟩
theorem row_below7 {A B : World} {N : Nat} {e : TypeId} {sz : Nat} {v : Value} {n : Nat} {xs : List Value} (h : A.ownsRow N e sz v n xs) (hb : Below A.heap.size A B) : B.ownsRow N e sz v n xs := by
  obtain ⟨h1, h2⟩ := h
  refine ⟨h1, ?_⟩
  rcases h2 with h2 | ⟨g, cap, cur, e1, hb', hh, h3⟩
  · exact .inl h2
  · exact .inr ⟨g, cap, cur, e1, hb', bblock hb hh, h3⟩
theorem LD_old {wo wy : List Int} {t : Nat} (h : t < wo.length) (hl : (wo.length : Int) ≤ 16777216) : LD wo wy (t : Int) = wo.getD t 0 := by
  unfold LD bsA wsA
  rw [if_neg (by omega), if_neg (by omega)]
  have e : inB 0 wo.length (t : Int) = true := inB_iff.2 ⟨by omega, by omega⟩
  rw [ld_in e, show ((t : Int) - 0).toNat = t by omega]
theorem LD_yng {wo wy : List Int} {t : Nat} (h : t < wy.length) : LD wo wy (16777216 + (t : Int)) = wy.getD t 0 := by
  unfold LD bsA wsA
  rw [if_pos (by omega), if_pos (by omega)]
  have e : inB 16777216 wy.length (16777216 + (t : Int)) = true := inB_iff.2 ⟨by omega, by omega⟩
  rw [ld_in e, show (16777216 + (t : Int) - 16777216).toNat = t by omega]
theorem take_snoc {l : List Int} {t : Nat} (h : t < l.length) : l.take (t + 1) = l.take t ++ [l.getD t 0] := by
  rw [List.take_succ_eq_append_getElem h]
  simp [List.getD, h]
/-- Is it a young reference? -/
def ldY (x : Int) : Bool := adB x && decide (16777216 ≤ adA x)
set_option maxRecDepth 100000 in
set_option maxHeartbeats 2000000 in
theorem young_any (x : Int) (hx : U64 x) (w : World) : Calls Try.prog 35 #[.int .u64 x] w fun e w' => e = .returned (.bool (ldY x)) ∧ Below w.heap.size w w' := by
  have hA := fun W => address_any x hx W
  unfold ldY
  generalize adA x = a at *
  cases hB : adB x
  · rw [hB] at hA
    go_enter Try.func35, Try.ntmps35
    go_wp2_with fail
    refine (hA _).mono ?_
    rintro e w1 ⟨rfl, hb⟩
    go_wp2
    go_ret
    exact ⟨rfl, hb⟩
  · rw [hB] at hA
    by_cases h : 16777216 ≤ a
    · have hd : decide (16777216 ≤ a) = true := by simpa using h
      go_enter Try.func35, Try.ntmps35
      go_wp2_with fail
      refine (hA _).mono ?_
      rintro e w1 ⟨rfl, hb⟩
      go_wp2
      go_ret
      exact ⟨by simp [h], hb⟩
    · have hd : decide (16777216 ≤ a) = false := by simpa using h
      go_enter Try.func35, Try.ntmps35
      go_wp2_with fail
      refine (hA _).mono ?_
      rintro e w1 ⟨rfl, hb⟩
      go_wp2
      go_ret
      exact ⟨by simp [h], hb⟩
def ldT (wo wy : List Int) (x : Int) : Int := if ldY x then RA wo wy (adA x) else 0
def ldD (wo wy : List Int) (x : Int) : Bool := if ldY x then RE wo wy (adA x) != 0 else false
theorem ld_cases (wo wy : List Int) (x : Int) : (ldY x = false ∧ ldT wo wy x = 0 ∧ ldD wo wy x = false) ∨ (ldY x = true ∧ ldT wo wy x = RA wo wy (adA x) ∧ ldD wo wy x = (RE wo wy (adA x) != 0)) := by
  unfold ldT ldD
  cases h : ldY x
  · exact .inl ⟨rfl, rfl, rfl⟩
  · exact .inr ⟨rfl, rfl, rfl⟩
set_option maxRecDepth 100000 in
set_option maxHeartbeats 2000000 in
theorem leads_any {w : World} {bO bY : Nat} {lo ly : Int} {wo wy : List Int} {gO gY : Option Nat} (hm : MemAt w bO bY lo ly wo wy gO gY) (x : Int) (hx : U64 x) : Calls Try.prog 21 #[.agg #[.pointer (some ⟨bO, 0, none⟩), .pointer (some ⟨bY, 0, none⟩)], .int .u64 x] w fun e w' => e = .returned (.tuple #[.int .i64 (ldT wo wy x), .bool (ldY x), .bool (ldD wo wy x)]) ∧ Below w.heap.size w w' := by
  have hA := fun W => address_any x hx W
  have hR := fun W (H : Below w.heap.size w W) => mresolve_any (hm.below H) (adA x)
  have hb0 : Below w.heap.size w (w.alloc (.cells #[.pointer (some ⟨bO, 0, none⟩), .pointer (some ⟨bY, 0, none⟩)] 26)) := balloc (Below.refl _ _) _
  have HR := Lib.hid hR
  clear hR hm
  rcases ld_cases wo wy x with ⟨e1, e2, e3⟩ | ⟨e1, e2, e3⟩
  · rw [e1, e2, e3]
    unfold ldY at e1
    generalize adA x = a at *
    cases hB : adB x
    · rw [hB] at hA
      clear HR e1 e2 e3
      go_enter Try.func21, Try.ntmps21
      go_wp2_with fail
      refine (hA _).mono ?_
      rintro e w1 ⟨rfl, hb⟩
      go_wp2
      refine bodyPost_ret (v := .tuple #[.int .i64 0, .bool false, .bool false]) (by simp [results, Try.results21, go_sem]) rfl ?_
      exact ⟨rfl, bchain hb hb0⟩
    · rw [hB] at hA e1
      have hd : decide (a < 16777216) = true := by simp at e1; simp; omega
      have hd1 : a < 16777216 := by simpa using hd
      clear HR e1 e2 e3
      go_enter Try.func21, Try.ntmps21
      go_wp2_with fail
      refine (hA _).mono ?_
      rintro e w1 ⟨rfl, hb⟩
      go_wp2
      refine bodyPost_ret (v := .tuple #[.int .i64 0, .bool false, .bool false]) (by simp [results, Try.results21, go_sem]) rfl ?_
      exact ⟨rfl, bchain hb hb0⟩
  · rw [e1, e2, e3]
    unfold ldY at e1
    generalize RA wo wy (adA x) = ra at *
    generalize RE wo wy (adA x) = re at *
    generalize adA x = a at *
    have hB : adB x = true := by simp at e1; exact e1.1
    rw [hB] at hA
    have hd : decide (a < 16777216) = false := by simp at e1; simp; omega
    have hd1 : ¬ a < 16777216 := by simpa using hd
    clear e1 e2 e3 hB
    go_enter Try.func21, Try.ntmps21
    go_wp2_with fail
    refine (hA _).mono ?_
    rintro e w1 ⟨rfl, hb⟩
    have hb1 := bchain hb hb0
    have k := bblock hb (alloc_get w (.cells #[.pointer (some ⟨bO, 0, none⟩), .pointer (some ⟨bY, 0, none⟩)] 26 (0, 0)))
    have k0 : w1.cell? ⟨w.heap.size, 0, none⟩ = some (.pointer (some ⟨bO, 0, none⟩)) := by rw [cell_of_block k]; rfl
    have k1 : w1.cell? ⟨w.heap.size, 1, none⟩ = some (.pointer (some ⟨bY, 0, none⟩)) := by rw [cell_of_block k]; rfl
    have hz : w.heap.size < w1.heap.size := (Array.getElem?_eq_some_iff.1 k).1
    clear hb hb0 k
    go_wp2_with fail
    refine (HR.out _ hb1).mono ?_
    rintro e w2 ⟨rfl, hb2⟩
    go_wp2
    refine bodyPost_ret (v := .tuple #[.int .i64 ra, .bool true, .bool (re != 0)]) (by simp [results, Try.results21, go_sem]) rfl ?_
    exact ⟨by simp, bchain hb2 hb1⟩
/-- The addresses of an object's slots. -/
def slA (a : Int) (n : Nat) : List Int := (List.range n).map (fun (i : Nat) => a + 2 + (i : Int))
theorem slA_snoc (a : Int) (n : Nat) : slA a (n + 1) = slA a n ++ [a + 2 + (n : Int)] := by unfold slA; rw [List.range_succ, List.map_append]; rfl
theorem slA_len (a : Int) (n : Nat) : (slA a n).length = n := by unfold slA; simp
set_option maxRecDepth 100000 in
set_option maxHeartbeats 2000000 in
theorem nslots_any {w : World} {bO bY : Nat} {lo ly : Int} {wo wy : List Int} {gO gY : Option Nat} (hm : MemAt w bO bY lo ly wo wy gO gY) (a : Int) (h0 : HE wo wy a = 0) (hk : HK wo wy a = 0) : Calls Try.prog 39 #[.agg #[.pointer (some ⟨bO, 0, none⟩), .pointer (some ⟨bY, 0, none⟩)], .int .i64 a] w fun e w' => ∃ v, e = .returned v ∧ w'.ownsRow w.heap.size 3 1 v (HF wo wy a).toNat ((slA a (HF wo wy a).toNat).map (Value.int .i64)) ∧ Below w.heap.size w w' := by
  obtain ⟨i0, hi, hz0, hz1, hz2⟩ := info_parts int_info
  have hml : maxLen = 9223372036854775807 := rfl
  have hH := fun W (H : Below w.heap.size w W) => mhdr_any (hm.below H) a
  have hrg := HE_rng hm h0
  obtain ⟨_, f0, f1, _, _⟩ := HE_bd h0
  rw [h0, hk] at hH
  obtain ⟨n, hn⟩ : ∃ n : Nat, HF wo wy a = n := ⟨(HF wo wy a).toNat, by omega⟩
  rw [hn] at hH f1 ⊢
  rw [show ((n : Int)).toNat = n by omega]
  generalize HC wo wy a = hc at *
  have hb0 : Below w.heap.size w (w.alloc (.cells #[.pointer (some ⟨bO, 0, none⟩), .pointer (some ⟨bY, 0, none⟩)] 26)) := balloc (Below.refl _ _) _
  clear hm h0 hk hn f0
  go_enter Try.func39, Try.ntmps39
  go_wp2_with fail
  refine (hH _ hb0).mono ?_
  rintro e w1 ⟨rfl, hb⟩
  have hB1 := bchain hb hb0
  clear hb hb0 hH
  have hB2 := balloc hB1 (.cells #[.int .i64 0, .int .i64 hc, .int .i64 n] 46)
  go_wp2_with fail
  obtain ⟨w2, hw2⟩ : ∃ W, w1.alloc (.cells #[.int .i64 0, .int .i64 hc, .int .i64 n] 46) = W := ⟨_, rfl⟩
  rw [hw2] at hB2 ⊢
  clear hw2 hB1
  go_loopw [8, 31] (fun p q wr => ∃ t : Nat, t ≤ n ∧ q = .int .i64 t ∧ wr.ownsRow w.heap.size 3 1 p t ((slA a t).map (Value.int .i64)) ∧ Below w.heap.size w wr) (fun _ q _ => n - (intOf q).toNat)
  case atStart => exact ⟨0, Nat.zero_le _, rfl, by simpa [slA] using World.ownsRow_nil _ _ _ _, hB2⟩
  case round =>
    clear hB2
    obtain ⟨t, ht, rfl, hown, hB⟩ := hrel
    by_cases hlt : t < n
    · have hd : decide ((t : Int) < (n : Int)) = true := by simpa using hlt
      have s1 : IntKind.i64.wrap (a + 2) = a + 2 := IntWalk.i64_in _ (by omega)
      have s2 : IntKind.i64.wrap (a + 2 + (t : Int)) = a + 2 + (t : Int) := IntWalk.i64_in _ (by omega)
      go_wp2_with (at_builtin; refine wpList_append_own _ rfl _ _ 42 rfl w.heap.size 3 i0 (.int .i64 0) 1 8 Try.underlying42 hi hz0 hz1 hz2 rfl (by decide) _ _ _ rfl (hown.alloc _) ⟨wr.heap.size, 0, none⟩ 1 1 [.int .i64 (a + 2 + (t : Int))] rfl rfl (cell_one_new _ _ _) (by simp [Value.oneCell']) (by omega) (by omega) (by simp; have := hB.size; omega) ?_; intro v' w4 hown' hgrow _)
      have hB4 : Below w.heap.size w w4 := (hB.alloc (Nat.le_trans hB.size (Nat.le_refl _)) _).grown hgrow (by simp; have := hB.size; omega) (fun k e => by have := (hown.lt k e).1; omega)
      go_wp2
      go_roundw
      case rel => exact ⟨t + 1, by omega, by go_num, by rw [slA_snoc, List.map_append]; exact hown', hB4⟩
      case measure => simp [intOf]; omega
    · have htn : t = n := by omega
      subst htn
      have hd : decide ((t : Int) < (t : Int)) = false := by simp
      go_wp2
      go_ret
      exact ⟨_, rfl, hown, hB⟩
end Go.Proofs.Ytgjaafcagnkfdaa
