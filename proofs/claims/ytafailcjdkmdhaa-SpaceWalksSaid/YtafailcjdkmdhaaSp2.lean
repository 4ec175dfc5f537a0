/-
  The contracts of package space: New, Base, Top, Contains, Load, Store.
-/
import Derived.Test.YtafailcjdkmdhaaProg
import Derived.Test.YtafailcjdkmdhaaSp
namespace Go.Proofs.Ytafailcjdkmdhaa
open Go.RowKit
set_option linter.unusedSimpArgs false
set_option linter.unusedVariables false

theorem alloc3 {w : World} {a a' b b' : Int} {v : Value} {T : TypeId} (h : a = a') (g : b = b') : w.alloc (.cells #[.int .i64 a, .int .i64 b, v] T) = w.alloc (.cells #[.int .i64 a', .int .i64 b', v] T) := by rw [h, g]
def newLm (bs lm : Int) : Int := max (min lm (max (max bs 0) 4294967296)) (max bs 0)
theorem new_any (bs lm : Int) (w : World) :
    Calls Try.prog 11 #[.int .i64 bs, .int .i64 lm] w fun e w' => e = .returned (.pointer (some ⟨w.heap.size, 0, none⟩)) ∧ w.alloc (.cells #[.int .i64 (max bs 0), .int .i64 (newLm bs lm), .slice none 0 0] 71) = w' := by
  go_enter Try.func11, Try.ntmps11
  go_wp2
  all_goals (go_ret; exact ⟨rfl, alloc3 (by omega) (by unfold newLm; first | omega | (split at * <;> omega))⟩)
theorem base_any {w : World} {b : Nat} {bs lm : Int} {ws : List Int} {g : Option Nat} (h : SpAt w b bs lm ws g) :
    Calls Try.prog 43 #[.pointer (some ⟨b, 0, none⟩)] w fun e w' => e = .returned (.int .i64 bs) ∧ Below w.heap.size w w' := by
  obtain ⟨a, cap, c0, c1, c2, hr⟩ := h.cells
  clear h hr
  go_enter Try.func43, Try.ntmps43
  go_wp2
  go_ret
  exact ⟨rfl, by (repeat (first | exact Below.refl _ _ | assumption | refine Below.drew ?_ | refine below_drewN ?_ _ | refine balloc ?_ _ | refine Below.setCell ?_ (by first | (simp; done) | (simp; omega) | omega) _ | refine bchain (by assumption) ?_))⟩
theorem top_any {w : World} {b : Nat} {bs lm : Int} {ws : List Int} {g : Option Nat} (h : SpAt w b bs lm ws g) (hk : SpOk bs lm ws) :
    Calls Try.prog 14 #[.pointer (some ⟨b, 0, none⟩)] w fun e w' => e = .returned (.int .i64 (bs + ws.length)) ∧ Below w.heap.size w w' := by
  obtain ⟨a, cap, c0, c1, c2, hr⟩ := h.cells
  obtain ⟨b0, b1, b2, _⟩ := hk
  clear h hr
  have l0 : (0 : Int) ≤ (ws.length : Int) := by omega
  generalize (ws.length) = n at *
  go_enter Try.func14, Try.ntmps14
  go_wp2
  go_quiet (fail)
  go_wp2
  go_ret
  exact ⟨rfl, by (repeat (first | exact Below.refl _ _ | assumption | refine Below.drew ?_ | refine below_drewN ?_ _ | refine balloc ?_ _ | refine Below.setCell ?_ (by first | (simp; done) | (simp; omega) | omega) _ | refine bchain (by assumption) ?_))⟩
def inB (bs : Int) (n : Nat) (a : Int) : Bool := decide (bs ≤ a ∧ a < bs + n)
theorem contains_any {w : World} {b : Nat} {bs lm : Int} {ws : List Int} {g : Option Nat} (h : SpAt w b bs lm ws g) (hk : SpOk bs lm ws) (x : Int) :
    Calls Try.prog 19 #[.pointer (some ⟨b, 0, none⟩), .int .i64 x] w fun e w' => e = .returned (.bool (inB bs ws.length x)) ∧ Below w.heap.size w w' := by
  have ht := fun (W : World) (H : SpAt W b bs lm ws g) => top_any H hk
  obtain ⟨a, cap, c0, c1, c2, hr⟩ := h.cells
  go_enter Try.func19, Try.ntmps19
  go_wp2_with (go_at_call 14; refine (ht _ h).mono ?_; rintro e wz ⟨rfl, hz⟩)
  all_goals (go_ret; refine ⟨ret_bool ?_, by (repeat (first | exact Below.refl _ _ | assumption | refine Below.drew ?_ | refine below_drewN ?_ _ | refine balloc ?_ _ | refine Below.setCell ?_ (by first | (simp; done) | (simp; omega) | omega) _ | refine bchain (by assumption) ?_))⟩; unfold inB; rw [Bool.eq_iff_iff]; simp; try omega)

theorem inB_iff {bs : Int} {n : Nat} {a : Int} : inB bs n a = true ↔ bs ≤ a ∧ a < bs + n := by unfold inB; simp
theorem load_no {w : World} {b : Nat} {bs lm : Int} {ws : List Int} {g : Option Nat} (h : SpAt w b bs lm ws g) (hk : SpOk bs lm ws) (x : Int) (hx : inB bs ws.length x = false) :
    Calls Try.prog 18 #[.pointer (some ⟨b, 0, none⟩), .int .i64 x] w fun e w' => e = .returned (.tuple #[.int .u64 0, .int .i64 2]) ∧ Below w.heap.size w w' := by
  have hc := contains_any h hk x
  rw [hx] at hc
  clear hx h
  go_enter Try.func18, Try.ntmps18
  go_wp2_with (go_at_call 19; refine hc.mono ?_; rintro e wz ⟨rfl, hz⟩)
  go_ret2
  exact ⟨rfl, by (repeat (first | exact Below.refl _ _ | assumption | refine Below.drew ?_ | refine below_drewN ?_ _ | refine balloc ?_ _ | refine Below.setCell ?_ (by first | (simp; done) | (simp; omega) | omega) _ | refine bchain (by assumption) ?_))⟩
theorem load_yes {w : World} {b : Nat} {bs lm : Int} {ws : List Int} {g : Option Nat} (h : SpAt w b bs lm ws g) (hk : SpOk bs lm ws) (i : Nat) (hi : i < ws.length) :
    Calls Try.prog 18 #[.pointer (some ⟨b, 0, none⟩), .int .i64 (bs + i)] w fun e w' => e = .returned (.tuple #[.int .u64 (ws.getD i 0), .int .i64 0]) ∧ Below w.heap.size w w' := by
  have hc := contains_any h hk (bs + i)
  rw [inB_iff.2 ⟨by omega, by omega⟩] at hc
  obtain ⟨b0, b1, b2, _⟩ := hk
  have l0 : (0 : Int) ≤ (i : Int) := by omega
  have l1 : (i : Int) < (ws.length : Int) := by omega
  go_enter Try.func18, Try.ntmps18
  go_wp2_with fail
  refine hc.mono ?_
  rintro e w1 ⟨rfl, hb1⟩
  obtain ⟨a, cap, c0, c1, c2, hr⟩ := (h.below hb1).cells
  obtain ⟨G, rfl, rfl, q, _⟩ := hr.word hi
  clear h hc hr
  generalize ws.length = n at *
  generalize hx : ws.getD i 0 = x at *
  have HX := Lib.hid hx
  clear hx
  go_wp2_with fail
  have s1 : IntKind.i64.wrap (bs + (i : Int) - bs) = (i : Int) := by rw [show bs + (i : Int) - bs = (i : Int) by omega]; exact IntWalk.i64_in _ (by omega)
  have s2 : ((i : Int)).toNat = i := by omega
  go_quiet (fail)
  clear s1 s2
  go_wp2
  go_ret2
  exact ⟨ret_two HX.out.symm rfl, by (repeat (first | exact Below.refl _ _ | assumption | refine Below.drew ?_ | refine below_drewN ?_ _ | refine balloc ?_ _ | refine Below.setCell ?_ (by first | (simp; done) | (simp; omega) | omega) _ | refine bchain (by assumption) ?_))⟩
theorem store_no {w : World} {b : Nat} {bs lm : Int} {ws : List Int} {g : Option Nat} (h : SpAt w b bs lm ws g) (hk : SpOk bs lm ws) (x u : Int) (hx : inB bs ws.length x = false) :
    Calls Try.prog 20 #[.pointer (some ⟨b, 0, none⟩), .int .i64 x, .int .u64 u] w fun e w' => e = .returned (.int .i64 2) ∧ Below w.heap.size w w' := by
  have hc := contains_any h hk x
  rw [hx] at hc
  clear hx h
  go_enter Try.func20, Try.ntmps20
  go_wp2_with (go_at_call 19; refine hc.mono ?_; rintro e wz ⟨rfl, hz⟩)
  go_ret
  exact ⟨rfl, by (repeat (first | exact Below.refl _ _ | assumption | refine Below.drew ?_ | refine below_drewN ?_ _ | refine balloc ?_ _ | refine Below.setCell ?_ (by first | (simp; done) | (simp; omega) | omega) _ | refine bchain (by assumption) ?_))⟩
theorem take_set {cur : Array Value} {ws : List Int} {i : Nat} (hi : i < ws.length) (u : Int) (h : cur.toList.take ws.length = ws.map (Value.int .u64)) : (cur.setIfInBounds i (.int .u64 u)).toList.take (ws.set i u).length = (ws.set i u).map (Value.int .u64) := by
  rw [Array.toList_setIfInBounds, List.length_set, List.take_set, h, List.map_set]
theorem store_yes {w : World} {b : Nat} {bs lm : Int} {ws : List Int} {g : Option Nat} (h : SpAt w b bs lm ws g) (hk : SpOk bs lm ws) (i : Nat) (hi : i < ws.length) (u : Int) :
    Calls Try.prog 20 #[.pointer (some ⟨b, 0, none⟩), .int .i64 (bs + i), .int .u64 u] w fun e w' => e = .returned (.int .i64 0) ∧ SpAt w' b bs lm (ws.set i u) g ∧ Mods (fun k => g = some k) w w' := by
  have hc := contains_any h hk (bs + i)
  rw [inB_iff.2 ⟨by omega, by omega⟩] at hc
  obtain ⟨b0, b1, b2, _⟩ := hk
  have l0 : (0 : Int) ≤ (i : Int) := by omega
  have l1 : (i : Int) < (ws.length : Int) := by omega
  go_enter Try.func20, Try.ntmps20
  go_wp2_with fail
  refine hc.mono ?_
  rintro e w1 ⟨rfl, hb1⟩
  have h1 := h.below hb1
  have hG := h.glt
  obtain ⟨a, cap, c0, c1, c2, hr⟩ := h1.cells
  obtain ⟨G, rfl, rfl, q, q'⟩ := hr.word hi
  have hgl := hG G rfl
  have hfin : ∀ n, SpAt (w1.drewN n |>.setCell ⟨G, i, none⟩ (.int .u64 u)) b bs lm (ws.set i u) (some G) := by
    intro n
    obtain ⟨a', cap', e1, ⟨e2, e3, e4⟩, e5⟩ := h1
    rcases e4 with ⟨e4, _⟩ | ⟨G', cur, f1, f2, f3, f4, f5⟩
    · cases e4
    · cases f1
      have hne : b ≠ G := fun e => e5 (by rw [e])
      refine ⟨a', cap', ?_, ⟨by simpa using e2, e3, .inr ⟨G, cur.setIfInBounds i (.int .u64 u), rfl, f2, ?_, by simpa using f4, take_set hi u f5⟩⟩, e5⟩
      · rw [heap_setCell_other _ _ _ _ (by simpa using hne)]
        simpa using e1
      · exact heap_setCell_same (w1.drewN n) G i cur _ _ (by simpa using f3)
  have HF := Lib.hid hfin
  clear h hc hr h1 hG hfin
  generalize ws.length = n at *
  generalize ws.getD i 0 = x at *
  go_wp2_with fail
  have s2 : (bs + (i : Int) - bs).toNat = i := by omega
  go_region
  all_goals
    clear s2
    go_wp2
    go_ret
    exact ⟨rfl, HF.out 1, by (repeat (first | exact Mods.refl _ _ | assumption | refine Mods.drew ?_ | refine Mods.drewN ?_ _ | refine Mods.alloc ?_ _ | refine Mods.setCell ?_ (by first | exact .inl rfl | exact .inl (.inl rfl) | exact .inl (.inr rfl) | (right; simp; done) | (right; simp; omega)) _ | refine Mods.chain (by assumption) ?_))⟩
end Go.Proofs.Ytafailcjdkmdhaa
