/-
  law 31: summaries of stubs and their insets in memory; Same and SameStubs where both are equal.
-/
import Derived.Test.YtbkfjhbebhnijaaDsO
namespace Go.Proofs.Ytbkfjhbebhnijaa
open Go.RowKit Go.Maps Go.WideElems Go.ChangeShapes Go.MapKept
set_option linter.unusedSimpArgs false
set_option linter.unusedVariables false

structure Ins where
  c : Int
  n : Int
  o : Int
structure Stb where
  o : Int
  n : Int
  r : Bool
  d : Int
  ins : List Ins
def InsAt (w : World) (b o : Nat) (x : Ins) : Prop := w.cell? ⟨b, o, none⟩ = some (.int .i64 x.c) ∧ w.cell? ⟨b, o + 1, none⟩ = some (.int .u64 x.n) ∧ w.cell? ⟨b, o + 2, none⟩ = some (.int .i64 x.o)
/-- A slice of insets. -/
def InsV (w : World) (v : Value) (l : List Ins) : Prop :=
  ∃ (a : Option Addr) (cap : Nat), v = .slice a l.length cap ∧ l.length ≤ cap ∧ cap ≤ 9223372036854775807 ∧ (a = none → cap = 0) ∧ (l = [] ∨ ∃ b off : Nat, a = some ⟨b, off, none⟩ ∧ ∀ i x, l[i]? = some x → InsAt w b (off + i * 3) x)
theorem InsAt.below {w w' : World} {b o : Nat} {x : Ins} (h : InsAt w b o x) (hb : Below w.heap.size w w') : InsAt w' b o x := ⟨bcellv hb h.1, bcellv hb h.2.1, bcellv hb h.2.2⟩
theorem InsV.below {w w' : World} {v : Value} {l : List Ins} (h : InsV w v l) (hb : Below w.heap.size w w') : InsV w' v l := by
  obtain ⟨a, cap, hv, h1, h2, h0, h3⟩ := h
  refine ⟨a, cap, hv, h1, h2, h0, ?_⟩
  rcases h3 with h3 | ⟨b, off, ha, h3⟩
  · exact .inl h3
  · exact .inr ⟨b, off, ha, fun i x hx => (h3 i x hx).below hb⟩
theorem InsV.get {w : World} {a : Option Addr} {l : List Ins} (h : l = [] ∨ ∃ b off : Nat, a = some ⟨b, off, none⟩ ∧ ∀ i x, l[i]? = some x → InsAt w b (off + i * 3) x) {t : Nat} (ht : t < l.length) : ∃ b off : Nat, ∃ x : Ins, a = some ⟨b, off, none⟩ ∧ l[t]? = some x ∧ InsAt w b (off + t * 3) x := by
  rcases h with h | ⟨b, off, ha, h⟩
  · rw [h] at ht
    simp at ht
  · have he := List.getElem?_eq_getElem ht
    exact ⟨b, off, _, ha, he, h t _ he⟩
/-- A summary of a stub, its insets in memory. -/
def StbAt (w : World) (b o : Nat) (x : Stb) : Prop := w.cell? ⟨b, o, none⟩ = some (.int .i64 x.o) ∧ w.cell? ⟨b, o + 1, none⟩ = some (.int .u64 x.n) ∧ w.cell? ⟨b, o + 2, none⟩ = some (.bool x.r) ∧ w.cell? ⟨b, o + 3, none⟩ = some (.int .i64 x.d) ∧ ∃ iv, w.cell? ⟨b, o + 4, none⟩ = some iv ∧ InsV w iv x.ins
def StbV (w : World) (v : Value) (l : List Stb) : Prop :=
  ∃ (a : Option Addr) (cap : Nat), v = .slice a l.length cap ∧ l.length ≤ cap ∧ cap ≤ 9223372036854775807 ∧ (a = none → cap = 0) ∧ (l = [] ∨ ∃ b off : Nat, a = some ⟨b, off, none⟩ ∧ ∀ i x, l[i]? = some x → StbAt w b (off + i * 5) x)
theorem StbAt.below {w w' : World} {b o : Nat} {x : Stb} (h : StbAt w b o x) (hb : Below w.heap.size w w') : StbAt w' b o x := by
  obtain ⟨h0, h1, h2, h3, iv, h4, h5⟩ := h
  exact ⟨bcellv hb h0, bcellv hb h1, bcellv hb h2, bcellv hb h3, iv, bcellv hb h4, h5.below hb⟩
theorem StbV.below {w w' : World} {v : Value} {l : List Stb} (h : StbV w v l) (hb : Below w.heap.size w w') : StbV w' v l := by
  obtain ⟨a, cap, hv, h1, h2, h0, h3⟩ := h
  refine ⟨a, cap, hv, h1, h2, h0, ?_⟩
  rcases h3 with h3 | ⟨b, off, ha, h3⟩
  · exact .inl h3
  · exact .inr ⟨b, off, ha, fun i x hx => (h3 i x hx).below hb⟩
theorem StbV.get {w : World} {a : Option Addr} {l : List Stb} (h : l = [] ∨ ∃ b off : Nat, a = some ⟨b, off, none⟩ ∧ ∀ i x, l[i]? = some x → StbAt w b (off + i * 5) x) {t : Nat} (ht : t < l.length) : ∃ b off : Nat, ∃ x : Stb, a = some ⟨b, off, none⟩ ∧ l[t]? = some x ∧ StbAt w b (off + t * 5) x := by
  rcases h with h | ⟨b, off, ha, h⟩
  · rw [h] at ht
    simp at ht
  · have he := List.getElem?_eq_getElem ht
    exact ⟨b, off, _, ha, he, h t _ he⟩
def stbA (x : Stb) (iv : Value) : Value := .agg #[.int .i64 x.o, .int .u64 x.n, .bool x.r, .int .i64 x.d, iv]

set_option maxRecDepth 100000 in
set_option maxHeartbeats 8000000 in
theorem same_any {w : World} {x : Stb} {v1 v2 : Value} (h1 : InsV w v1 x.ins) (h2 : InsV w v2 x.ins) :
    Calls Try.prog 29 #[stbA x v1, stbA x v2] w fun e w' => e = .returned (.bool true) ∧ Below w.heap.size w w' := by
  obtain ⟨a1, c1, rfl, n1, m1, _, r1⟩ := h1
  obtain ⟨a2, c2, rfl, n2, m2, _, r2⟩ := h2
  have r1' := fun t (ht : t < x.ins.length) => InsV.get r1 ht
  have r2' := fun t (ht : t < x.ins.length) => InsV.get r2 ht
  have R1 := Lib.hid r1'
  have R2 := Lib.hid r2'
  clear r1 r2 r1' r2'
  unfold stbA
  obtain ⟨xo, xn, xr, xd, l⟩ := x
  dsimp only at *
  generalize l.length = n at *
  have hr : (xr != xr) = false := by cases xr <;> rfl
  go_enter Try.func29, Try.ntmps29
  go_wp2_with fail
  have k1 : ((w.alloc (.cells #[.int .i64 xo, .int .u64 xn, .bool xr, .int .i64 xd, .slice a1 n c1] 52)).alloc (.cells #[.int .i64 xo, .int .u64 xn, .bool xr, .int .i64 xd, .slice a2 n c2] 52)).cell? ⟨w.heap.size, 4, none⟩ = some (.slice a1 n c1) := bcellv (balloc (Below.refl _ _) _) (by rw [cell_of_block (alloc_get _ _)]; rfl)
  have k2 : ((w.alloc (.cells #[.int .i64 xo, .int .u64 xn, .bool xr, .int .i64 xd, .slice a1 n c1] 52)).alloc (.cells #[.int .i64 xo, .int .u64 xn, .bool xr, .int .i64 xd, .slice a2 n c2] 52)).cell? ⟨w.heap.size + 1, 4, none⟩ = some (.slice a2 n c2) := by rw [cell_of_block (alloc_at _ (by simp))]; rfl
  have hb0 : Below w.heap.size w ((w.alloc (.cells #[.int .i64 xo, .int .u64 xn, .bool xr, .int .i64 xd, .slice a1 n c1] 52)).alloc (.cells #[.int .i64 xo, .int .u64 xn, .bool xr, .int .i64 xd, .slice a2 n c2] 52)) := balloc (balloc (Below.refl _ _) _) _
  generalize (w.alloc (.cells #[.int .i64 xo, .int .u64 xn, .bool xr, .int .i64 xd, .slice a1 n c1] 52)).alloc (.cells #[.int .i64 xo, .int .u64 xn, .bool xr, .int .i64 xd, .slice a2 n c2] 52) = w2 at *
  go_loopw [5] (fun i wr => ∃ t : Nat, t ≤ n ∧ i = .int .i64 t ∧ Below w2.heap.size w2 wr) (fun i _ => n - (intOf i).toNat)
  case atStart => exact ⟨0, Nat.zero_le _, rfl, Below.refl _ _⟩
  case round =>
    obtain ⟨t, ht, rfl, hbr⟩ := hrel
    have hbw := bchain hbr hb0
    have k1 := bcellv hbr k1
    have k2 := bcellv hbr k2
    by_cases htn : t < n
    · obtain ⟨b1, f1, z, e1, hz, p0, p1, p2⟩ := R1.out t htn
      cases e1
      obtain ⟨b2, f2, z2, e2, hz2, q0, q1, q2⟩ := R2.out t htn
      cases e2
      rw [hz] at hz2
      cases hz2
      obtain ⟨zc, zn, zo⟩ := z
      dsimp only at p0 p1 p2 q0 q1 q2
      have p0 := bcellv hbw p0
      have p1 := bcellv hbw p1
      have p2 := bcellv hbw p2
      have q0 := bcellv hbw q0
      have q1 := bcellv hbw q1
      have q2 := bcellv hbw q2
      have s1 : ((t : Int)).toNat = t := by omega
      clear hz
      go_wp2_with fail
      go_quiet (fail)
      go_wp2
      go_roundw
      case rel => exact ⟨t + 1, by omega, by go_num, by (repeat (first | exact Below.refl _ _ | assumption | refine Below.drew ?_ | refine below_drewN ?_ _ | refine balloc ?_ _ | refine Below.setCell ?_ (by first | (simp; done) | (simp; omega) | omega) _ | refine bchain (by assumption) ?_))⟩
      case measure => simp [intOf]; omega
    · have htn' : t = n := by omega
      subst htn'
      go_wp2
      go_ret
      exact ⟨by simp, by (repeat (first | exact Below.refl _ _ | assumption | refine Below.drew ?_ | refine below_drewN ?_ _ | refine balloc ?_ _ | refine Below.setCell ?_ (by first | (simp; done) | (simp; omega) | omega) _ | refine bchain (by assumption) ?_))⟩
set_option maxRecDepth 100000 in
set_option maxHeartbeats 8000000 in
theorem samestubs_any {w : World} {l : List Stb} {v1 v2 : Value} (h1 : StbV w v1 l) (h2 : StbV w v2 l) :
    Calls Try.prog 24 #[v1, v2] w fun e w' => e = .returned (.bool true) ∧ Below w.heap.size w w' := by
  obtain ⟨a1, c1, rfl, n1, m1, _, r1⟩ := h1
  obtain ⟨a2, c2, rfl, n2, m2, _, r2⟩ := h2
  have r1' := fun t (ht : t < l.length) => StbV.get r1 ht
  have r2' := fun t (ht : t < l.length) => StbV.get r2 ht
  have R1 := Lib.hid r1'
  have R2 := Lib.hid r2'
  clear r1 r2 r1' r2'
  generalize l.length = n at *
  go_enter Try.func24, Try.ntmps24
  go_wp2_with fail
  go_loopw [5] (fun i wr => ∃ t : Nat, t ≤ n ∧ i = .int .i64 t ∧ Below w.heap.size w wr) (fun i _ => n - (intOf i).toNat)
  case atStart => exact ⟨0, Nat.zero_le _, rfl, Below.refl _ _⟩
  case round =>
    obtain ⟨t, ht, rfl, hbr⟩ := hrel
    by_cases htn : t < n
    · obtain ⟨b1, f1, z, e1, hz, p0, p1, p2, p3, i1, p4, j1⟩ := R1.out t htn
      cases e1
      obtain ⟨b2, f2, z2, e2, hz2, q0, q1, q2, q3, i2, q4, j2⟩ := R2.out t htn
      cases e2
      rw [hz] at hz2
      cases hz2
      have hS : ∀ W, Below w.heap.size w W → Calls Try.prog 29 #[stbA z i1, stbA z i2] W fun e w' => e = .returned (.bool true) ∧ Below W.heap.size W w' := fun W H => same_any (j1.below H) (j2.below H)
      unfold stbA at hS
      obtain ⟨zo, zn, zr, zd, zi⟩ := z
      dsimp only at *
      have s1 : ((t : Int)).toNat = t := by omega
      have o0 : ∀ x, (over wr x).cell? ⟨b1, f1 + t * 5, none⟩ = _ := over_cell (bcellv hbr p0)
      have o1 : ∀ x, (over wr x).cell? ⟨b1, f1 + t * 5 + 1, none⟩ = _ := over_cell (bcellv hbr p1)
      have o2 : ∀ x, (over wr x).cell? ⟨b1, f1 + t * 5 + 2, none⟩ = _ := over_cell (bcellv hbr p2)
      have o3 : ∀ x, (over wr x).cell? ⟨b1, f1 + t * 5 + 3, none⟩ = _ := over_cell (bcellv hbr p3)
      have o4 : ∀ x, (over wr x).cell? ⟨b1, f1 + t * 5 + 4, none⟩ = _ := over_cell (bcellv hbr p4)
      have u0 : ∀ x, (over wr x).cell? ⟨b2, f2 + t * 5, none⟩ = _ := over_cell (bcellv hbr q0)
      have u1 : ∀ x, (over wr x).cell? ⟨b2, f2 + t * 5 + 1, none⟩ = _ := over_cell (bcellv hbr q1)
      have u2 : ∀ x, (over wr x).cell? ⟨b2, f2 + t * 5 + 2, none⟩ = _ := over_cell (bcellv hbr q2)
      have u3 : ∀ x, (over wr x).cell? ⟨b2, f2 + t * 5 + 3, none⟩ = _ := over_cell (bcellv hbr q3)
      have u4 : ∀ x, (over wr x).cell? ⟨b2, f2 + t * 5 + 4, none⟩ = _ := over_cell (bcellv hbr q4)
      clear hz p0 p1 p2 p3 p4 q0 q1 q2 q3 q4 j1 j2
      go_wp2_with fail
      (refine wp_region_over (by kernel_rfl) (by kernel_rfl) ?_); (repeat (go_big_quiet_step (((go_at_call 29; exact calls_over (hS _ (bchain (over_below _ _) hbr))))))); (refine wpQuiet_nil ?_)
      intro w5 hb5
      go_wp2
      go_roundw
      case rel => exact ⟨t + 1, by omega, by go_num, by (repeat (first | exact Below.refl _ _ | assumption | refine Below.drew ?_ | refine below_drewN ?_ _ | refine balloc ?_ _ | refine Below.setCell ?_ (by first | (simp; done) | (simp; omega) | omega) _ | refine bchain (by assumption) ?_))⟩
      case measure => simp [intOf]; omega
    · have htn' : t = n := by omega
      subst htn'
      go_wp2
      go_ret
      exact ⟨by simp, by (repeat (first | exact Below.refl _ _ | assumption | refine Below.drew ?_ | refine below_drewN ?_ _ | refine balloc ?_ _ | refine Below.setCell ?_ (by first | (simp; done) | (simp; omega) | omega) _ | refine bchain (by assumption) ?_))⟩
end Go.Proofs.Ytbkfjhbebhnijaa
