/-
  Two maps of slices of integers side by side that a call builds: no row of the one is a row of the other. Plain laws over the kit's maps.
-/
import Derived.Test.YtbkfjhbebhnijaaDsS
import Derived.Maps.GroupsBeside
namespace Go.Proofs.Ytbkfjhbebhnijaa
open Go.RowKit Go.Maps Go.WideElems Go.ChangeShapes Go.MapKept
set_option linter.unusedSimpArgs false
set_option linter.unusedVariables false

theorem law31 : Keyed Try.prog 3 := int_keyed Try.underlying3
theorem zero31 (w : World) : (zeroValue 22).run Try.prog w = .ok (.slice none 0 0) w := by kernel_rfl
/-- What a map of slices holds at a number. -/
def GrpD (D : DataW Unit) (f : Int → List Int) : Prop := ∀ x : Int, (D.atKey (.int .i64 x) .nil = .nil ∧ f x = []) ∨ D.atKey (.int .i64 x) .nil = .slice (lits .i64 (f x)) []
theorem lits_inj {a b : List Int} (h : (lits (H := Unit) .i64 a) = lits .i64 b) : a = b := by
  unfold lits at h
  exact (List.map_inj_right (fun x y hxy => by cases hxy; rfl)).1 h
theorem GrpD.is {D : DataW Unit} {f : Int → List Int} (h : GrpD D f) {w : World} {B : Nat} {e : TypeId} {x : Int} {v : Value} {zs : List Int} (hat : D.atKey (.int .i64 x) .nil = rowDatum .i64 v zs) (hoi : w.ownsInts B e .i64 v zs) : zs = f x := by
  rcases hoi.datum (H := Unit) with ⟨e1, e2⟩ | e1
  · rcases h x with ⟨_, h2⟩ | h2
    · rw [e2, h2]
    · rw [hat, e1] at h2
      cases h2
  · rcases h x with ⟨h1, _⟩ | h2
    · rw [hat, e1] at h1
      cases h1
    · rw [hat, e1] at h2
      injection h2 with h3 _
      exact lits_inj h3
structure Two (w : World) (B b1 b2 n1 n2 : Nat) (D1 D2 : DataW Unit) : Prop where
  g1 : w.ownsGroups Try.prog 3 B 3 .i64 b1 n1 D1
  g2 : w.ownsGroups Try.prog 3 B 3 .i64 b2 n2 D2
  sh : ∃ No1 No2 : Nat → Prop, w.Shuns b1 No1 ∧ w.Shuns b2 No2 ∧ ∀ g, No1 g ∨ No2 g
  ne : b1 ≠ b2
theorem Two.swap {w : World} {B b1 b2 n1 n2 : Nat} {D1 D2 : DataW Unit} (h : Two w B b1 b2 n1 n2 D1 D2) : Two w B b2 b1 n2 n1 D2 D1 := by
  obtain ⟨No1, No2, h1, h2, h3⟩ := h.sh
  exact ⟨h.g2, h.g1, ⟨No2, No1, h2, h1, fun g => (h3 g).symm⟩, fun e => h.ne e.symm⟩
theorem groups_lt {w : World} {B b n : Nat} {D : DataW Unit} (h : w.ownsGroups Try.prog 3 B 3 .i64 b n D) : b < w.heap.size ∧ b < B := by
  obtain ⟨es, clock, hb, _, _, _, h2, _⟩ := h
  exact ⟨(Array.getElem?_eq_some_iff.1 hb).1, h2⟩
/-- Over whatever leaves both maps and their rows. -/
theorem Two.kept {w w' : World} {B b1 b2 n1 n2 : Nat} {D1 D2 : DataW Unit} {row : Option Nat} (h : Two w B b1 b2 n1 n2 D1 D2) (hg : w.grownBy w' row) (hr : ∀ j, row = some j → j < B ∧ j ≠ b1 ∧ j ≠ b2) : Two w' B b1 b2 n1 n2 D1 D2 := by
  obtain ⟨No1, No2, h1, h2, h3⟩ := h.sh
  have e1 : some b1 ≠ row := fun e => (hr b1 e.symm).2.1 rfl
  have e2 : some b2 ≠ row := fun e => (hr b2 e.symm).2.2 rfl
  exact ⟨h.g1.kept hg e1 (h.g1.rowsAbove (fun j hj => (hr j hj).1)), h.g2.kept hg e2 (h.g2.rowsAbove (fun j hj => (hr j hj).1)), ⟨No1, No2, h1.kept hg (groups_lt h.g1).1 e1, h2.kept hg (groups_lt h.g2).1 e2, h3⟩, h.ne⟩
theorem groups_empty (w : World) {B : Nat} (h : w.heap.size < B) : (w.alloc (.map #[] 0)).ownsGroups (H := Unit) Try.prog 3 B 3 .i64 w.heap.size 0 (.map []) :=
  ⟨#[], 0, (MapKept.heap_alloc w _).1, ⟨by simp, stamped_empty 0, by simp⟩, Nat.le_refl _, rfl, h, by simp, by simp⟩
theorem grpD_empty : GrpD (.map []) (fun _ => []) := fun x => .inl ⟨by simp [DataW.atKey], rfl⟩
theorem GrpD.put {D : DataW Unit} {f : Int → List Int} (h : GrpD D f) (hD : IsMap D) {w : World} {B : Nat} {e : TypeId} {x : Int} {v : Value} {zs : List Int} (hoi : w.ownsInts B e .i64 v zs) (hz : zs ≠ []) : GrpD (D.put (.int .i64 x) (rowDatum .i64 v zs)) (fun y => if y = x then zs else f y) := by
  intro y
  by_cases hy : y = x
  · subst hy
    right
    simp only [if_true]
    rw [atKey_put_same hD (by first | exact .inr (.inl ⟨_, _, rfl⟩) | simp [WideAt.IsKeyLit]), hoi.datum_pos hz]
  · simp only [if_neg hy]
    rw [atKey_put_other (by simpa using hy)]
    exact h y
/-- A number was appended to a group of the first map: u: the group as it was handed over (world w); v': as it was stored (w5, then w6). -/
theorem Two.add {w w5 w6 : World} {B b1 b2 n1 n2 : Nat} {D1 D2 D1' : DataW Unit} {u v' : Value} {zs zs' : List Int} (h : Two w B b1 b2 n1 n2 D1 D2) {No1 No2 : Nat → Prop} (h2 : w.Shuns b2 No2) (hc : ∀ g, No1 g ∨ No2 g)
    (hsu : ∀ g, u.ownBlock = some g → ¬ No1 g) (hoi : w.ownsInts B 3 .i64 u zs) (hall : w.grownBy w5 u.ownBlock) (hoi' : w5.ownsInts B 3 .i64 v' zs') (hloc : v'.ownBlock = u.ownBlock ∨ ∃ g, v'.ownBlock = some g ∧ w.heap.size ≤ g)
    (hown6 : w6.ownsGroups Try.prog 3 B 3 .i64 b1 (n1 + 1) D1') (hg6 : w5.grownBy w6 (some b1)) (hsh6 : w6.Shuns b1 (fun g => No1 g ∧ v'.ownBlock ≠ some g)) : Two w6 B b1 b2 (n1 + 1) n2 D1' D2 := by
  obtain ⟨l2, l2'⟩ := groups_lt h.g2
  have hu2 : ∀ g, u.ownBlock = some g → No2 g := fun g e => (hc g).resolve_left (hsu g e)
  have hu : ∀ g, u.ownBlock = some g → B ≤ g := fun g e => (hoi.1.lt g e).1
  have e2 : some b2 ≠ u.ownBlock := fun e => by have := hu b2 e.symm; omega
  have e3 : some b2 ≠ some b1 := fun e => h.ne (by cases e; rfl)
  have k2 := (h.g2.kept hall e2 (h2.rowsOff hu2)).kept hg6 e3 ((h.g2.kept hall e2 (h2.rowsOff hu2)).rowsAbove (fun j hj => by cases hj; exact (groups_lt h.g1).2))
  have s2 : w.Shuns b2 (fun g => No2 g ∨ v'.ownBlock = some g) := h2.reno h.g2 (fun g hg => by
    rcases hg with hg | hg
    · exact .inl hg
    · rcases hloc with e | ⟨g', e, hge⟩
      · exact .inl (hu2 g (e ▸ hg))
      · rw [e] at hg
        cases hg
        exact .inr hge)
  have s2' := (s2.kept hall l2 e2).kept hg6 (Nat.lt_of_lt_of_le l2 hall.size) e3
  refine ⟨hown6, k2, ⟨_, _, hsh6, s2', fun g => ?_⟩, h.ne⟩
  by_cases hv : v'.ownBlock = some g
  · exact .inr (.inr hv)
  · rcases hc g with h1 | h1
    · exact .inl ⟨h1, hv⟩
    · exact .inr (.inl h1)
theorem Shuns.less {w : World} {b : Nat} {No No' : Nat → Prop} (h : w.Shuns b No) (hn : ∀ g, No' g → No g) : w.Shuns b No' := fun es clock hb x hx g hg hN => h es clock hb x hx g hg (hn g hN)
end Go.Proofs.Ytbkfjhbebhnijaa
