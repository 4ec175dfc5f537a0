/-
  nursery.Collect: the closure; copyObject.
-/
import Derived.Test.YtgjaafcagnkfdaaTsI
namespace Go.Proofs.Ytgjaafcagnkfdaa
open Go.RowKit Go.Maps
set_option linter.unusedSimpArgs false
set_option linter.unusedVariables false

/-- Where a word leads once the young objects lie in the old space. -/
def mvS (S : List (Int × Int)) (x : Int) : Int := if ldY x = true then faW ((toF S (adA x)).getD 0) else x
theorem mvS_no {S : List (Int × Int)} {x : Int} (h : ldY x = false) : mvS S x = x := by unfold mvS; rw [if_neg (by rw [h]; simp)]
theorem mvS_yes {S : List (Int × Int)} {x : Int} (h : ldY x = true) : mvS S x = faW ((toF S (adA x)).getD 0) := by unfold mvS; rw [if_pos h]
theorem mvS_u {S : List (Int × Int)} {x : Int} (hx : U64 x) : U64 (mvS S x) := by
  unfold mvS
  split
  · exact faU _
  · exact hx
/-- What the closure needs of a word: it is no young reference, or it leads to an object of the map. -/
def Mx (wo wy : List Int) (S : List (Int × Int)) (x : Int) : Prop := U64 x ∧ (ldY x = true → YO wo wy (adA x) ∧ (toF S (adA x)).isSome = true)
structure MvAt (w : World) (bm bt mb bO bY : Nat) (S : List (Int × Int)) : Prop where
  km : w.heap[bm]? = some (.cells #[.pointer (some ⟨bO, 0, none⟩), .pointer (some ⟨bY, 0, none⟩)] 26 (0, 0))
  kt : w.heap[bt]? = some (.cells #[.map (some mb)] 55 (0, 0))
  mp : MapII w mb S
theorem MvAt.mods {S0 : Nat → Prop} {w w' : World} {bm bt mb bO bY : Nat} {S : List (Int × Int)} (h : MvAt w bm bt mb bO bY S) (hM : Mods S0 w w') (h1 : ¬ S0 bm) (h2 : ¬ S0 bt) (h3 : ¬ S0 mb) : MvAt w' bm bt mb bO bY S := ⟨mblock hM h.km h1, mblock hM h.kt h2, h.mp.mods hM h3⟩
theorem MvAt.below {w w' : World} {bm bt mb bO bY : Nat} {S : List (Int × Int)} (h : MvAt w bm bt mb bO bY S) (hb : Below w.heap.size w w') : MvAt w' bm bt mb bO bY S := h.mods (S0 := fun _ => False) (Mods.of_below hb) (fun h => h) (fun h => h) (fun h => h)
set_option maxRecDepth 100000 in
set_option maxHeartbeats 4000000 in
theorem moved_any {w : World} {bO bY : Nat} {lo ly : Int} {wo wy : List Int} {gO gY : Option Nat} (hm : MemAt w bO bY lo ly wo wy gO gY) {bm bt mb : Nat} {S : List (Int × Int)} (h : MvAt w bm bt mb bO bY S) (x : Int) (hx : Mx wo wy S x) :
    Calls Try.prog 20 #[.int .u64 x, .pointer (some ⟨bm, 0, none⟩), .pointer (some ⟨bt, 0, none⟩)] w fun e w' => e = .returned (.int .u64 (mvS S x)) ∧ Below w.heap.size w w' := by
  have hld := leads_any hm x hx.1
  have c0 : w.cell? ⟨bm, 0, none⟩ = some (.pointer (some ⟨bO, 0, none⟩)) := by rw [cell_of_block h.km]; rfl
  have c1 : w.cell? ⟨bm, 1, none⟩ = some (.pointer (some ⟨bY, 0, none⟩)) := by rw [cell_of_block h.km]; rfl
  have z0 : bm < w.heap.size := (Array.getElem?_eq_some_iff.1 h.km).1
  have z1 : bt < w.heap.size := (Array.getElem?_eq_some_iff.1 h.kt).1
  have H := Lib.hid h
  cases hy : ldY x
  · obtain ⟨e1, e2⟩ := Gw.no (wo := wo) (wy := wy) hy
    rw [hy, e1, e2] at hld
    rw [mvS_no hy]
    clear h hm hy hx
    go_enter Try.func20, Try.ntmps20
    go_wp2_with fail
    refine hld.mono ?_
    rintro e w1 ⟨rfl, hb1⟩
    go_wp2
    go_ret
    exact ⟨rfl, hb1⟩
  · obtain ⟨h1, h2⟩ := hx.2 hy
    obtain ⟨e1, e2⟩ := Gw.ld (wo := wo) (wy := wy) (fun _ => h1.res) hy
    obtain ⟨b0, b1⟩ := ldY_bd hy
    rw [hy, e1, e2] at hld
    rw [mvS_yes hy]
    obtain ⟨v, hv⟩ := Option.isSome_iff_exists.1 h2
    generalize adA x = a at *
    rw [hv, Option.getD_some]
    have hF := fun W => fromaddr_any v W
    have HV := Lib.hid hv
    clear h hm hy hx h1 h2 e1 e2 hv
    go_enter Try.func20, Try.ntmps20
    go_wp2_with fail
    refine hld.mono ?_
    rintro e w1 ⟨rfl, hb1⟩
    have k1 : w1.cell? ⟨bt, 0, none⟩ = some (.map (some mb)) := by rw [cell_of_block (H.out.below hb1).kt]; rfl
    have hlk := (H.out.below hb1).mp.look2 (x := a) (by omega)
    rw [HV.out, Option.getD_some, Option.isSome_some] at hlk
    have z1 : bt < w1.heap.size := (Array.getElem?_eq_some_iff.1 (H.out.below hb1).kt).1
    have HB1 := Lib.hid hb1
    clear hb1 hld c0 c1
    go_wp2_with fail
    refine (hF _).mono ?_
    rintro e w2 ⟨rfl, hb2⟩
    go_wp2
    go_ret
    exact ⟨rfl, bchain hb2 HB1.out⟩
/-- The words of a copy: its slots are moved, the others are not. -/
def cpV (wy : List Int) (S : List (Int × Int)) (a f i : Int) : Int := if i < 2 + f then mvS S (LD [] wy (a + i)) else LD [] wy (a + i)
def cpW (wy : List Int) (S : List (Int × Int)) (a f : Int) (d : Nat) (wo : List Int) : Nat → List Int
  | 0 => wo
  | k + 1 => (cpW wy S a f d wo k).set (d + 2 + k) (cpV wy S a f (2 + (k : Int)))
theorem cpW_len (wy : List Int) (S : List (Int × Int)) (a f : Int) (d : Nat) (wo : List Int) (k : Nat) : (cpW wy S a f d wo k).length = wo.length := by
  induction k with
  | zero => rfl
  | succ k ih => unfold cpW; rw [List.length_set, ih]
theorem LD_y {wo wo' wy : List Int} {a : Int} (h : 16777216 ≤ a) : LD wo wy a = LD wo' wy a := by unfold LD wsA bsA; rw [if_pos h, if_pos h, if_pos h]
theorem HE_y {wo wo' wy : List Int} {a : Int} (h : 16777216 ≤ a) : HE wo wy a = HE wo' wy a ∧ HK wo wy a = HK wo' wy a ∧ HC wo wy a = HC wo' wy a ∧ HF wo wy a = HF wo' wy a := by
  unfold HE HK HC HF wsA bsA
  rw [if_pos h, if_pos h, if_pos h]
  exact ⟨rfl, rfl, rfl, rfl⟩
theorem YO_y {wo wo' wy : List Int} {a : Int} (h : YO wo wy a) : YO wo' wy a := by
  obtain ⟨h1, h2, h3⟩ := h
  obtain ⟨e1, e2, _, _⟩ := HE_y (wo := wo) (wo' := wo') (wy := wy) h1
  exact ⟨h1, by rw [← e1]; exact h2, by rw [← e2]; exact h3⟩
theorem Mx_y {wo wo' wy : List Int} {S : List (Int × Int)} {x : Int} (h : Mx wo wy S x) : Mx wo' wy S x := ⟨h.1, fun hy => ⟨YO_y (h.2 hy).1, (h.2 hy).2⟩⟩
theorem stO_old {wo wy : List Int} {d : Nat} (h : d < wo.length) (hl : (wo.length : Int) ≤ 16777216) (u : Int) : stO wo (d : Int) u = wo.set d u ∧ stY wy (d : Int) u = wy := by
  have h0 : ¬ (16777216 ≤ (d : Int)) := by omega
  unfold stO stY stW
  rw [if_neg h0, if_neg h0, inB_iff.2 ⟨by omega, by omega⟩, if_pos rfl]
  refine ⟨?_, rfl⟩
  congr 1
end Go.Proofs.Ytgjaafcagnkfdaa
