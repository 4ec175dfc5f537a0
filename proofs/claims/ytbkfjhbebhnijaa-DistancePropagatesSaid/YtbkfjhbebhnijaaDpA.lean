/-
  law 31: entries of scions in memory; the distance that the reference finds for an entry of an inset; the map of known distances.
-/
import Derived.Test.YtbkfjhbebhnijaaDtE
import Derived.DeepKeys4
import Derived.Maps.OwnSet
namespace Go.Proofs.Ytbkfjhbebhnijaa
open Go.RowKit Go.Maps Go.WideElems Go.ChangeShapes Go.MapKept
set_option linter.unusedSimpArgs false
set_option linter.unusedVariables false

structure Sce where
  c : Int
  n : Int
  i0 : Int
  i1 : Int
  ou : Int
  iu : Int
  d : Int
  tb : Bool
  wb : Bool
  gb : Bool
  k0 : Int
  k1 : Int
def SceAt (w : World) (b o : Nat) (x : Sce) : Prop := w.cell? ⟨b, o, none⟩ = some (.int .i64 x.c) ∧ w.cell? ⟨b, o + 1, none⟩ = some (.int .u64 x.n) ∧ w.cell? ⟨b, o + 2, none⟩ = some (.int .i64 x.i0) ∧ w.cell? ⟨b, o + 3, none⟩ = some (.int .i64 x.i1) ∧ w.cell? ⟨b, o + 4, none⟩ = some (.int .i64 x.ou) ∧ w.cell? ⟨b, o + 5, none⟩ = some (.int .i64 x.iu) ∧ w.cell? ⟨b, o + 6, none⟩ = some (.int .i64 x.d) ∧ w.cell? ⟨b, o + 7, none⟩ = some (.bool x.tb) ∧ w.cell? ⟨b, o + 8, none⟩ = some (.bool x.wb) ∧ w.cell? ⟨b, o + 9, none⟩ = some (.bool x.gb) ∧ w.cell? ⟨b, o + 10, none⟩ = some (.int .i64 x.k0) ∧ w.cell? ⟨b, o + 11, none⟩ = some (.int .i64 x.k1)
/-- Numbers within the bounds of their kinds. -/
def I63 (x : Int) : Prop := -9223372036854775808 ≤ x ∧ x ≤ 9223372036854775807
def W64 (x : Int) : Prop := 0 ≤ x ∧ x ≤ 18446744073709551615
def SceV (w : World) (v : Value) (l : List Sce) : Prop :=
  ∃ (a : Option Addr) (cap : Nat), v = .slice a l.length cap ∧ l.length ≤ cap ∧ cap ≤ 9223372036854775807 ∧ (∀ x ∈ l, I63 x.c ∧ W64 x.n ∧ I63 x.d) ∧ (l = [] ∨ ∃ b off : Nat, a = some ⟨b, off, none⟩ ∧ ∀ i x, l[i]? = some x → SceAt w b (off + i * 12) x)
theorem SceAt.below {w w' : World} {b o : Nat} {x : Sce} (h : SceAt w b o x) (hb : Below w.heap.size w w') : SceAt w' b o x := by
  obtain ⟨h0, h1, h2, h3, h4, h5, h6, h7, h8, h9, h10, h11⟩ := h
  exact ⟨bcellv hb h0, bcellv hb h1, bcellv hb h2, bcellv hb h3, bcellv hb h4, bcellv hb h5, bcellv hb h6, bcellv hb h7, bcellv hb h8, bcellv hb h9, bcellv hb h10, bcellv hb h11⟩
theorem SceV.below {w w' : World} {v : Value} {l : List Sce} (h : SceV w v l) (hb : Below w.heap.size w w') : SceV w' v l := by
  obtain ⟨a, cap, hv, h1, h2, h0, h3⟩ := h
  refine ⟨a, cap, hv, h1, h2, h0, ?_⟩
  rcases h3 with h3 | ⟨b, off, ha, h3⟩
  · exact .inl h3
  · exact .inr ⟨b, off, ha, fun i x hx => (h3 i x hx).below hb⟩
theorem SceV.get {w : World} {a : Option Addr} {l : List Sce} (h : l = [] ∨ ∃ b off : Nat, a = some ⟨b, off, none⟩ ∧ ∀ i x, l[i]? = some x → SceAt w b (off + i * 12) x) {t : Nat} (ht : t < l.length) : ∃ b off : Nat, ∃ x : Sce, a = some ⟨b, off, none⟩ ∧ l[t]? = some x ∧ SceAt w b (off + t * 12) x := by
  rcases h with h | ⟨b, off, ha, h⟩
  · rw [h] at ht
    simp at ht
  · have he := List.getElem?_eq_getElem ht
    exact ⟨b, off, _, ha, he, h t _ he⟩
def isOf (c n : Int) (e : Sce) : Bool := e.c == c && e.n == n
def dOf (c n : Int) (S : List Sce) : Int := match S.find? (isOf c n) with
  | some e => e.d
  | none => 1048576
theorem take_snoc {S : List Sce} {t : Nat} {x : Sce} (hx : S[t]? = some x) : S.take (t + 1) = S.take t ++ [x] := by
  obtain ⟨h1, h2⟩ := List.getElem?_eq_some_iff.1 hx
  rw [List.take_succ_eq_append_getElem h1, h2]
theorem find_hit {S : List Sce} {t : Nat} {x : Sce} {c n : Int} (hx : S[t]? = some x) (hn : (S.take t).find? (isOf c n) = none) (hh : isOf c n x = true) : dOf c n S = x.d := by
  have e : S = S.take t ++ S.drop t := (List.take_append_drop t S).symm
  obtain ⟨h1, h2⟩ := List.getElem?_eq_some_iff.1 hx
  have e2 : S.drop t = x :: S.drop (t + 1) := by rw [← h2]; exact List.drop_eq_getElem_cons h1
  have : S.find? (isOf c n) = some x := by rw [e, List.find?_append, hn, e2]; simp [hh]
  unfold dOf
  rw [this]
theorem find_miss {S : List Sce} {t : Nat} {x : Sce} {c n : Int} (hx : S[t]? = some x) (hn : (S.take t).find? (isOf c n) = none) (hh : isOf c n x = false) : (S.take (t + 1)).find? (isOf c n) = none := by
  rw [take_snoc hx, List.find?_append, hn]
  simp [hh]
theorem find_none {S : List Sce} {c n : Int} (hn : (S.take S.length).find? (isOf c n) = none) : dOf c n S = 1048576 := by
  rw [List.take_length] at hn
  unfold dOf
  rw [hn]

set_option maxRecDepth 100000 in
set_option maxHeartbeats 8000000 in
theorem of_any {w : World} {v : Value} {S : List Sce} (c n o : Int) (h : SceV w v S) :
    Calls Try.prog 35 #[.agg #[.int .i64 c, .int .u64 n, .int .i64 o], v] w fun e w' => e = .returned (.int .i64 (dOf c n S)) ∧ Below w.heap.size w w' := by
  obtain ⟨a1, c1, rfl, n1, m1, _, r1⟩ := h
  have r1' := fun t (ht : t < S.length) => SceV.get r1 ht
  have R1 := Lib.hid r1'
  clear r1 r1'
  obtain ⟨N, hn⟩ : ∃ n, S.length = n := ⟨_, rfl⟩
  have HN := Lib.hid hn
  rw [hn] at R1 n1 ⊢
  clear hn
  go_enter Try.func35, Try.ntmps35
  go_wp2_with fail
  have kb := alloc_get w (.cells #[.int .i64 c, .int .u64 n, .int .i64 o] 63)
  have hb0 : Below w.heap.size w (w.alloc (.cells #[.int .i64 c, .int .u64 n, .int .i64 o] 63)) := balloc (Below.refl _ _) _
  generalize w.alloc (.cells #[.int .i64 c, .int .u64 n, .int .i64 o] 63) = w2 at *
  have k0 : w2.cell? ⟨w.heap.size, 0, none⟩ = some (.int .i64 c) := by rw [cell_of_block kb]; rfl
  have k1 : w2.cell? ⟨w.heap.size, 1, none⟩ = some (.int .u64 n) := by rw [cell_of_block kb]; rfl
  clear kb
  go_loopw [5] (fun i wr => ∃ t : Nat, t ≤ N ∧ i = .int .i64 t ∧ (S.take t).find? (isOf c n) = none ∧ Below w2.heap.size w2 wr) (fun i _ => N - (intOf i).toNat)
  case atStart => exact ⟨0, Nat.zero_le _, rfl, rfl, Below.refl _ _⟩
  case round =>
    obtain ⟨t, ht, rfl, hf, hbr⟩ := hrel
    have hbw := bchain hbr hb0
    have k0 := bcellv hbr k0
    have k1 := bcellv hbr k1
    have HF := Lib.hid hf
    clear hf
    by_cases htn : t < N
    · obtain ⟨b1, f1, x, e1, hz, hx⟩ := R1.out t htn
      cases e1
      have hx := hx.below hbw
      obtain ⟨p0, p1, _, _, _, _, p6, _⟩ := hx
      have hHit := find_hit hz HF.out
      have hMis := find_miss hz HF.out
      have HH := Lib.hid hHit
      have HM := Lib.hid hMis
      clear hHit hMis hz
      obtain ⟨xc, xn, i0, i1, ou, iu, xd, tb, wb, gb, q0, q1⟩ := x
      dsimp only at p0 p1 p6
      have s1 : ((t : Int)).toNat = t := by omega
      by_cases h1 : xc = c
      · subst h1
        by_cases h2 : xn = n
        · subst h2
          have hd1 : (xc == xc) = true := by simp
          have hd2 : (xn == xn) = true := by simp
          have hr := HH.out (by simp [isOf])
          have HR := Lib.hid hr
          clear hr
          go_wp2_with fail
          go_quiet (fail)
          go_wp2
          go_ret
          exact ⟨by rw [HR.out]; rfl, by (repeat (first | exact Below.refl _ _ | assumption | refine Below.drew ?_ | refine below_drewN ?_ _ | refine balloc ?_ _ | refine Below.setCell ?_ (by first | (simp; done) | (simp; omega) | omega) _ | refine bchain (by assumption) ?_))⟩
        · have hd1 : (xc == xc) = true := by simp
          have hd2 : (xn == n) = false := by simpa using h2
          have hr := HM.out (by simp [isOf, h2])
          have HR := Lib.hid hr
          clear hr
          go_wp2_with fail
          go_quiet (fail)
          go_wp2
          go_roundw
          case rel => exact ⟨t + 1, by omega, by go_num, HR.out, by (repeat (first | exact Below.refl _ _ | assumption | refine Below.drew ?_ | refine below_drewN ?_ _ | refine balloc ?_ _ | refine Below.setCell ?_ (by first | (simp; done) | (simp; omega) | omega) _ | refine bchain (by assumption) ?_))⟩
          case measure => simp [intOf]; omega
      · have hd1 : (xc == c) = false := by simpa using h1
        have hr := HM.out (by simp [isOf, h1])
        have HR := Lib.hid hr
        clear hr
        go_wp2_with fail
        go_quiet (fail)
        go_wp2
        go_roundw
        case rel => exact ⟨t + 1, by omega, by go_num, HR.out, by (repeat (first | exact Below.refl _ _ | assumption | refine Below.drew ?_ | refine below_drewN ?_ _ | refine balloc ?_ _ | refine Below.setCell ?_ (by first | (simp; done) | (simp; omega) | omega) _ | refine bchain (by assumption) ?_))⟩
        case measure => simp [intOf]; omega
    · have htn' : t = N := by omega
      subst htn'
      have hr := find_none (by rw [HN.out]; exact HF.out)
      have HR := Lib.hid hr
      clear hr
      go_wp2
      go_ret
      exact ⟨by rw [HR.out]; rfl, by (repeat (first | exact Below.refl _ _ | assumption | refine Below.drew ?_ | refine below_drewN ?_ _ | refine balloc ?_ _ | refine Below.setCell ?_ (by first | (simp; done) | (simp; omega) | omega) _ | refine bchain (by assumption) ?_))⟩
end Go.Proofs.Ytbkfjhbebhnijaa
