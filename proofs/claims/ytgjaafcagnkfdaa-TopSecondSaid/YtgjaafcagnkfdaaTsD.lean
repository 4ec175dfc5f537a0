/-
  nursery.order: the second closure.
-/
import Derived.Test.YtgjaafcagnkfdaaTsC
namespace Go.Proofs.Ytgjaafcagnkfdaa
open Go.RowKit Go.Maps
set_option linter.unusedSimpArgs false
set_option linter.unusedVariables false

theorem take_snoc7 {α : Type} {l : List α} {t : Nat} {o : α} (h : l[t]? = some o) : l.take (t + 1) = l.take t ++ [o] := by
  obtain ⟨hl, e⟩ := List.getElem?_eq_some_iff.1 h
  rw [List.take_succ_eq_append_getElem hl, e]
theorem LkP.below {w w' : World} {n bO bY : Nat} {L0 L : List Int} {v : Value} (h0 : OrdV w n bO bY L0 v) (h : LkP w n bO bY L v w') : Below n w w' := by
  obtain ⟨v', h1, h2, h3⟩ := h
  have hz := (Array.getElem?_eq_some_iff.1 h0.km).1
  refine h2.below (by omega) (fun k hk => ?_)
  rcases hk with e | e | e | e
  · omega
  · omega
  · omega
  · have := (row_lt h0.row k e).2; omega
theorem OrW.not {w : World} {n bO bY : Nat} {L : List Int} {v : Value} (h : OrdV w n bO bY L v) {k : Nat} (hk : k = n ∨ k = n + 3 ∨ k = n + 5) : ¬ OrW n v k := by
  rintro (e | e | e | e)
  · omega
  · omega
  · omega
  · have := (row_lt h.row k e).2; omega
def lkS (wo wy : List Int) (L al : List Int) : List Int := al.foldl (fun L a => lkL L (LD wo wy a)) L
theorem lkS_snoc (wo wy L al : List Int) (a : Int) : lkS wo wy L (al ++ [a]) = lkL (lkS wo wy L al) (LD wo wy a) := by
  unfold lkS
  rw [List.foldl_append]
  rfl
theorem lkL_len (L : List Int) (x : Int) : (lkL L x).length ≤ L.length + 1 := by
  unfold lkL
  split
  · simp
  · omega
theorem lkS_len (wo wy : List Int) : ∀ (al L : List Int), (lkS wo wy L al).length ≤ L.length + al.length := by
  intro al
  induction al with
  | nil => intro L; simp [lkS]
  | cons a al ih =>
    intro L
    have h1 := ih (lkL L (LD wo wy a))
    have h2 := lkL_len L (LD wo wy a)
    have e : lkS wo wy L (a :: al) = lkS wo wy (lkL L (LD wo wy a)) al := rfl
    rw [e, List.length_cons]
    omega
/-- A row of numbers that look leaves alone. -/
def RowQ (w : World) (n : Nat) (v : Value) (A : Option Addr) (al : List Int) : Prop := al = [] ∨ ∃ b off : Nat, A = some ⟨b, off, none⟩ ∧ b < w.heap.size ∧ ¬ OrW n v b ∧ ∀ (i : Nat) (a : Int), al[i]? = some a → w.cell? ⟨b, off + i, none⟩ = some (.int .i64 a)
set_option maxRecDepth 100000 in
set_option maxHeartbeats 4000000 in
theorem lookat_any {w0 w : World} {bO bY : Nat} {lo ly : Int} {wo wy : List Int} {gO gY : Option Nat} (hm : MemAt w0 bO bY lo ly wo wy gO gY) {n : Nat} (hn : w0.heap.size = n) (hb : Below n w0 w) {L : List Int} {v : Value} (h : OrdV w n bO bY L v) {A : Option Addr} {al : List Int} {cap : Nat} (hA : RowQ w n v A al) (hcap : al.length ≤ cap) (hc63 : cap ≤ 9223372036854775807) (hL : L.length + al.length ≤ 1000000) (hg : ∀ (i : Nat) (a : Int), al[i]? = some a → Gw wo wy (LD wo wy a)) :
    Calls Try.prog 38 #[.slice A al.length cap, .pointer (some ⟨n, 0, none⟩), .pointer (some ⟨n + 5, 0, none⟩)] w fun e w' => e = .returned (.tuple #[]) ∧ LkP w n bO bY (lkS wo wy L al) v w' := by
  have HM0 := Lib.hid hm
  have HN0 := Lib.hid hn
  have hm' := fun (W : World) (H : Below n w0 W) => hm.below (show Below w0.heap.size w0 W by rw [hn]; exact H)
  have hlen := fun t => lkS_len wo wy (al.take t) L
  have HM := Lib.hid hm'
  have HLEN := Lib.hid hlen
  have HG := Lib.hid hg
  have HV := Lib.hid h
  have HB := Lib.hid hb
  have HU := Lib.hid (fun a => hm.ldU a)
  clear hm hm' hlen hg hb hn
  go_enter Try.func38, Try.ntmps38
  go_wp2_with fail
  go_loopw [10] (fun q wr => ∃ t : Nat, t ≤ al.length ∧ q = .int .i64 t ∧ LkP w n bO bY (lkS wo wy L (al.take t)) v wr) (fun q _ => al.length - (intOf q).toNat)
  case atStart => exact ⟨0, Nat.zero_le _, rfl, LkP.refl h⟩
  case round =>
    clear h
    obtain ⟨t, ht, rfl, hK⟩ := hrel
    by_cases hlt : t < al.length
    · obtain ⟨a, ha⟩ : ∃ a, al[t]? = some a := ⟨_, List.getElem?_eq_getElem hlt⟩
      have hbr := hK.below HV.out
      have hsn := take_snoc7 ha
      have HSN := Lib.hid hsn
      have hle := HLEN.out t
      rw [List.length_take] at hle
      obtain ⟨v1, h1, hM1, hv1⟩ := hK
      generalize hL1 : lkS wo wy L (al.take t) = L1 at *
      have HL1 := Lib.hid hL1
      rcases hA with rfl | ⟨b, off, rfl, hbz, hbn, hA⟩
      · simp at hlt
      have ca := mcell hM1 (hA t a ha) hbn
      have cb := World.block_lt_of_cell? _ _ ca
      have s1 : ((t : Int)).toNat = t := by omega
      have hd : decide ((t : Int) < (al.length : Int)) = true := by simpa using hlt
      have hmr := HM.out _ (HB.out.trans hbr)
      have hl := mload_any hmr a
      have hgx := HG.out t a ha
      have hux := HU.out a
      have hLk := fun (W : World) (H : Below wr.heap.size wr W) (H2 : Below n w0 W) => look_any (w := W) HM0.out HN0.out H2 (h1.below H) (by omega) (LD wo wy a) hux hgx
      have HLK := Lib.hid hLk
      have k0 : wr.cell? ⟨n, 0, none⟩ = some (.pointer (some ⟨bO, 0, none⟩)) := by rw [cell_of_block h1.km]; rfl
      have k1 : wr.cell? ⟨n, 1, none⟩ = some (.pointer (some ⟨bY, 0, none⟩)) := by rw [cell_of_block h1.km]; rfl
      have hz : n + 5 < wr.heap.size := (Array.getElem?_eq_some_iff.1 h1.kk).1
      have H1 := Lib.hid h1
      have HM1 := Lib.hid hM1
      have HV1 := Lib.hid hv1
      have HBR := Lib.hid (HB.out.trans hbr)
      clear hA hgx hux hLk hmr hL1 hsn hle h1 hM1 hv1 hbr ha
      go_wp2_with fail
      refine hl.mono ?_
      rintro e w2 ⟨rfl, hb2⟩
      have q5 : w2.cell? ⟨n + 5, 0, none⟩ = some (.func (.func 37) #[] #[.pointer (some ⟨n, 0, none⟩), .pointer (some ⟨n + 4, 0, none⟩), .pointer (some ⟨n + 3, 0, none⟩), .pointer (some ⟨n + 1, 0, none⟩)]) := by rw [cell_of_block (H1.out.below hb2).kk]; rfl
      have hz2 : n + 5 < w2.heap.size := (Array.getElem?_eq_some_iff.1 (H1.out.below hb2).kk).1
      have HB2 := Lib.hid hb2
      clear hl k0 k1 ca hb2
      go_wp2_with fail
      refine (HLK.out _ HB2.out (HBR.out.trans (HB2.out.mono (by omega)))).mono ?_
      rintro e w3 ⟨rfl, h3⟩
      have HF := Lib.hid (LkP.step HM1.out HV1.out (LkP.pre HB2.out h3))
      clear h3 q5
      go_wp2_with fail
      go_roundw
      case rel => exact ⟨t + 1, by omega, by go_num, by rw [HSN.out, lkS_snoc, HL1.out]; exact HF.out⟩
      case measure => simp [intOf]; omega
    · have htl : t = al.length := by omega
      subst htl
      rw [List.take_length] at hK
      have hd : decide ((al.length : Int) < (al.length : Int)) = false := by simp
      go_wp2
      exact bodyPost_end (v := .tuple #[]) (by simp [results, Try.results38, go_sem]) rfl ⟨rfl, hK⟩
end Go.Proofs.Ytgjaafcagnkfdaa
