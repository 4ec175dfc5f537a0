/-
  TopSecond and awake05: the walks.
-/
import Derived.Test.YtgjaafcagnkfdaaTsT
import Derived.Test.YtgjaafcagnkfdaaTsR
namespace Go.Proofs.Ytgjaafcagnkfdaa
open Go.RowKit Go.Maps
set_option linter.unusedSimpArgs false
set_option linter.unusedVariables false

theorem coll_first {l : List OpC} (hl : l.length ≤ 60) (ho : ∀ o ∈ l, OpCk o) {w : World} {bO bY tb mb : Nat} {gO gY : Option Nat} {q : Value} (hm : MemAt w bO bY 2000 16779216 (mrun l).wo (mrun l).wy gO gY) (ht : TabAt w tb mb (mrun l).ca) (hr : WrdsV w q (mrun l).rt) (hq : ∀ G, q.ownBlock = some G → ¬ MS bO bY gO gY G) (h1 : ¬ MS bO bY gO gY tb) (h2 : ¬ MS bO bY gO gY mb) :
    Calls Try.prog 6 #[.agg #[.pointer (some ⟨bO, 0, none⟩), .pointer (some ⟨bY, 0, none⟩)], .pointer (some ⟨tb, 0, none⟩), q] w (ColP w bO bY 2000 16779216 (mrun l).wo (mrun l).wy gO gY tb mb (mrun l).ca (mrun l).rt) := by
  obtain ⟨ko, ky, hI⟩ := inv_run l hl ho
  have hb := mrun_bd l l.length (Nat.le_refl _)
  rw [List.take_length] at hb
  have hln := hI.lens hl
  exact collect_any hm (hI.rec_old hl) ht hr hq ⟨h1, h2⟩ (by have := hb.b; omega) (by omega) (fun x hx => hI.gx hl (hI.ru x hx) (.inr (.inr (.inl hx)))) (fun p _ => hI.gxL hl p (hm.ldU p)) (fun a _ _ j _ _ => hI.gxL hl _ (hm.ldU _)) (made_adr (bs := 16777216) hI.my).2 (hI.room hl)
theorem coll_second {w : World} {bO bY tb mb : Nat} {wo rl : List Int} {gO gY : Option Nat} {q : Value} (hm : MemAt w bO bY 2000 16779216 wo [] gO gY) (hrec : ∀ a ∈ objA 0 wo, HE wo [] a = 0 ∧ HK wo [] a = 0) (ht : TabAt w tb mb []) (hr : WrdsV w q rl) (hq : ∀ G, q.ownBlock = some G → ¬ MS bO bY gO gY G) (h1 : ¬ MS bO bY gO gY tb) (h2 : ¬ MS bO bY gO gY mb) (hrl : rl.length ≤ 1000) (hu : ∀ x ∈ rl, U64 x ∧ ldY x = false) :
    Calls Try.prog 6 #[.agg #[.pointer (some ⟨bO, 0, none⟩), .pointer (some ⟨bY, 0, none⟩)], .pointer (some ⟨tb, 0, none⟩), q] w fun e w' => ∃ vx gO' gY', e = .returned (.tuple #[vx, .int .i64 0, .int .i64 0]) ∧ MemAt w' bO bY 2000 16779216 wo [] gO' gY' ∧ WrdsV w' vx rl ∧ Mods (fun k => MS bO bY gO gY k ∨ k = mb) w w' := by
  have hl : (wo.length : Int) ≤ 2000 := by have := hm.okO.top; omega
  refine (collect_any hm hrec ht hr hq ⟨h1, h2⟩ hrl (by simp; omega) (fun x hx => ⟨(hu x hx).1, fun hy => by rw [(hu x hx).2] at hy; cases hy⟩) (fun p hp => by rw [pkQ_nil] at hp; cases hp) (fun a ha => (YO_nil ha).elim) sound_nil (fun L _ hy _ => ?_)).mono ?_
  · cases L with
    | nil => exact hl
    | cons a L => exact (YO_nil (hy a (by simp))).elim
  · rintro e w' ⟨L, vx, gO', gY', rfl, hO, hm', ht', hx, hM, _, _⟩
    have hL : L = [] := by
      cases L with
      | nil => rfl
      | cons a L => exact (YO_nil (hO.yo a (by simp))).elim
    subst hL
    rw [clO_nil] at hm'
    rw [mv_again (wo := wo) (wy := []) (L := []) (fun x hx => (hu x hx).2)] at hx
    exact ⟨vx, gO', gY', rfl, hm', hx, hM⟩
def ops3 : List OpC := [⟨0, 0, 0, 1⟩, ⟨1, 0, 0, 1⟩, ⟨2, 0, 1, 0⟩]
set_option maxRecDepth 100000 in
theorem aw_run : (mrun ops3).wo = [encI 0 1 1, idI 1 1, 67108866, 0] ∧ (mrun ops3).wy = [encI 0 1 1, idI 1 2, 0, 0] ∧ (mrun ops3).ca = [0] ∧ (mrun ops3).rt = [] := by decide +kernel
theorem aw_ok : ∀ o ∈ ops3, OpCk o := by
  intro o ho
  unfold ops3 at ho
  simp only [List.mem_cons, List.not_mem_nil, or_false] at ho
  rcases ho with rfl | rfl | rfl <;> (refine ⟨⟨?_, ?_⟩, ⟨?_, ?_⟩, ⟨?_, ?_⟩, ?_, ?_⟩ <;> decide)
/-- The collection of awake05 copies one object. -/
theorem aw_law {L : List Int} (hO : Ord (mrun ops3).wo (mrun ops3).wy (mrun ops3).ca (mrun ops3).rt L) : L.length = 1 ∧ (clO (mrun ops3).wo (mrun ops3).wy (mrun ops3).ca L).length = 8 := by
  obtain ⟨ko, ky, hI⟩ := inv_run ops3 (by decide) aw_ok
  obtain ⟨e1, e2, e3, e4⟩ := aw_run
  have k1 := tot_all hI.mo
  have k2 := tot_all hI.my
  rw [e1] at k1
  rw [e2] at k2
  have hky : ky.length ≤ 1 := by
    rcases ky with _ | ⟨o1, _ | ⟨o2, ky⟩⟩
    · simp
    · simp
    · have h1 := szO_bd hI.my.1
      have h2 := szO_bd hI.my.2.2.2.1
      simp only [tot] at k2
      simp at k2
      omega
  have hsub : ∀ a ∈ L, a ∈ adr 16777216 ky := fun a ha => by
    have := hO.re a ha
    unfold Re at this
    rwa [(made_adr (bs := 16777216) hI.my).1] at this
  have hle : L.length ≤ 1 := by
    have := nodup_sub hO.nd hsub
    rw [adr_len] at this
    omega
  have ha0 : (0 : Int) ∈ objA 0 (mrun ops3).wo := by
    rw [(made_adr (bs := 0) hI.mo).1]
    cases hk : ko with
    | nil => rw [hk] at k1; simp [tot] at k1
    | cons o ks => exact List.mem_of_getElem? (adr_get 0 (l := o :: ks) (i := 0) rfl)
  have hq : (2 : Int) ∈ pkQ (mrun ops3).ca (sqO (mrun ops3).wo (mrun ops3).wy) := by
    unfold pkQ
    refine List.mem_map.2 ⟨(2, LD (mrun ops3).wo (mrun ops3).wy 2), List.mem_filter.2 ⟨?_, ?_⟩, rfl⟩
    · unfold sqO slQ
      refine List.mem_flatMap.2 ⟨0, ha0, ?_⟩
      rw [e1, e2]
      decide +kernel
    · rw [e1, e2, e3]
      decide +kernel
  have hin := hO.rm 2 hq (by rw [e1, e2]; decide +kernel)
  rw [show adA (LD (mrun ops3).wo (mrun ops3).wy 2) = 16777216 by rw [e1, e2]; decide +kernel] at hin
  have hL : L = [16777216] := by
    cases L with
    | nil => cases hin
    | cons a L =>
      cases L with
      | nil => rw [List.mem_singleton.1 hin]
      | cons b L => simp at hle
  subst hL
  refine ⟨rfl, ?_⟩
  unfold clO
  rw [coW_len, rmW_len]
  show (plW (nWd (mrun ops3).wo (mrun ops3).wy) (mrun ops3).wo [16777216]).length = 8
  show ((mrun ops3).wo ++ nWd (mrun ops3).wo (mrun ops3).wy 16777216).length = 8
  have hn := nWd_len (hO.yo 16777216 (by simp))
  rw [show HF (mrun ops3).wo (mrun ops3).wy 16777216 = 1 by rw [e1, e2]; decide +kernel, show wordsI 1 = 4 from rfl] at hn
  rw [List.length_append, e1] at *
  simp
  omega
set_option maxRecDepth 100000 in
set_option maxHeartbeats 4000000 in
theorem awake05_any (w : World) : Calls Try.prog 4 #[] w fun e w' => e = .returned (.bool true) ∧ Below w.heap.size w w' := by
  have hb0 : Below w.heap.size w (w.alloc (.cells #[.int .u8 0, .int .u8 0, .int .u8 0, .int .u8 1, .int .u8 1, .int .u8 0, .int .u8 0, .int .u8 1, .int .u8 2, .int .u8 0, .int .u8 1, .int .u8 0] 38)) := balloc (Below.refl _ _) _
  have k0 := alloc_get w (.cells #[.int .u8 0, .int .u8 0, .int .u8 0, .int .u8 1, .int .u8 1, .int .u8 0, .int .u8 0, .int .u8 1, .int .u8 2, .int .u8 0, .int .u8 1, .int .u8 0] 38 (0, 0))
  have hops : OpsC (w.alloc (.cells #[.int .u8 0, .int .u8 0, .int .u8 0, .int .u8 1, .int .u8 1, .int .u8 0, .int .u8 0, .int .u8 1, .int .u8 2, .int .u8 0, .int .u8 1, .int .u8 0] 38)) (some ⟨w.heap.size, 0, none⟩) ops3 := by
    refine .inr ⟨w.heap.size, 0, rfl, by simp, fun i o ho => ?_⟩
    have hi := (List.getElem?_eq_some_iff.1 ho).1
    have hok := aw_ok o (List.mem_of_getElem? ho)
    rw [cell_of_block k0, cell_of_block k0, cell_of_block k0, cell_of_block k0]
    have : i = 0 ∨ i = 1 ∨ i = 2 := by unfold ops3 at hi; simp at hi; omega
    rcases this with rfl | rfl | rfl <;> (unfold ops3 at ho; cases ho; exact ⟨rfl, rfl, rfl, rfl, hok⟩)
  have hMm := memory_any (some ⟨w.heap.size, 0, none⟩) ops3 3 (by decide) (by omega) (by decide) _ hops
  have HMM := Lib.hid hMm
  have HB0 := Lib.hid hb0
  clear hMm hops k0 hb0
  go_enter Try.func4, Try.ntmps4
  go_wp2_with fail
  refine HMM.out.mono ?_
  rintro e w2 ⟨bO, bY, tb, mb, gO, gY, q, rfl, hm, ht, hr, hq, h1, h2, hb, hms, htb, hmb⟩
  obtain ⟨aq, cq, rfl, _, _, _⟩ := id hr
  have hbal := balloc (Below.refl _ w2) (.cells #[.pointer (some ⟨bO, 0, none⟩), .pointer (some ⟨bY, 0, none⟩)] 26)
  have kb := alloc_get w2 (.cells #[.pointer (some ⟨bO, 0, none⟩), .pointer (some ⟨bY, 0, none⟩)] 26 (0, 0))
  have hCo := coll_first (l := ops3) (by decide) aw_ok (hm.below hbal) (ht.below hbal) (q := .slice none 0 0) ⟨none, 0, by rw [aw_run.2.2.2]; rfl, by rw [aw_run.2.2.2]; exact Nat.le_refl _, by omega, .inl aw_run.2.2.2⟩ (fun G e => by cases e) h1 h2
  have hnm := hm.fresh w2.heap.size (Nat.le_refl _)
  have hsz := hb.size
  rw [World.size_alloc] at hsz
  have HB2 := Lib.hid (bchain hbal (bchain hb HB0.out))
  have HCO := Lib.hid hCo
  have HMS := Lib.hid (fun k (hk : MS bO bY gO gY k) => (show w.heap.size ≤ k by have := hms k hk; rw [World.size_alloc] at this; omega))
  have c0 : (w2.alloc (.cells #[.pointer (some ⟨bO, 0, none⟩), .pointer (some ⟨bY, 0, none⟩)] 26)).cell? ⟨w2.heap.size, 0, none⟩ = some (.pointer (some ⟨bO, 0, none⟩)) := by rw [cell_of_block kb]; rfl
  have c1 : (w2.alloc (.cells #[.pointer (some ⟨bO, 0, none⟩), .pointer (some ⟨bY, 0, none⟩)] 26)).cell? ⟨w2.heap.size, 1, none⟩ = some (.pointer (some ⟨bY, 0, none⟩)) := by rw [cell_of_block kb]; rfl
  rw [World.size_alloc] at hmb htb
  have hne : w2.heap.size ≠ mb := fun e => by
    obtain ⟨D, hD, _⟩ := ht.sn
    have := hD.lt
    omega
  clear hm ht hr hq h1 h2 hb hms hbal hCo
  go_wp2_with fail
  refine HCO.out.mono ?_
  rintro e w3 ⟨L, vx, gO', gY', rfl, hO, hm3, ht3, hx3, hM3, hx3b, hg3⟩
  obtain ⟨hL1, hL2⟩ := aw_law hO
  obtain ⟨ax, cx, rfl, _, _, _⟩ := id hx3
  have kb3 := mblock hM3 kb (fun e => e.elim hnm hne)
  have hB3 : Below w.heap.size w w3 := HB2.out.trans (hM3.below HB2.out.size (fun k hk => hk.elim (HMS.out k) (fun e => by omega)))
  have q0 : w3.cell? ⟨w2.heap.size, 0, none⟩ = some (.pointer (some ⟨bO, 0, none⟩)) := by rw [cell_of_block kb3]; rfl
  have q1 : w3.cell? ⟨w2.heap.size, 1, none⟩ = some (.pointer (some ⟨bY, 0, none⟩)) := by rw [cell_of_block kb3]; rfl
  have z3 : w2.heap.size < w3.heap.size := (Array.getElem?_eq_some_iff.1 kb3).1
  have hL1' : (L.length : Int) = 1 := by omega
  obtain ⟨wc, hwc⟩ : ∃ c, clO (mrun ops3).wo (mrun ops3).wy (mrun ops3).ca L = c := ⟨_, rfl⟩
  rw [hwc] at hm3 hL2
  have HM3 := Lib.hid hm3
  have HB3 := Lib.hid hB3
  have hb3d := Below.drew (Below.refl w3.heap.size w3)
  have HD := Lib.hid hb3d
  rw [hL1']
  clear hO hm3 ht3 hx3 hM3 hx3b hg3 kb3 hB3 hwc c0 c1 kb HCO hb3d
  go_wp2_with fail
  go_region_held3 (fun w' => w'.cell? ⟨w2.heap.size, 0, none⟩ = some (.pointer (some ⟨bO, 0, none⟩)) ∧ w'.cell? ⟨w2.heap.size, 1, none⟩ = some (.pointer (some ⟨bY, 0, none⟩))) (first | (with_reducible exact ⟨q0, q1⟩) | go_keep) (first
    | (go_at_call 9; refine (top_any (HM3.out.below HD.out).yng (HM3.out.below HD.out).okY).mono ?_; rintro e w4 ⟨rfl, hb4⟩; have q0 := bcellv hb4 (show w3.drew.cell? _ = _ from q0); have q1 := bcellv hb4 (show w3.drew.cell? _ = _ from q1); have HB4 := Lib.hid (show Below w3.heap.size w3 w4 from bchain hb4 HD.out); clear hb4)
    | (go_at_call 10; refine (base_any (HM3.out.below HB4.out).yng).mono ?_; rintro e w5 ⟨rfl, hb5⟩; have q0 := bcellv hb5 q0; have q1 := bcellv hb5 q1; have HB5 := Lib.hid (show Below w3.heap.size w3 w5 from bchain hb5 HB4.out); clear hb5)
    | (go_at_call 7; refine (contents_any (HM3.out.below HB5.out)).mono ?_; rintro e w6 ⟨v6, rfl, hv6, hb6, _⟩; have q0 := bcellv hb6 q0; have q1 := bcellv hb6 q1; have HB6 := Lib.hid (show Below w3.heap.size w3 w6 from bchain hb6 HB5.out); obtain ⟨a6, c6, e6, _, _, _⟩ := hv6; rw [List.append_nil, hL2] at e6; subst e6; clear hb6))
  all_goals (try go_wp2)
  all_goals go_ret
  all_goals exact ⟨by simp, HB3.out.trans (HB6.out.mono HB3.out.size)⟩
end Go.Proofs.Ytgjaafcagnkfdaa
