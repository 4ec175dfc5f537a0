/-
  TopSecond: the walk.
-/
import Derived.Test.YtgjaafcagnkfdaaTsU
namespace Go.Proofs.Ytgjaafcagnkfdaa
open Go.RowKit Go.Maps
set_option linter.unusedSimpArgs false
set_option linter.unusedVariables false

theorem OpsC.below {w w' : World} {a : Option Addr} {l : List OpC} (h : OpsC w a l) (hb : Below w.heap.size w w') : OpsC w' a l := by
  rcases h with h | ⟨b, off, ha, hlt, h⟩
  · exact .inl h
  · exact .inr ⟨b, off, ha, Nat.lt_of_lt_of_le hlt hb.size, fun i o ho => by
      obtain ⟨c0, c1, c2, c3, c4⟩ := h i o ho
      exact ⟨bcellv hb c0, bcellv hb c1, bcellv hb c2, bcellv hb c3, c4⟩⟩
theorem OpsC.ok {w : World} {a : Option Addr} {l : List OpC} (h : OpsC w a l) : ∀ o ∈ l, OpCk o := by
  intro o ho
  rcases h with h | ⟨b, off, ha, hlt, h⟩
  · rw [h] at ho; cases ho
  · obtain ⟨i, hi⟩ := List.getElem?_of_mem ho
    exact (h i o hi).2.2.2.2
theorem WrdsV.mods {S : Nat → Prop} {w w' : World} {v : Value} {xs : List Int} (h : WrdsV w v xs) (hM : Mods S w w') (hS : ∀ G, v.ownBlock = some G → ¬ S G) : WrdsV w' v xs := by
  obtain ⟨a, cap, hv, h1, h2, h3⟩ := h
  refine ⟨a, cap, hv, h1, h2, ?_⟩
  rcases h3 with h3 | ⟨b, off, ha, h3⟩
  · exact .inl h3
  · exact .inr ⟨b, off, ha, fun i x hx => mcell hM (h3 i x hx) (hS b (by rw [hv, ha]; rfl))⟩
/-- What a collection of TopSecond leaves: its roots lead to old objects. -/
theorem roots_old {l : List OpC} (hl : l.length ≤ 60) (ho : ∀ o ∈ l, OpCk o) {L : List Int} (hO : Ord (mrun l).wo (mrun l).wy (mrun l).ca (mrun l).rt L) :
    ((mrun l).rt.map (mvS (clS (mrun l).wo (mrun l).wy L))).length ≤ 1000 ∧ (∀ x ∈ (mrun l).rt.map (mvS (clS (mrun l).wo (mrun l).wy L)), U64 x ∧ ldY x = false) ∧ ∀ a ∈ objA 0 (clO (mrun l).wo (mrun l).wy (mrun l).ca L), HE (clO (mrun l).wo (mrun l).wy (mrun l).ca L) [] a = 0 ∧ HK (clO (mrun l).wo (mrun l).wy (mrun l).ca L) [] a = 0 := by
  obtain ⟨ko, ky, hI⟩ := inv_run l hl ho
  have hb := mrun_bd l l.length (Nat.le_refl _)
  rw [List.take_length] at hb
  have hroom := hI.room hl L hO.nd hO.yo hO.re
  refine ⟨by rw [List.length_map]; have := hb.b; omega, fun x hx => ?_, clO_rec hI hl hO.nd hO.yo hO.re⟩
  obtain ⟨y, hy, rfl⟩ := List.mem_map.1 hx
  have hu := hI.ru y hy
  refine ⟨mvS_u hu, mvS_old (wo0 := (mrun l).wo) (wy0 := (mrun l).wy) (by omega) ⟨hu, fun h => ?_⟩⟩
  have hin := hO.rt y hy h
  obtain ⟨d, hd, _⟩ := clS_get (wo := (mrun l).wo) (wy := (mrun l).wy) hin
  exact ⟨hO.yo _ hin, by rw [hd]; rfl⟩
set_option maxRecDepth 100000 in
set_option maxHeartbeats 8000000 in
theorem second_any (a : Option Addr) (l : List OpC) (cap : Nat) (hcap : l.length ≤ cap) (hc63 : cap ≤ 9223372036854775807) (w : World) (hops : OpsC w a l) : Calls Try.prog 3 #[.slice a l.length cap] w fun e w' => e = .returned (.bool true) ∧ Below w.heap.size w w' := by
  have hok := hops.ok
  go_enter Try.func3, Try.ntmps3
  go_wp2_with fail
  refine (awake05_any w).mono ?_
  rintro e w1 ⟨rfl, hb1⟩
  by_cases h60 : l.length ≤ 60
  · have hd : decide ((60 : Int) < (l.length : Int)) = false := by simp; omega
    have hMm := memory_any a l cap hcap hc63 h60 w1 (hops.below hb1)
    have HMM := Lib.hid hMm
    have HB0 := Lib.hid hb1
    have HOK := Lib.hid hok
    have H60 := Lib.hid h60
    have hz1 := hb1.size
    clear hMm hops hb1 hok h60
    go_wp2_with fail
    refine HMM.out.mono ?_
    rintro e w2 ⟨bO, bY, tb, mb, gO, gY, q, rfl, hm, ht, hr, hq, h1, h2, hb, hms, htb, hmb⟩
    obtain ⟨aq, cq, rfl, _, _, _⟩ := id hr
    have hbal := balloc (Below.refl _ w2) (.cells #[.pointer (some ⟨bO, 0, none⟩), .pointer (some ⟨bY, 0, none⟩)] 26)
    have kb := alloc_get w2 (.cells #[.pointer (some ⟨bO, 0, none⟩), .pointer (some ⟨bY, 0, none⟩)] 26 (0, 0))
    have hrB := hr.below hbal
    have hCo := coll_first (l := l) H60.out HOK.out (hm.below hbal) (ht.below hbal) hrB hq h1 h2
    have hnm := hm.fresh w2.heap.size (Nat.le_refl _)
    have hsz := hb.size
    have HB2 := Lib.hid (bchain hbal (bchain hb HB0.out))
    have HCO := Lib.hid hCo
    have HMS := Lib.hid (fun k (hk : MS bO bY gO gY k) => Nat.le_trans hz1 (hms k hk))
    have c0 : (w2.alloc (.cells #[.pointer (some ⟨bO, 0, none⟩), .pointer (some ⟨bY, 0, none⟩)] 26)).cell? ⟨w2.heap.size, 0, none⟩ = some (.pointer (some ⟨bO, 0, none⟩)) := by rw [cell_of_block kb]; rfl
    have c1 : (w2.alloc (.cells #[.pointer (some ⟨bO, 0, none⟩), .pointer (some ⟨bY, 0, none⟩)] 26)).cell? ⟨w2.heap.size, 1, none⟩ = some (.pointer (some ⟨bY, 0, none⟩)) := by rw [cell_of_block kb]; rfl
    have hmlt : mb < w2.heap.size := by
      obtain ⟨D, hD, _⟩ := ht.sn
      exact hD.lt
    have htlt : tb < w2.heap.size := (Array.getElem?_eq_some_iff.1 ht.blk).1
    have HMLT := Lib.hid hmlt
    have HTLT := Lib.hid htlt
    have HM1 := Lib.hid h1
    have HM2 := Lib.hid h2
    have hmb0 : w.heap.size ≤ mb := Nat.le_trans hz1 hmb
    have HMB := Lib.hid hmb0
    have HNM := Lib.hid hnm
    clear hm ht hr hq h1 h2 hb hms hbal hCo hrB hmlt htlt htb hmb hmb0 hnm
    go_wp2_with fail
    refine HCO.out.mono ?_
    rintro e w3 ⟨L, vx, gO', gY', rfl, hO, hm3, ht3, hx3, hM3, hx3b, hg3⟩
    have hro := roots_old H60.out HOK.out hO
    obtain ⟨wc, hwc⟩ : ∃ c, clO (mrun l).wo (mrun l).wy (mrun l).ca L = c := ⟨_, rfl⟩
    obtain ⟨rl, hrl⟩ : ∃ r, (mrun l).rt.map (mvS (clS (mrun l).wo (mrun l).wy L)) = r := ⟨_, rfl⟩
    rw [hwc, hrl] at hro
    rw [hwc] at hm3
    rw [hrl] at hx3
    have kb3 := mblock hM3 kb (fun e => e.elim HNM.out (fun e => by have := HMLT.out; omega))
    have hB3 : Below w.heap.size w w3 := HB2.out.trans (hM3.below HB2.out.size (fun k hk => hk.elim (HMS.out k) (fun e => by have := HMB.out; omega)))
    have z3 : w2.heap.size < w3.heap.size := (Array.getElem?_eq_some_iff.1 kb3).1
    have hs0 : ∀ k, MS bO bY gO' gY' k → k < w3.heap.size := fun k hk => by
      by_cases h : k < w3.heap.size
      · exact h
      · exact (hm3.fresh k (by omega) hk).elim
    have hs1 : ∀ k, MS bO bY gO' gY' k → w.heap.size ≤ k := fun k hk => (hg3 k hk).elim (HMS.out k) (fun h => by rw [World.size_alloc] at h; omega)
    have hs2 : ∀ k, k ≤ w2.heap.size → ¬ MS bO bY gO gY k → ¬ MS bO bY gO' gY' k := fun k hk hn h => (hg3 k h).elim hn (fun h => by rw [World.size_alloc] at h; omega)
    have hx3c : ∀ G, vx.ownBlock = some G → ¬ MS bO bY gO' gY' G ∧ w2.heap.size < G := fun G e => ⟨(hx3b G e).1, by have := (hx3b G e).2; rw [World.size_alloc] at this; omega⟩
    have q0 : w3.cell? ⟨w2.heap.size, 0, none⟩ = some (.pointer (some ⟨bO, 0, none⟩)) := by rw [cell_of_block kb3]; rfl
    have q1 : w3.cell? ⟨w2.heap.size, 1, none⟩ = some (.pointer (some ⟨bY, 0, none⟩)) := by rw [cell_of_block kb3]; rfl
    have hcont := contents_any hm3
    have HO := Lib.hid (And.intro hm3 (And.intro ht3 hx3))
    have HB3 := Lib.hid hB3
    have HRO := Lib.hid hro
    have HS := Lib.hid (And.intro hs0 (And.intro hs1 hs2))
    have HXC := Lib.hid hx3c
    have HK3 := Lib.hid kb3
    obtain ⟨ax, cx, rfl, _, _, _⟩ := id hx3
    clear hO hm3 ht3 hx3 hM3 hx3b hg3 hro hwc hrl kb3 hB3 hs0 hs1 hs2 hx3c c0 c1 kb
    go_wp2_with fail
    refine hcont.mono ?_
    rintro e w4 ⟨v4, rfl, hv4, hb4, hv4b⟩
    rw [List.append_nil] at hv4
    have hCo2 := coll_second (HO.out.1.below hb4) HRO.out.2.2 (HO.out.2.1.below hb4) (HO.out.2.2.below hb4) (fun G e => (HXC.out G e).1) (HS.out.2.2 tb (Nat.le_of_lt HTLT.out) HM1.out) (HS.out.2.2 mb (Nat.le_of_lt HMLT.out) HM2.out) HRO.out.1 HRO.out.2.1
    have HC2 := Lib.hid hCo2
    have q0 := bcellv hb4 q0
    have q1 := bcellv hb4 q1
    have z4 : w2.heap.size < w4.heap.size := Nat.lt_of_lt_of_le z3 hb4.size
    have HB4 := Lib.hid hb4
    have HV4 := Lib.hid (And.intro hv4 hv4b)
    obtain ⟨a4, c4, rfl, _, _, _⟩ := id hv4
    clear hcont hv4 hv4b hb4 hCo2
    go_wp2_with fail
    refine HC2.out.mono ?_
    rintro e w5 ⟨vy, gO2, gY2, rfl, hm5, hy5, hM5⟩
    have hm1 := HMLT.out
    have hm2 := HMB.out
    have hx5 := (HO.out.2.2.below HB4.out).mods hM5 (fun G e hs => hs.elim (HXC.out G e).1 (fun h => by have := (HXC.out G e).2; omega))
    have hv5 := HV4.out.1.mods hM5 (fun G e hs => hs.elim (fun h => by have := (HV4.out.2 G e).1; have := HS.out.1 G h; omega) (fun h => by have := (HV4.out.2 G e).1; omega))
    have kb5 := mblock hM5 (bblock HB4.out HK3.out) (fun e => e.elim (HS.out.2.2 _ (Nat.le_refl _) HNM.out) (fun e => by omega))
    have hB4' : Below w.heap.size w w4 := HB3.out.trans (HB4.out.mono HB3.out.size)
    have hB5 : Below w.heap.size w w5 := hB4'.trans (hM5.below hB4'.size (fun k hk => hk.elim (HS.out.2.1 k) (fun e => by omega)))
    have q0 : w5.cell? ⟨w2.heap.size, 0, none⟩ = some (.pointer (some ⟨bO, 0, none⟩)) := by rw [cell_of_block kb5]; rfl
    have q1 : w5.cell? ⟨w2.heap.size, 1, none⟩ = some (.pointer (some ⟨bY, 0, none⟩)) := by rw [cell_of_block kb5]; rfl
    have z5 : w2.heap.size < w5.heap.size := (Array.getElem?_eq_some_iff.1 kb5).1
    have HE1 := Lib.hid (fun W (H : Below w5.heap.size w5 W) => equal_eq (hx5.below H) (hy5.below H))
    have HC3 := Lib.hid (fun W (H : Below w5.heap.size w5 W) => contents_any (hm5.below H))
    have HV5 := Lib.hid hv5
    have HB5 := Lib.hid hB5
    obtain ⟨ay, cy, rfl, _, _, _⟩ := id hy5
    clear hm5 hy5 hM5 hx5 hv5 kb5 hB4' hB5
    go_wp2_with fail
    refine (HE1.out _ (Below.refl _ _)).mono ?_
    rintro e w6 ⟨rfl, hb6⟩
    have q0 := bcellv hb6 q0
    have q1 := bcellv hb6 q1
    have HB6 := Lib.hid hb6
    have z6 : w2.heap.size < w6.heap.size := Nat.lt_of_lt_of_le z5 hb6.size
    clear hb6
    go_wp2_with fail
    refine (HC3.out _ HB6.out).mono ?_
    rintro e w7 ⟨v7, rfl, hv7, hb7, hv7b⟩
    rw [List.append_nil] at hv7
    have HB7 := Lib.hid (bchain hb7 HB6.out)
    have HE2 := Lib.hid (equal_eq (HV5.out.below HB7.out) hv7)
    obtain ⟨a7, c7, rfl, _, _, _⟩ := id hv7
    clear hv7 hb7 hv7b
    go_wp2_with fail
    refine HE2.out.mono ?_
    rintro e w8 ⟨rfl, hb8⟩
    go_wp2
    go_ret
    exact ⟨rfl, HB5.out.trans ((bchain hb8 HB7.out).mono HB5.out.size)⟩
  · have hd : decide ((60 : Int) < (l.length : Int)) = true := by simp; omega
    clear hops hok
    go_wp2
    go_ret
    exact ⟨rfl, hb1⟩
end Go.Proofs.Ytgjaafcagnkfdaa
