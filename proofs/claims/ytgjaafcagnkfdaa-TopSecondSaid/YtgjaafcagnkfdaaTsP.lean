/-
  barrier.Store.
-/
import Derived.Test.YtgjaafcagnkfdaaTsO
namespace Go.Proofs.Ytgjaafcagnkfdaa
open Go.RowKit Go.Maps
set_option linter.unusedSimpArgs false
set_option linter.unusedVariables false

def bsK (wo wy mk : List Int) (a i u : Int) : List Int := if sfE wo wy a i = 0 ∧ inB 0 wo.length a = true ∧ ldY u = true then mk ++ [(a + 2 + i) / 16] else mk
theorem sfE_zero {wo wy : List Int} {a i : Int} (h : sfE wo wy a i = 0) : fdE wo wy a i = 0 ∧ HE wo wy a = 0 ∧ 0 ≤ i ∧ i < HF wo wy a := by
  unfold sfE at h
  by_cases hf : fdE wo wy a i = 0
  · refine ⟨hf, ?_⟩
    unfold fdE at hf
    by_cases h0 : HE wo wy a = 0
    · rw [if_neg (by simpa using h0)] at hf
      split at hf
      · omega
      · split at hf
        · omega
        · rename_i h1
          refine ⟨h0, by omega, by omega⟩
    · rw [if_pos h0] at hf
      exact absurd hf h0
  · rw [if_neg hf] at h
    exact absurd h hf
theorem sfO_len {wo wy : List Int} {a i u : Int} : (sfO wo wy a i u).length = wo.length := by
  unfold sfO
  split
  · unfold stO
    split
    · rfl
    · unfold stW; split
      · rw [List.length_set]
      · rfl
  · rfl
set_option maxRecDepth 100000 in
set_option maxHeartbeats 4000000 in
theorem bst_any {w : World} {bO bY : Nat} {lo ly : Int} {wo wy : List Int} {gO gY : Option Nat} (hm : MemAt w bO bY lo ly wo wy gO gY) {tb mb : Nat} {mk : List Int} (ht : TabAt w tb mb mk) (hts : ¬ MS bO bY gO gY tb ∧ ¬ MS bO bY gO gY mb) (hmk : mk.length ≤ 1000000) (a i u : Int) (hu : U64 u) (ha : -4611686018427387904 ≤ a ∧ a ≤ 4611686018427387904) (hi : 0 ≤ i ∧ i ≤ 255) :
    Calls Try.prog 14 #[.agg #[.pointer (some ⟨bO, 0, none⟩), .pointer (some ⟨bY, 0, none⟩)], .pointer (some ⟨tb, 0, none⟩), .int .i64 a, .int .i64 i, .int .u64 u] w fun e w' => ∃ ev : Int, e = .returned (.int .i64 ev) ∧ MemAt w' bO bY lo ly (sfO wo wy a i u) (sfY wo wy a i u) gO gY ∧ TabAt w' tb mb (bsK wo wy mk a i u) ∧ Mods (fun k => MS bO bY gO gY k ∨ k = mb) w w' := by
  have hlen : (wo.length : Int) ≤ 16777216 := by have := hm.okO.top; have := hm.lim; omega
  have hSF := fun W (H : Below w.heap.size w W) => msetf_any (hm.below H) a i u hu
  have hb0 : Below w.heap.size w (w.alloc (.cells #[.pointer (some ⟨bO, 0, none⟩), .pointer (some ⟨bY, 0, none⟩)] 26)) := balloc (Below.refl _ _) _
  have k := alloc_get w (.cells #[.pointer (some ⟨bO, 0, none⟩), .pointer (some ⟨bY, 0, none⟩)] 26 (0, 0))
  have nn := hm.fresh w.heap.size (Nat.le_refl _)
  have hrg : sfE wo wy a i = 0 → inB 0 wo.length a = true → 0 ≤ a + 2 + i ∧ a + 2 + i < 16777216 := fun h h' => by
    obtain ⟨_, h1, h2, h3⟩ := sfE_zero h
    obtain ⟨e1, e2, e3, e4⟩ := slot_rng hlen h1 ⟨h2, h3⟩
    have h4 := inB_iff.1 h'
    have e0 : bsA a = 0 := by unfold bsA; rw [if_neg (by omega)]
    have e5 : wsA wo wy a = wo := by unfold wsA; rw [if_neg (by omega)]
    rw [e0, e5] at e4
    omega
  have HSF := Lib.hid hSF
  have HT := Lib.hid ht
  have HTS := Lib.hid hts
  have hl := sfO_len (wo := wo) (wy := wy) (a := a) (i := i) (u := u)
  have hY := fun W => young_any u hu W
  clear hSF ht hts hm
  by_cases hE : sfE wo wy a i = 0
  · rw [hE] at HSF
    have hs1 : IntKind.i64.wrap (a + 2) = a + 2 := IntWalk.i64_in _ (by omega)
    have hs2 : IntKind.i64.wrap (a + 2 + i) = a + 2 + i := IntWalk.i64_in _ (by omega)
    cases hB : inB 0 wo.length a
    · rw [show bsK wo wy mk a i u = mk by unfold bsK; rw [if_neg (by rw [hB]; simp)]]
      go_enter Try.func14, Try.ntmps14
      go_wp2_with fail
      refine (HSF.out _ hb0).mono ?_
      rintro e w1 ⟨rfl, hm1, hM1⟩
      have k1 := mblock hM1 k nn
      have k0 : w1.cell? ⟨w.heap.size, 0, none⟩ = some (.pointer (some ⟨bO, 0, none⟩)) := by rw [cell_of_block k1]; rfl
      have z1 : w.heap.size < w1.heap.size := (Array.getElem?_eq_some_iff.1 k1).1
      have ht1 := (HT.out.below hb0).mods hM1 HTS.out.1 HTS.out.2
      have hMt : Mods (fun k => MS bO bY gO gY k ∨ k = mb) w w1 := ((Mods.of_below (S := MS bO bY gO gY) hb0).trans hM1 (fun i hi => .inl hi)).mono (fun k hk => .inl hk)
      have HM1 := Lib.hid hm1
      have HT1 := Lib.hid ht1
      have HMT := Lib.hid hMt
      clear hm1 hM1 ht1 hMt k k1
      have hC := contains_any HM1.out.old HM1.out.okO a
      rw [hl, hB] at hC
      go_wp2_with fail
      refine hC.mono ?_
      rintro e w2 ⟨rfl, hb2⟩
      have HF := Lib.hid (And.intro (HM1.out.below hb2) (And.intro (HT1.out.below hb2) (HMT.out.trans (Mods.of_below (S := fun _ => False) hb2) (fun i hi => hi.elim))))
      clear hb2 hC
      go_wp2
      go_ret
      exact ⟨_, rfl, HF.out⟩
    · have hr := hrg hE hB
      cases hy : ldY u
      · rw [show bsK wo wy mk a i u = mk by unfold bsK; rw [if_neg (by rw [hy]; simp)]]
        rw [hy] at hY
        go_enter Try.func14, Try.ntmps14
        go_wp2_with fail
        refine (HSF.out _ hb0).mono ?_
        rintro e w1 ⟨rfl, hm1, hM1⟩
        have k1 := mblock hM1 k nn
        have k0 : w1.cell? ⟨w.heap.size, 0, none⟩ = some (.pointer (some ⟨bO, 0, none⟩)) := by rw [cell_of_block k1]; rfl
        have z1 : w.heap.size < w1.heap.size := (Array.getElem?_eq_some_iff.1 k1).1
        have ht1 := (HT.out.below hb0).mods hM1 HTS.out.1 HTS.out.2
        have hMt : Mods (fun k => MS bO bY gO gY k ∨ k = mb) w w1 := ((Mods.of_below (S := MS bO bY gO gY) hb0).trans hM1 (fun i hi => .inl hi)).mono (fun k hk => .inl hk)
        have HM1 := Lib.hid hm1
        have HT1 := Lib.hid ht1
        have HMT := Lib.hid hMt
        clear hm1 hM1 ht1 hMt k k1
        have hC := contains_any HM1.out.old HM1.out.okO a
        rw [hl, hB] at hC
        go_wp2_with fail
        refine hC.mono ?_
        rintro e w2 ⟨rfl, hb2⟩
        have HB2 := Lib.hid hb2
        clear hb2 hC
        go_wp2_with fail
        refine (hY _).mono ?_
        rintro e w3 ⟨rfl, hb3⟩
        have hb3 := bchain hb3 HB2.out
        have HF := Lib.hid (And.intro (HM1.out.below hb3) (And.intro (HT1.out.below hb3) (HMT.out.trans (Mods.of_below (S := fun _ => False) hb3) (fun i hi => hi.elim))))
        clear hb3
        go_wp2
        go_ret
        exact ⟨_, rfl, HF.out⟩
      · rw [show bsK wo wy mk a i u = mk ++ [(a + 2 + i) / 16] by unfold bsK; rw [if_pos ⟨hE, hB, hy⟩]]
        rw [hy] at hY
        go_enter Try.func14, Try.ntmps14
        go_wp2_with fail
        refine (HSF.out _ hb0).mono ?_
        rintro e w1 ⟨rfl, hm1, hM1⟩
        have k1 := mblock hM1 k nn
        have k0 : w1.cell? ⟨w.heap.size, 0, none⟩ = some (.pointer (some ⟨bO, 0, none⟩)) := by rw [cell_of_block k1]; rfl
        have z1 : w.heap.size < w1.heap.size := (Array.getElem?_eq_some_iff.1 k1).1
        have ht1 := (HT.out.below hb0).mods hM1 HTS.out.1 HTS.out.2
        have hMt : Mods (fun k => MS bO bY gO gY k ∨ k = mb) w w1 := ((Mods.of_below (S := MS bO bY gO gY) hb0).trans hM1 (fun i hi => .inl hi)).mono (fun k hk => .inl hk)
        have HM1 := Lib.hid hm1
        have HT1 := Lib.hid ht1
        have HMT := Lib.hid hMt
        clear hm1 hM1 ht1 hMt k k1
        have hC := contains_any HM1.out.old HM1.out.okO a
        rw [hl, hB] at hC
        go_wp2_with fail
        refine hC.mono ?_
        rintro e w2 ⟨rfl, hb2⟩
        have HB2 := Lib.hid hb2
        clear hb2 hC
        go_wp2_with fail
        refine (hY _).mono ?_
        rintro e w3 ⟨rfl, hb3⟩
        have hb3 := bchain hb3 HB2.out
        have hMk := mark_any (HT1.out.below hb3) (a + 2 + i) hr.1 hr.2 (by omega)
        have HB3 := Lib.hid hb3
        clear hb3
        go_wp2_with fail
        refine hMk.mono ?_
        rintro e w4 ⟨rfl, ht4, hM4⟩
        have hm4 := (HM1.out.below HB3.out).mods hM4 (fun k hk e => HTS.out.2 (by rw [← e]; exact hk))
        have HF := Lib.hid (And.intro hm4 (And.intro ht4 ((HMT.out.trans (Mods.of_below (S := fun _ => False) HB3.out) (fun i hi => hi.elim)).trans hM4 (fun i hi => .inl (.inr hi)))))
        clear hm4 ht4 hM4 hMk
        go_wp2
        go_ret
        exact ⟨_, rfl, HF.out⟩
  · rw [show bsK wo wy mk a i u = mk by unfold bsK; rw [if_neg (fun h => hE h.1)]]
    obtain ⟨ev, hev⟩ : ∃ ev, sfE wo wy a i = ev := ⟨_, rfl⟩
    rw [hev] at hE HSF
    have hd : (ev == 0) = false := by simpa using hE
    clear hrg hev
    go_enter Try.func14, Try.ntmps14
    go_wp2_with fail
    refine (HSF.out _ hb0).mono ?_
    rintro e w1 ⟨rfl, hm1, hM1⟩
    have k1 := mblock hM1 k nn
    have k0 : w1.cell? ⟨w.heap.size, 0, none⟩ = some (.pointer (some ⟨bO, 0, none⟩)) := by rw [cell_of_block k1]; rfl
    have z1 : w.heap.size < w1.heap.size := (Array.getElem?_eq_some_iff.1 k1).1
    have ht1 := (HT.out.below hb0).mods hM1 HTS.out.1 HTS.out.2
    have hMt : Mods (fun k => MS bO bY gO gY k ∨ k = mb) w w1 := ((Mods.of_below (S := MS bO bY gO gY) hb0).trans hM1 (fun i hi => .inl hi)).mono (fun k hk => .inl hk)
    have HM1 := Lib.hid hm1
    have HT1 := Lib.hid ht1
    have HMT := Lib.hid hMt
    clear hm1 hM1 ht1 hMt k k1
    go_wp2
    go_ret
    exact ⟨_, rfl, HM1.out, HT1.out, HMT.out⟩
end Go.Proofs.Ytgjaafcagnkfdaa
