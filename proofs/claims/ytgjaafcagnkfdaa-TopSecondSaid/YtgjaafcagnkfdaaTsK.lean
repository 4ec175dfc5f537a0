/-
  nursery.copyObject.
-/
import Derived.Test.YtgjaafcagnkfdaaTsJ
namespace Go.Proofs.Ytgjaafcagnkfdaa
open Go.RowKit Go.Maps
set_option linter.unusedSimpArgs false
set_option linter.unusedVariables false

theorem hv_of {wo wy : List Int} {a : Int} (h : HE wo wy a = 0) : hvB (HK wo wy a) (HC wo wy a) (HF wo wy a) = true := (hd_bd (show hdE (bsA a) (wsA wo wy a) a = 0 from h)).2.2.1
set_option maxRecDepth 100000 in
set_option maxHeartbeats 4000000 in
theorem copy_any {w : World} {bO bY : Nat} {lo ly : Int} {wo wy : List Int} {gO gY : Option Nat} (hm : MemAt w bO bY lo ly wo wy gO gY) {bm bt mb : Nat} {S : List (Int × Int)} (h : MvAt w bm bt mb bO bY S) (hs : ¬ MS bO bY gO gY bm ∧ ¬ MS bO bY gO gY bt ∧ ¬ MS bO bY gO gY mb) (a : Int) (hy : YO wo wy a) (d : Nat) (hd : (d : Int) + wordsI (HF wo wy a) ≤ wo.length) (hx : ∀ j : Int, 0 ≤ j → j < HF wo wy a → Mx wo wy S (LD wo wy (a + 2 + j))) :
    Calls Try.prog 25 #[.agg #[.pointer (some ⟨bO, 0, none⟩), .pointer (some ⟨bY, 0, none⟩)], .int .i64 a, .int .i64 d, .func (.func 20) #[] #[.pointer (some ⟨bm, 0, none⟩), .pointer (some ⟨bt, 0, none⟩)]] w fun e w' => e = .returned (.tuple #[]) ∧ MemAt w' bO bY lo ly (cpW wy S a (HF wo wy a) d wo ((wordsI (HF wo wy a)).toNat - 2)) wy gO gY ∧ Mods (MS bO bY gO gY) w w' := by
  have hH := fun W (H : Below w.heap.size w W) => mhdr_any (hm.below H) a
  have hN := fun W (H : Below w.heap.size w W) => nslots_any (hm.below H) a hy.2.1 hy.2.2
  have hv := hv_of hy.2.1
  have hwb := wordsI_bd hv
  have hlen := hm.okO.top
  have hlim := hm.lim
  obtain ⟨_, f0, f1, _, _⟩ := HE_bd hy.2.1
  have hra := HE_rng hm hy.2.1
  have hy0 := hy.1
  rw [hy.2.2] at hv
  rw [hy.2.1, hy.2.2] at hH
  obtain ⟨f, hf⟩ : ∃ f : Nat, HF wo wy a = f := ⟨(HF wo wy a).toNat, by omega⟩
  rw [hf] at hH hN hv hwb hd f1 hx ⊢
  rw [show ((f : Int)).toNat = f by omega] at hN
  have hW := fun W => words_any 0 (HC wo wy a) f W
  rw [show szI 0 (HC wo wy a) f = wordsI f by unfold szI; rw [hv]; rfl] at hW
  obtain ⟨N, hNN⟩ : ∃ N : Nat, wordsI f = N := ⟨(wordsI f).toNat, by omega⟩
  rw [hNN] at hW hwb hd ⊢
  rw [show ((N : Int)).toNat = N by omega]
  generalize HC wo wy a = hc at *
  have hfr := hm.fresh
  have hb0 : Below w.heap.size w (w.alloc (.cells #[.pointer (some ⟨bO, 0, none⟩), .pointer (some ⟨bY, 0, none⟩)] 26)) := balloc (Below.refl _ _) _
  have HMM := Lib.hid hm
  have HMV := Lib.hid h
  have HS := Lib.hid hs
  have HX := Lib.hid hx
  have HFR := Lib.hid hfr
  clear hm h hs hy hx hv hf f0 hNN hfr
  go_enter Try.func25, Try.ntmps25
  go_wp2_with fail
  refine (hH _ hb0).mono ?_
  rintro e w1 ⟨rfl, hb1⟩
  have hB2 := balloc (bchain hb1 hb0) (.cells #[.int .i64 0, .int .i64 hc, .int .i64 f] 46)
  have k2 := alloc_lt (.cells #[.int .i64 0, .int .i64 hc, .int .i64 f] 46 (0, 0)) (bblock hb1 (alloc_get w (.cells #[.pointer (some ⟨bO, 0, none⟩), .pointer (some ⟨bY, 0, none⟩)] 26 (0, 0))))
  have v2 := alloc_get w1 (.cells #[.int .i64 0, .int .i64 hc, .int .i64 f] 46 (0, 0))
  have z1 : w.heap.size < w1.heap.size := by have := hb1.size; rw [World.size_alloc] at this; omega
  obtain ⟨w2, hw2⟩ : ∃ W, w1.alloc (.cells #[.int .i64 0, .int .i64 hc, .int .i64 f] 46) = W := ⟨_, rfl⟩
  obtain ⟨V, hV⟩ : ∃ V, w1.heap.size = V := ⟨_, rfl⟩
  rw [hw2] at hB2 k2 v2
  rw [hV] at v2 z1
  have k0 : w2.cell? ⟨w.heap.size, 0, none⟩ = some (.pointer (some ⟨bO, 0, none⟩)) := by rw [cell_of_block k2]; rfl
  have k1 : w2.cell? ⟨w.heap.size, 1, none⟩ = some (.pointer (some ⟨bY, 0, none⟩)) := by rw [cell_of_block k2]; rfl
  have zz2 : w.heap.size < w2.heap.size := (Array.getElem?_eq_some_iff.1 k2).1
  have zv2 : V < w2.heap.size := (Array.getElem?_eq_some_iff.1 v2).1
  clear hb1 hb0 hH
  go_wp2_with fail
  refine (hN _ hB2).mono ?_
  rintro e w3 ⟨vl, rfl, hrow, hb3⟩
  obtain ⟨A3, c3, rfl, hc3, hc3b⟩ := row_form hrow
  have hB3 := bchain hb3 hB2
  have k3 := bblock hb3 k2
  have v3 := bblock hb3 v2
  have HB3 := Lib.hid hB3
  have K3 := Lib.hid k3
  have V3 := Lib.hid v3
  have hm3 := HMM.out.below hB3
  have nK : ¬ MS bO bY gO gY w.heap.size := HFR.out _ (Nat.le_refl _)
  have nV : ¬ MS bO bY gO gY V := HFR.out _ (by omega)
  clear k0 k1 k2 v2 hN hrow hb3 hB2 hB3 k3 v3 hw2 hV
  go_wp2_with fail
  go_loopw [11] (fun q wr => ∃ k : Nat, k ≤ N - 2 ∧ q = .int .i64 (2 + (k : Int)) ∧ MemAt wr bO bY lo ly (cpW wy S a f d wo k) wy gO gY ∧ Mods (MS bO bY gO gY) w3 wr) (fun q _ => N - (intOf q).toNat)
  case atStart => exact ⟨0, Nat.zero_le _, rfl, hm3, Mods.refl _ _⟩
  case round =>
    clear hm3
    obtain ⟨k, hk, rfl, hmr, hM⟩ := hrel
    have kr := mblock hM K3.out nK
    have vr := mblock hM V3.out nV
    have k0 : wr.cell? ⟨w.heap.size, 0, none⟩ = some (.pointer (some ⟨bO, 0, none⟩)) := by rw [cell_of_block kr]; rfl
    have k1 : wr.cell? ⟨w.heap.size, 1, none⟩ = some (.pointer (some ⟨bY, 0, none⟩)) := by rw [cell_of_block kr]; rfl
    have v0 : wr.cell? ⟨V, 0, none⟩ = some (.int .i64 0) := by rw [cell_of_block vr]; rfl
    have v1 : wr.cell? ⟨V, 1, none⟩ = some (.int .i64 hc) := by rw [cell_of_block vr]; rfl
    have v2 : wr.cell? ⟨V, 2, none⟩ = some (.int .i64 f) := by rw [cell_of_block vr]; rfl
    have hzk : w.heap.size < wr.heap.size := (Array.getElem?_eq_some_iff.1 kr).1
    have hzv : V < wr.heap.size := (Array.getElem?_eq_some_iff.1 vr).1
    have KR := Lib.hid kr
    have HMR := Lib.hid hmr
    have HM := Lib.hid hM
    clear kr vr hmr hM
    go_wp2_with fail
    refine (hW _).mono ?_
    rintro e w4 ⟨rfl, hb4⟩
    have k0 := bcellv hb4 k0
    have k1 := bcellv hb4 k1
    have hzk4 : w.heap.size < w4.heap.size := Nat.lt_of_lt_of_le hzk hb4.size
    have HB4 := Lib.hid hb4
    clear v0 v1 v2 hb4
    by_cases hkN : k < N - 2
    · have hd1 : decide (2 + (k : Int) < (N : Int)) = true := by simp; omega
      have s1 : IntKind.i64.wrap (a + (2 + (k : Int))) = a + (2 + (k : Int)) := IntWalk.i64_in _ (by omega)
      have s2 : IntKind.i64.wrap ((d : Int) + (2 + (k : Int))) = ((d + 2 + k : Nat) : Int) := by rw [show (d : Int) + (2 + (k : Int)) = ((d + 2 + k : Nat) : Int) by omega]; exact IntWalk.i64_in _ (by omega)
      have s3 : IntKind.i64.wrap (2 + (f : Int)) = 2 + (f : Int) := IntWalk.i64_in _ (by omega)
      have s4 : IntKind.i64.wrap (2 + (k : Int) + 1) = 2 + ((k + 1 : Nat) : Int) := by rw [show 2 + (k : Int) + 1 = 2 + ((k + 1 : Nat) : Int) by omega]; exact IntWalk.i64_in _ (by omega)
      have hm4 := HMR.out.below HB4.out
      have hL := mload_any hm4 (a + (2 + (k : Int)))
      rw [LD_y (wo' := []) (show 16777216 ≤ a + (2 + (k : Int)) by omega)] at hL
      have hux := HMR.out.ldU (a + (2 + (k : Int)))
      rw [LD_y (wo' := []) (show 16777216 ≤ a + (2 + (k : Int)) by omega)] at hux
      have hcl := cpW_len wy S a f d wo k
      have hst := fun u => stO_old (wo := cpW wy S a f d wo k) (wy := wy) (d := d + 2 + k) (by omega) (by omega) u
      have hSt := fun (W : World) (H : Below wr.heap.size wr W) (u : Int) (hu : U64 u) => mstore_any (HMR.out.below H) ((d + 2 + k : Nat) : Int) u hu
      have HST := Lib.hid hst
      have HSS := Lib.hid hSt
      have HCV := Lib.hid (show cpV wy S a f (2 + (k : Int)) = if 2 + (k : Int) < 2 + (f : Int) then mvS S (LD [] wy (a + (2 + (k : Int)))) else LD [] wy (a + (2 + (k : Int))) from rfl)
      have HXK := Lib.hid (show (k : Int) < f → Mx wo wy S (LD [] wy (a + (2 + (k : Int)))) from fun hkf => by
        have := HX.out k (by omega) hkf
        rw [LD_y (wo' := []) (by omega), show a + 2 + (k : Int) = a + (2 + (k : Int)) by omega] at this
        exact this)
      generalize LD [] wy (a + (2 + (k : Int))) = x at *
      clear hm4 hst hSt
      go_wp2_with fail
      refine hL.mono ?_
      rintro e w5 ⟨rfl, hb5⟩
      have hb5w := bchain hb5 HB4.out
      have k0 := bcellv hb5 k0
      have k1 := bcellv hb5 k1
      have hzk5 : w.heap.size < w5.heap.size := Nat.lt_of_lt_of_le hzk4 hb5.size
      have HB5 := Lib.hid hb5w
      clear hL hb5 hb5w
      by_cases hkf : k < f
      · have hd2 : decide (2 + (k : Int) < 2 + (f : Int)) = true := by simp; omega
        have hmv5 := ((HMV.out.below HB3.out).mods HM.out HS.out.1 HS.out.2.1 HS.out.2.2).below HB5.out
        have hMv := moved_any (HMR.out.below HB5.out) hmv5 x (Mx_y (HXK.out (by omega)))
        have hu := mvS_u (S := S) hux
        have HE := Lib.hid (show cpW wy S a f d wo (k + 1) = (cpW wy S a f d wo k).set (d + 2 + k) (mvS S x) by show (cpW wy S a f d wo k).set (d + 2 + k) (cpV wy S a f (2 + (k : Int))) = _; rw [HCV.out, if_pos (by omega)])
        generalize mvS S x = y at *
        clear hmv5
        go_wp2_with fail
        refine hMv.mono ?_
        rintro e w6 ⟨rfl, hb6⟩
        have hb6w := bchain hb6 HB5.out
        have k0 := bcellv hb6 k0
        have k1 := bcellv hb6 k1
        have hzk6 : w.heap.size < w6.heap.size := Nat.lt_of_lt_of_le hzk5 hb6.size
        have hS6 := HSS.out _ hb6w y hu
        have HB6 := Lib.hid hb6w
        clear hMv hb6 hb6w
        go_wp2_with fail
        refine hS6.mono ?_
        rintro e w7 ⟨rfl, hm7, hM7⟩
        rw [(HST.out y).1, (HST.out y).2, ← HE.out] at hm7
        have hMM := HM.out.trans ((Mods.of_below (S := MS bO bY gO gY) HB6.out).trans hM7 (fun i hi => .inl hi)) (fun i hi => .inl hi)
        have HF := Lib.hid (And.intro hm7 hMM)
        clear hm7 hM7 hMM hS6 k0 k1
        go_wp2_with fail
        go_roundw
        case rel => exact ⟨k + 1, by omega, by go_num, HF.out.1, HF.out.2⟩
        case measure => simp [intOf, s4]; omega
      · have hd2 : decide (2 + (k : Int) < 2 + (f : Int)) = false := by simp; omega
        have HE := Lib.hid (show cpW wy S a f d wo (k + 1) = (cpW wy S a f d wo k).set (d + 2 + k) x by show (cpW wy S a f d wo k).set (d + 2 + k) (cpV wy S a f (2 + (k : Int))) = _; rw [HCV.out, if_neg (by omega)])
        have hS6 := HSS.out _ HB5.out x hux
        go_wp2_with fail
        refine hS6.mono ?_
        rintro e w7 ⟨rfl, hm7, hM7⟩
        rw [(HST.out x).1, (HST.out x).2, ← HE.out] at hm7
        have hMM := HM.out.trans ((Mods.of_below (S := MS bO bY gO gY) HB5.out).trans hM7 (fun i hi => .inl hi)) (fun i hi => .inl hi)
        have HF := Lib.hid (And.intro hm7 hMM)
        clear hm7 hM7 hMM hS6 k0 k1
        go_wp2_with fail
        go_roundw
        case rel => exact ⟨k + 1, by omega, by go_num, HF.out.1, HF.out.2⟩
        case measure => simp [intOf, s4]; omega
    · have hkk : k = N - 2 := by omega
      subst hkk
      have hd1 : decide (2 + ((N - 2 : Nat) : Int) < (N : Int)) = false := by simp; omega
      have HF := Lib.hid (And.intro (HMR.out.below HB4.out) ((Mods.of_below (S := MS bO bY gO gY) HB3.out).trans (HM.out.trans (Mods.of_below (S := MS bO bY gO gY) HB4.out) (fun i hi => .inl hi)) (fun i hi => .inl hi)))
      go_wp2
      exact bodyPost_end (v := .tuple #[]) (by simp [results, Try.results25, go_sem]) rfl ⟨rfl, HF.out.1, HF.out.2⟩
end Go.Proofs.Ytgjaafcagnkfdaa
