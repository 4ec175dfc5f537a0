/-
  object.Resolve.
-/
import Derived.Test.YtcmhgjkijegpnaaRsv
import Derived.Deep.LoopGhost
namespace Go.Proofs.Ytcmhgjkijegpnaa
open Go.RowKit
set_option linter.unusedSimpArgs false
set_option linter.unusedVariables false

set_option maxRecDepth 100000 in
set_option maxHeartbeats 1000000 in
theorem mresolve_out {w : World} {bO bY : Nat} {lo ly : Int} {wo wy : List Int} {gO gY : Option Nat} (hm : MemAt w bO bY lo ly wo wy gO gY) (a : Int) (hl : LE wo wy a ≠ 0) :
    Calls Try.prog 16 #[.agg #[.pointer (some ⟨bO, 0, none⟩), .pointer (some ⟨bY, 0, none⟩)], .int .i64 a] w fun e w' => e = .returned (.tuple #[.int .i64 0, .int .i64 (LE wo wy a)]) ∧ Below w.heap.size w w' := by
  have hL := fun W (h : Below w.heap.size w W) => mload_any (hm.below h) a
  generalize LD wo wy a = x at *
  generalize LE wo wy a = y at *
  have hb1 : (y != 0) = true := by simpa using hl
  clear hm hl
  have hw0 : Below w.heap.size w w := Below.refl _ _
  go_enter Try.func16, Try.ntmps16
  go_wp2_with fail
  refine (hL _ (by (repeat (first | exact Below.refl _ _ | assumption | refine Below.drew ?_ | refine below_drewN ?_ _ | refine balloc ?_ _ | refine Below.setCell ?_ (by first | (simp; done) | (simp; omega) | omega) _ | refine bchain (by assumption) ?_)))).mono ?_
  rintro e w1 ⟨rfl, hb1⟩
  have hB1 : Below w.heap.size w w1 := by (repeat (first | exact Below.refl _ _ | assumption | refine Below.drew ?_ | refine below_drewN ?_ _ | refine balloc ?_ _ | refine Below.setCell ?_ (by first | (simp; done) | (simp; omega) | omega) _ | refine bchain (by assumption) ?_))
  have k0 : w1.heap[w.heap.size]? = some (.cells #[.pointer (some ⟨bO, 0, none⟩), .pointer (some ⟨bY, 0, none⟩)] 29 (0, 0)) := bblock hb1 (by repeat (first | exact alloc_at _ (by simp) | refine alloc_lt _ ?_))
  have hw1 := bchain hB1 hw0
  have hz_k0 : w.heap.size < w1.heap.size := (Array.getElem?_eq_some_iff.1 k0).1
  clear hB1
  have k0_0 : w1.cell? ⟨w.heap.size, 0, none⟩ = some (.pointer (some ⟨bO, 0, none⟩)) := by rw [cell_of_block k0]; rfl
  have k0_1 : w1.cell? ⟨w.heap.size, 1, none⟩ = some (.pointer (some ⟨bY, 0, none⟩)) := by rw [cell_of_block k0]; rfl
  go_wp2
  go_ret2
  exact ⟨rfl, by (repeat (first | exact Below.refl _ _ | assumption | refine Below.drew ?_ | refine below_drewN ?_ _ | refine balloc ?_ _ | refine Below.setCell ?_ (by first | (simp; done) | (simp; omega) | omega) _ | refine bchain (by assumption) ?_))⟩
theorem LE_bd {w : World} {bO bY : Nat} {lo ly : Int} {wo wy : List Int} {gO gY : Option Nat} (hm : MemAt w bO bY lo ly wo wy gO gY) {a : Int} (h : LE wo wy a = 0) : 0 ≤ a ∧ a ≤ 1099511627776 := by
  have hk1 := (hm.partOk a).b0
  have hk2 := (hm.partOk a).top
  have hk3 := (hm.partOk a).lm1
  unfold LE ioE at h
  cases h1 : inB (bsA a) (wsA wo wy a).length a
  · rw [h1] at h; cases h
  · obtain ⟨h2, h3⟩ := inB_iff.1 h1
    omega
theorem HE_rng {w : World} {bO bY : Nat} {lo ly : Int} {wo wy : List Int} {gO gY : Option Nat} (hm : MemAt w bO bY lo ly wo wy gO gY) {a : Int} (h : HE wo wy a = 0) : 0 ≤ a ∧ a ≤ 1099511627776 := by
  have hk1 := (hm.partOk a).b0
  have hk2 := (hm.partOk a).top
  have hk3 := (hm.partOk a).lm1
  obtain ⟨h2, h3⟩ := inB_iff.1 (hd_bd h).1
  omega
set_option maxRecDepth 100000 in
set_option maxHeartbeats 4000000 in
theorem mresolve_in {w : World} {bO bY : Nat} {lo ly : Int} {wo wy : List Int} {gO gY : Option Nat} (hm : MemAt w bO bY lo ly wo wy gO gY) (a0 : Int) (hl : LE wo wy a0 = 0) (r1 r2 : Int) (hr : rsv wo wy (wo.length + wy.length + 1) a0 = (r1, r2)) :
    Calls Try.prog 16 #[.agg #[.pointer (some ⟨bO, 0, none⟩), .pointer (some ⟨bY, 0, none⟩)], .int .i64 a0] w fun e w' => e = .returned (.tuple #[.int .i64 r1, .int .i64 r2]) ∧ Below w.heap.size w w' := by
  have hmm := @run_makeMap Try.prog
  have hH := fun W (h : Below w.heap.size w W) (c : Int) => mhdr_any (hm.below h) c
  have hL := fun W (h : Below w.heap.size w W) (c : Int) => mload_any (hm.below h) c
  have hu := fun c => hm.ldU c
  have hrg := fun (c : Int) (h : HE wo wy c = 0) => HE_rng hm h
  have hab := LE_bd hm hl
  have hLn : wo.length + wy.length ≤ 4398046511104 := by have := hm.okO.top; have := hm.okO.lm1; have := hm.okY.top; have := hm.okY.lm1; omega
  have hL0 := fun W h => hL W h a0
  rw [hl] at hL0
  have HR := Lib.hid hr
  have hml : maxLen = 9223372036854775807 := rfl
  clear hm hr hl
  have hw0 : Below w.heap.size w w := Below.refl _ _
  go_enter Try.func16, Try.ntmps16
  go_wp2_with fail
  refine (hL0 _ (by (repeat (first | exact Below.refl _ _ | assumption | refine Below.drew ?_ | refine below_drewN ?_ _ | refine balloc ?_ _ | refine Below.setCell ?_ (by first | (simp; done) | (simp; omega) | omega) _ | refine bchain (by assumption) ?_)))).mono ?_
  rintro e w1 ⟨rfl, hb1⟩
  have hB1 : Below w.heap.size w w1 := by (repeat (first | exact Below.refl _ _ | assumption | refine Below.drew ?_ | refine below_drewN ?_ _ | refine balloc ?_ _ | refine Below.setCell ?_ (by first | (simp; done) | (simp; omega) | omega) _ | refine bchain (by assumption) ?_))
  have k0 : w1.heap[w.heap.size]? = some (.cells #[.pointer (some ⟨bO, 0, none⟩), .pointer (some ⟨bY, 0, none⟩)] 29 (0, 0)) := bblock hb1 (by repeat (first | exact alloc_at _ (by simp) | refine alloc_lt _ ?_))
  have hw1 := bchain hB1 hw0
  have hz_k0 : w.heap.size < w1.heap.size := (Array.getElem?_eq_some_iff.1 k0).1
  clear hB1
  have k0_0 : w1.cell? ⟨w.heap.size, 0, none⟩ = some (.pointer (some ⟨bO, 0, none⟩)) := by rw [cell_of_block k0]; rfl
  have k0_1 : w1.cell? ⟨w.heap.size, 1, none⟩ = some (.pointer (some ⟨bY, 0, none⟩)) := by rw [cell_of_block k0]; rfl
  go_wp2_with fail
  have k0' := bblock (balloc (Below.refl _ w1) (.map #[] 0)) k0
  have hsn := seen_made w1
  have hbm : Below w.heap.size w (w1.alloc (.map #[] 0)) := balloc hw1 _
  have hw1s : w.heap.size < w1.heap.size := hz_k0
  clear k0 k0_0 k0_1 hz_k0
  go_loopg [1] (wo.length + wy.length + 1) (fun g p wr => ∃ (S : List Int) (x : Int), g = wo.length + wy.length + 1 - S.length ∧ S.length ≤ wo.length + wy.length ∧ p = .int .i64 x ∧ Trail wo wy (wo.length + wy.length) a0 S x ∧ (0 ≤ x ∧ x ≤ 1099511627776) ∧ SeenAt wr w1.heap.size S ∧ wr.heap[w.heap.size]? = some (.cells #[.pointer (some ⟨bO, 0, none⟩), .pointer (some ⟨bY, 0, none⟩)] 29 (0, 0)) ∧ Below w.heap.size w wr) 
  case atStart => exact ⟨[], a0, by simp, by simp, rfl, trail_start _ _ _ _, hab, hsn, k0', hbm⟩
  case round =>
    obtain ⟨S, x, hgk, hSl, rfl, htr, ⟨hx0, hx1⟩, hse, k0, hbr⟩ := hrel
    clear hsn k0' hbm hab
    have hlook := hse.look (x := x) ⟨by omega, by omega⟩
    have k0_0 : wr.cell? ⟨w.heap.size, 0, none⟩ = some (.pointer (some ⟨bO, 0, none⟩)) := by rw [cell_of_block k0]; rfl
    have k0_1 : wr.cell? ⟨w.heap.size, 1, none⟩ = some (.pointer (some ⟨bY, 0, none⟩)) := by rw [cell_of_block k0]; rfl
    by_cases hin : x ∈ S
    · rw [decide_eq_true hin] at hlook
      have e := HR.out.symm.trans (trail_ring htr hin)
      obtain ⟨rfl, rfl⟩ := Prod.mk.inj e
      clear HR e htr hin hgk hH hL hu hrg hL0
      go_wp2
      go_ret2
      exact ⟨rfl, hbr⟩
    · rw [decide_eq_false hin] at hlook
      have hne : w.heap.size ≠ w1.heap.size := by have := (Array.getElem?_eq_some_iff.1 k0).1; omega
      by_cases he : HE wo wy x = 0
      · by_cases hk4 : HK wo wy x = 4
        · cases had : adB (LD wo wy (x + 2))
          · have hH1 := fun W h => hH W h x
            rw [he, hk4] at hH1
            have hL1 := fun W h => hL W h (x + 2)
            have hA1 := fun W => address_any (LD wo wy (x + 2)) (hu (x + 2)) W
            rw [had] at hA1
            have e := HR.out.symm.trans (htr.fuel.trans (rsv_bad he hk4 had _))
            obtain ⟨rfl, rfl⟩ := Prod.mk.inj e
            clear HR e
            clear hH hL hu hrg hL0 htr he hk4 had
            generalize LD wo wy (x + 2) = xv at *
            generalize LE wo wy (x + 2) = yv at *
            generalize adA xv = av at *
            generalize HC wo wy x = hc at *
            generalize HF wo wy x = hf at *
            have HIN := Lib.hid hin
            have HG := Lib.hid hgk
            clear hin hgk
            go_wp2_with (at_mapUpdate; refine wpList_seen rfl _ _ _ rfl w1.heap.size S rfl hse (by omega) x rfl rfl ⟨by omega, by omega⟩ ?_; intro w3 hs3 hg3; have hb3 : Below w1.heap.size wr w3 := (Below.refl _ wr).grown hg3 (by have := hse.lt; omega) (fun k e => by cases e; exact Nat.le_refl _); have k0 := (hb3.block w.heap.size (by omega)).trans k0; have hbw3 : Below w.heap.size w w3 := hbr.trans (hb3.mono (by omega)); have k0_0 : w3.cell? ⟨w.heap.size, 0, none⟩ = some (.pointer (some ⟨bO, 0, none⟩)) := (by rw [cell_of_block k0]; rfl); have k0_1 : w3.cell? ⟨w.heap.size, 1, none⟩ = some (.pointer (some ⟨bY, 0, none⟩)) := (by rw [cell_of_block k0]; rfl))
            refine (hH1 _ hbw3).mono ?_
            rintro e w4 ⟨rfl, hb4⟩
            have k0 := bblock hb4 k0
            have hs4 := hs3.below hb4
            have hbw4 := bchain hb4 hbw3
            have hz4 : w.heap.size < w4.heap.size := (Array.getElem?_eq_some_iff.1 k0).1
            clear k0_0 k0_1 hb4 hbw3 hs3 hlook hse hb3 hg3 hH1
            have k0_0 : w4.cell? ⟨w.heap.size, 0, none⟩ = some (.pointer (some ⟨bO, 0, none⟩)) := (by rw [cell_of_block k0]; rfl)
            have k0_1 : w4.cell? ⟨w.heap.size, 1, none⟩ = some (.pointer (some ⟨bY, 0, none⟩)) := (by rw [cell_of_block k0]; rfl)
            go_wp2_with fail
            refine (hL1 _ (by (repeat (first | exact Below.refl _ _ | assumption | refine Below.drew ?_ | refine below_drewN ?_ _ | refine balloc ?_ _ | refine Below.setCell ?_ (by first | (simp; done) | (simp; omega) | omega) _ | refine bchain (by assumption) ?_)))).mono ?_
            rintro e w5 ⟨rfl, hb5⟩
            have hB5 : Below w4.heap.size w4 w5 := by (repeat (first | exact Below.refl _ _ | assumption | refine Below.drew ?_ | refine below_drewN ?_ _ | refine balloc ?_ _ | refine Below.setCell ?_ (by first | (simp; done) | (simp; omega) | omega) _ | refine bchain (by assumption) ?_))
            have k0 := bblock hB5 k0
            have hs5 := hs4.below hB5
            have hbw5 := bchain hB5 hbw4
            clear k0_0 k0_1
            have k0_0 : w5.cell? ⟨w.heap.size, 0, none⟩ = some (.pointer (some ⟨bO, 0, none⟩)) := (by rw [cell_of_block k0]; rfl)
            have k0_1 : w5.cell? ⟨w.heap.size, 1, none⟩ = some (.pointer (some ⟨bY, 0, none⟩)) := (by rw [cell_of_block k0]; rfl)
            go_wp2_with fail
            refine (hA1 _).mono ?_
            rintro e w6 ⟨rfl, hb6⟩
            have k0 := bblock hb6 k0
            have hs6 := hs5.below hb6
            have hbw6 := bchain hb6 hbw5
            clear hb5 hs4 hs5 hb6 hB5
            go_wp2
            go_ret2
            exact ⟨rfl, by (repeat (first | exact Below.refl _ _ | assumption | refine Below.drew ?_ | refine below_drewN ?_ _ | refine balloc ?_ _ | refine Below.setCell ?_ (by first | (simp; done) | (simp; omega) | omega) _ | refine bchain (by assumption) ?_))⟩
          · have hH1 := fun W h => hH W h x
            rw [he, hk4] at hH1
            have hL1 := fun W h => hL W h (x + 2)
            have hA1 := fun W => address_any (LD wo wy (x + 2)) (hu (x + 2)) W
            rw [had] at hA1
            obtain ⟨htr2, hl2⟩ := trail_step htr hin ⟨he, hk4, had⟩
            have hnb : 0 ≤ nxt wo wy x ∧ nxt wo wy x ≤ 1099511627776 := by
              have h5 := (adB_iff.1 had).2
              have h6 := (hu (x + 2)).nonneg
              unfold nxt adA
              rw [had, if_pos rfl]
              omega
            have hadx : adA (LD wo wy (x + 2)) = nxt wo wy x := rfl
            rw [hadx] at hA1
            have hlen : (S ++ [x]).length = S.length + 1 := by simp
            have HLN := Lib.hid hlen
            clear htr he hk4 had hadx hlen hL0
            generalize LD wo wy (x + 2) = xv at *
            generalize LE wo wy (x + 2) = yv at *
            generalize nxt wo wy x = av at *
            generalize HC wo wy x = hc at *
            generalize HF wo wy x = hf at *
            have HIN := Lib.hid hin
            have HG := Lib.hid hgk
            clear hin hgk
            go_wp2_with (at_mapUpdate; refine wpList_seen rfl _ _ _ rfl w1.heap.size S rfl hse (by omega) x rfl rfl ⟨by omega, by omega⟩ ?_; intro w3 hs3 hg3; have hb3 : Below w1.heap.size wr w3 := (Below.refl _ wr).grown hg3 (by have := hse.lt; omega) (fun k e => by cases e; exact Nat.le_refl _); have k0 := (hb3.block w.heap.size (by omega)).trans k0; have hbw3 : Below w.heap.size w w3 := hbr.trans (hb3.mono (by omega)); have k0_0 : w3.cell? ⟨w.heap.size, 0, none⟩ = some (.pointer (some ⟨bO, 0, none⟩)) := (by rw [cell_of_block k0]; rfl); have k0_1 : w3.cell? ⟨w.heap.size, 1, none⟩ = some (.pointer (some ⟨bY, 0, none⟩)) := (by rw [cell_of_block k0]; rfl))
            refine (hH1 _ hbw3).mono ?_
            rintro e w4 ⟨rfl, hb4⟩
            have k0 := bblock hb4 k0
            have hs4 := hs3.below hb4
            have hbw4 := bchain hb4 hbw3
            have hz4 : w.heap.size < w4.heap.size := (Array.getElem?_eq_some_iff.1 k0).1
            clear k0_0 k0_1 hb4 hbw3 hs3 hlook hse hb3 hg3 hH1
            have k0_0 : w4.cell? ⟨w.heap.size, 0, none⟩ = some (.pointer (some ⟨bO, 0, none⟩)) := (by rw [cell_of_block k0]; rfl)
            have k0_1 : w4.cell? ⟨w.heap.size, 1, none⟩ = some (.pointer (some ⟨bY, 0, none⟩)) := (by rw [cell_of_block k0]; rfl)
            go_wp2_with fail
            refine (hL1 _ (by (repeat (first | exact Below.refl _ _ | assumption | refine Below.drew ?_ | refine below_drewN ?_ _ | refine balloc ?_ _ | refine Below.setCell ?_ (by first | (simp; done) | (simp; omega) | omega) _ | refine bchain (by assumption) ?_)))).mono ?_
            rintro e w5 ⟨rfl, hb5⟩
            have hB5 : Below w4.heap.size w4 w5 := by (repeat (first | exact Below.refl _ _ | assumption | refine Below.drew ?_ | refine below_drewN ?_ _ | refine balloc ?_ _ | refine Below.setCell ?_ (by first | (simp; done) | (simp; omega) | omega) _ | refine bchain (by assumption) ?_))
            have k0 := bblock hB5 k0
            have hs5 := hs4.below hB5
            have hbw5 := bchain hB5 hbw4
            clear k0_0 k0_1
            have k0_0 : w5.cell? ⟨w.heap.size, 0, none⟩ = some (.pointer (some ⟨bO, 0, none⟩)) := (by rw [cell_of_block k0]; rfl)
            have k0_1 : w5.cell? ⟨w.heap.size, 1, none⟩ = some (.pointer (some ⟨bY, 0, none⟩)) := (by rw [cell_of_block k0]; rfl)
            go_wp2_with fail
            refine (hA1 _).mono ?_
            rintro e w6 ⟨rfl, hb6⟩
            have k0 := bblock hb6 k0
            have hs6 := hs5.below hb6
            have hbw6 := bchain hb6 hbw5
            clear hb5 hs4 hs5 hb6 hB5
            go_wp2
            go_roundg (wo.length + wy.length + 1 - (S ++ [x]).length)
            case measure => have := HG.out; have := HLN.out; omega
            case rel => exact ⟨S ++ [x], av, rfl, hl2, rfl, htr2, hnb, hs6, k0, hbw6⟩
        · have hH1 := fun W h => hH W h x
          rw [he] at hH1
          obtain ⟨m, hm⟩ := trail_pos htr
          have e := HR.out.symm.trans (htr.fuel.trans ((congrArg (fun k => rsv wo wy k x) hm).trans (rsv_end he hk4 m)))
          obtain ⟨rfl, rfl⟩ := Prod.mk.inj e
          have hb1 : (HK wo wy r1 != 4) = true := by simpa using hk4
          clear HR e hm hH hL hu hrg hL0 htr he hk4
          generalize HK wo wy r1 = hk at *
          generalize HC wo wy r1 = hc at *
          generalize HF wo wy r1 = hf at *
          have HIN := Lib.hid hin
          have HG := Lib.hid hgk
          clear hin hgk
          go_wp2_with (at_mapUpdate; refine wpList_seen rfl _ _ _ rfl w1.heap.size S rfl hse (by omega) r1 rfl rfl ⟨by omega, by omega⟩ ?_; intro w3 hs3 hg3; have hb3 : Below w1.heap.size wr w3 := (Below.refl _ wr).grown hg3 (by have := hse.lt; omega) (fun k e => by cases e; exact Nat.le_refl _); have k0 := (hb3.block w.heap.size (by omega)).trans k0; have hbw3 : Below w.heap.size w w3 := hbr.trans (hb3.mono (by omega)); have k0_0 : w3.cell? ⟨w.heap.size, 0, none⟩ = some (.pointer (some ⟨bO, 0, none⟩)) := (by rw [cell_of_block k0]; rfl); have k0_1 : w3.cell? ⟨w.heap.size, 1, none⟩ = some (.pointer (some ⟨bY, 0, none⟩)) := (by rw [cell_of_block k0]; rfl))
          refine (hH1 _ hbw3).mono ?_
          rintro e w4 ⟨rfl, hb4⟩
          have k0 := bblock hb4 k0
          have hs4 := hs3.below hb4
          have hbw4 := bchain hb4 hbw3
          have hz4 : w.heap.size < w4.heap.size := (Array.getElem?_eq_some_iff.1 k0).1
          clear k0_0 k0_1 hb4 hbw3 hs3 hlook hse hb3 hg3 hH1
          have k0_0 : w4.cell? ⟨w.heap.size, 0, none⟩ = some (.pointer (some ⟨bO, 0, none⟩)) := (by rw [cell_of_block k0]; rfl)
          have k0_1 : w4.cell? ⟨w.heap.size, 1, none⟩ = some (.pointer (some ⟨bY, 0, none⟩)) := (by rw [cell_of_block k0]; rfl)
          go_wp2
          go_ret2
          exact ⟨rfl, by (repeat (first | exact Below.refl _ _ | assumption | refine Below.drew ?_ | refine below_drewN ?_ _ | refine balloc ?_ _ | refine Below.setCell ?_ (by first | (simp; done) | (simp; omega) | omega) _ | refine bchain (by assumption) ?_))⟩
      · have hH1 := fun W h => hH W h x
        have e := HR.out.symm.trans (htr.fuel.trans (rsv_err he _))
        obtain ⟨rfl, rfl⟩ := Prod.mk.inj e
        clear HR e
        have hb1 : (HE wo wy x != 0) = true := by simpa using he
        clear hH hL hu hrg hL0 htr
        generalize HK wo wy x = hk at *
        generalize HC wo wy x = hc at *
        generalize HF wo wy x = hf at *
        generalize HE wo wy x = er at *
        clear he
        have HIN := Lib.hid hin
        have HG := Lib.hid hgk
        clear hin hgk
        go_wp2_with (at_mapUpdate; refine wpList_seen rfl _ _ _ rfl w1.heap.size S rfl hse (by omega) x rfl rfl ⟨by omega, by omega⟩ ?_; intro w3 hs3 hg3; have hb3 : Below w1.heap.size wr w3 := (Below.refl _ wr).grown hg3 (by have := hse.lt; omega) (fun k e => by cases e; exact Nat.le_refl _); have k0 := (hb3.block w.heap.size (by omega)).trans k0; have hbw3 : Below w.heap.size w w3 := hbr.trans (hb3.mono (by omega)); have k0_0 : w3.cell? ⟨w.heap.size, 0, none⟩ = some (.pointer (some ⟨bO, 0, none⟩)) := (by rw [cell_of_block k0]; rfl); have k0_1 : w3.cell? ⟨w.heap.size, 1, none⟩ = some (.pointer (some ⟨bY, 0, none⟩)) := (by rw [cell_of_block k0]; rfl))
        refine (hH1 _ hbw3).mono ?_
        rintro e w4 ⟨rfl, hb4⟩
        have k0 := bblock hb4 k0
        have hs4 := hs3.below hb4
        have hbw4 := bchain hb4 hbw3
        have hz4 : w.heap.size < w4.heap.size := (Array.getElem?_eq_some_iff.1 k0).1
        clear k0_0 k0_1 hb4 hbw3 hs3 hlook hse hb3 hg3 hH1
        have k0_0 : w4.cell? ⟨w.heap.size, 0, none⟩ = some (.pointer (some ⟨bO, 0, none⟩)) := (by rw [cell_of_block k0]; rfl)
        have k0_1 : w4.cell? ⟨w.heap.size, 1, none⟩ = some (.pointer (some ⟨bY, 0, none⟩)) := (by rw [cell_of_block k0]; rfl)
        go_wp2
        go_ret2
        exact ⟨rfl, by (repeat (first | exact Below.refl _ _ | assumption | refine Below.drew ?_ | refine below_drewN ?_ _ | refine balloc ?_ _ | refine Below.setCell ?_ (by first | (simp; done) | (simp; omega) | omega) _ | refine bchain (by assumption) ?_))⟩
end Go.Proofs.Ytcmhgjkijegpnaa
