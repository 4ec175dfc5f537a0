/-
  refmeshlaw07.awake.
-/
import Derived.Test.YtcmhgjkijegpnaaAwk
namespace Go.Proofs.Ytcmhgjkijegpnaa
open Go.RowKit
set_option linter.unusedSimpArgs false
set_option linter.unusedVariables false

set_option maxRecDepth 100000 in
set_option maxHeartbeats 2000000 in
theorem awake7 (w : World) : Calls Try.prog 9 #[] w fun e w' => e = .returned (.bool true) ∧ Below w.heap.size w w' := by
  have n1 := fun W => onew_any 100 W
  rw [aw1] at n1
  go_enter Try.func9, Try.ntmps9
  go_wp2_with fail
  refine (n1 _).mono ?_
  rintro e w1 ⟨b1, b2, hb1, hb2, rfl, hm1, hw1⟩
  clear n1
  have hl1 := hm1.old.lt
  have hl2 := hm1.yng.lt
  have hm1a := hm1.below (balloc (Below.refl _ w1) (.cells #[.pointer (some ⟨b1, 0, none⟩), .pointer (some ⟨b2, 0, none⟩)] 29))
  have k0 : (w1.alloc (.cells #[.pointer (some ⟨b1, 0, none⟩), .pointer (some ⟨b2, 0, none⟩)] 29)).heap[w1.heap.size]? = some (.cells #[.pointer (some ⟨b1, 0, none⟩), .pointer (some ⟨b2, 0, none⟩)] 29 (0, 0)) := alloc_get _ _
  have hA := alloc_any hm1a.old hm1a.okO 0 1 3 1 1
  rw [aw2.1, aw2.2] at hA
  have hn0 := hm1a.fresh
  have hw1a : Below w.heap.size w (w1.alloc (.cells #[.pointer (some ⟨b1, 0, none⟩), .pointer (some ⟨b2, 0, none⟩)] 29)) := balloc hw1 _
  go_wp2_with fail
  refine hA.mono ?_
  rintro e w2 ⟨rfl, hx2⟩
  obtain ⟨g2, hm2, hM2, hg2⟩ := mem_old' hm1a hx2 (alOk hm1a.okO 0 1 3 1 1)
  change MemAt w2 b1 b2 100 (16777216 + 100) awO1 [] g2 none at hm2
  have hs2 := hM2.size
  have hG2 : ∀ G, g2 = some G → w1.heap.size + 1 ≤ G := fun G e => (hg2 G e).elim (fun h => by cases h) (fun h => by simpa using h)
  have hq1 : ¬ MS b1 b2 none none w1.heap.size := by
    rintro ((h | h) | (h | h))
    · omega
    · cases h
    · omega
    · cases h
  have hq2 : ¬ MS b1 b2 g2 none w1.heap.size := by
    rintro ((h | h) | (h | h))
    · omega
    · have := hG2 _ h; omega
    · omega
    · cases h
  have hge1 : ∀ k, MS b1 b2 none none k → w.heap.size ≤ k := by
    rintro k ((h | h) | (h | h))
    · omega
    · cases h
    · omega
    · cases h
  have hge2 : ∀ k, MS b1 b2 g2 none k → w.heap.size ≤ k := by
    rintro k ((h | h) | (h | h))
    · omega
    · have := hG2 _ h; omega
    · omega
    · cases h
  have k0 := mblock hM2 k0 hq1
  have hw2 : Below w.heap.size w w2 := hw1a.trans (hM2.below (by simp; omega) hge1)
  have hSF := msetf_any hm2 0 2 5 (U64.of (by omega) (by omega))
  rw [aw3.1, aw3.2] at hSF
  change Calls _ _ _ _ (fun e w' => e = .returned (.int .i64 0) ∧ MemAt w' b1 b2 100 (16777216 + 100) awO2 [] g2 none ∧ _) at hSF
  simp at hs2
  clear hx2 hM2 hA hn0 hm1 hm1a hm2 hg2 hG2 hw1 hw1a hq1 hge1
  have k0_0 : w2.cell? ⟨w1.heap.size, 0, none⟩ = some (.pointer (some ⟨b1, 0, none⟩)) := by rw [cell_of_block k0]; rfl
  have k0_1 : w2.cell? ⟨w1.heap.size, 1, none⟩ = some (.pointer (some ⟨b2, 0, none⟩)) := by rw [cell_of_block k0]; rfl
  go_wp2_with fail
  refine hSF.mono ?_
  rintro e w3 ⟨rfl, hm3, hM3⟩
  have k0 := mblock hM3 k0 hq2
  have hs3 := hM3.size
  have hw3 : Below w.heap.size w w3 := hw2.trans (hM3.below hw2.size hge2)
  have hLd := mload_any hm3 4
  rw [aw4.1, aw4.2] at hLd
  clear hSF hM3 k0_0 k0_1
  have k0_0 : w3.cell? ⟨w1.heap.size, 0, none⟩ = some (.pointer (some ⟨b1, 0, none⟩)) := by rw [cell_of_block k0]; rfl
  have k0_1 : w3.cell? ⟨w1.heap.size, 1, none⟩ = some (.pointer (some ⟨b2, 0, none⟩)) := by rw [cell_of_block k0]; rfl
  go_wp2_with fail
  refine hLd.mono ?_
  rintro e w4 ⟨rfl, hb4⟩
  have k0 := bblock hb4 k0
  have hm4 := hm3.below hb4
  have hw4 := bchain hb4 hw3
  have hs4 := hb4.size
  have hTS := tostub_any hm4 0 2 9 (U64.of (by omega) (by omega))
  rw [aw5.1, aw5.2] at hTS
  change Calls _ _ _ _ (fun e w' => e = .returned (.int .i64 0) ∧ MemAt w' b1 b2 100 (16777216 + 100) awO3 [] g2 none ∧ _) at hTS
  clear hLd hb4 hm3 k0_0 k0_1
  have k0_0 : w4.cell? ⟨w1.heap.size, 0, none⟩ = some (.pointer (some ⟨b1, 0, none⟩)) := by rw [cell_of_block k0]; rfl
  have k0_1 : w4.cell? ⟨w1.heap.size, 1, none⟩ = some (.pointer (some ⟨b2, 0, none⟩)) := by rw [cell_of_block k0]; rfl
  go_wp2_with fail
  refine hTS.mono ?_
  rintro e w5 ⟨rfl, hm5, hM5⟩
  have k0 := mblock hM5 k0 hq2
  have hw5 : Below w.heap.size w w5 := hw4.trans (hM5.below hw4.size hge2)
  have hSt := mstub_any hm5 0
  rw [aw6.1, aw6.2.1, aw6.2.2] at hSt
  clear hTS hM5 hm4 k0_0 k0_1
  have k0_0 : w5.cell? ⟨w1.heap.size, 0, none⟩ = some (.pointer (some ⟨b1, 0, none⟩)) := by rw [cell_of_block k0]; rfl
  have k0_1 : w5.cell? ⟨w1.heap.size, 1, none⟩ = some (.pointer (some ⟨b2, 0, none⟩)) := by rw [cell_of_block k0]; rfl
  go_wp2_with fail
  refine hSt.mono ?_
  rintro e w6 ⟨rfl, hb6⟩
  have k0 := bblock hb6 k0
  have hm6 := hm5.below hb6
  have hw6 := bchain hb6 hw5
  have hL4 := mload_any hm6 4
  rw [aw7.1, aw7.2.1] at hL4
  clear hSt hb6 hm5 k0_0 k0_1
  have k0_0 : w6.cell? ⟨w1.heap.size, 0, none⟩ = some (.pointer (some ⟨b1, 0, none⟩)) := by rw [cell_of_block k0]; rfl
  have k0_1 : w6.cell? ⟨w1.heap.size, 1, none⟩ = some (.pointer (some ⟨b2, 0, none⟩)) := by rw [cell_of_block k0]; rfl
  go_wp2_with fail
  refine hL4.mono ?_
  rintro e w7 ⟨rfl, hb7⟩
  have k0 := bblock hb7 k0
  have hm7 := hm6.below hb7
  have hw7 := bchain hb7 hw6
  have hL3 := mload_any hm7 3
  rw [aw7.2.2.1, aw7.2.2.2] at hL3
  clear hL4 hb7 hm6 k0_0 k0_1
  have k0_0 : w7.cell? ⟨w1.heap.size, 0, none⟩ = some (.pointer (some ⟨b1, 0, none⟩)) := by rw [cell_of_block k0]; rfl
  have k0_1 : w7.cell? ⟨w1.heap.size, 1, none⟩ = some (.pointer (some ⟨b2, 0, none⟩)) := by rw [cell_of_block k0]; rfl
  go_wp2_with fail
  refine hL3.mono ?_
  rintro e w8 ⟨rfl, hb8⟩
  go_wp2
  go_ret
  exact ⟨rfl, bchain hb8 hw7⟩
end Go.Proofs.Ytcmhgjkijegpnaa
