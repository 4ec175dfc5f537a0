/-
  nursery.order: the walk.
-/
import Derived.Test.YtgjaafcagnkfdaaTsG
namespace Go.Proofs.Ytgjaafcagnkfdaa
open Go.RowKit Go.Maps
set_option linter.unusedSimpArgs false
set_option linter.unusedVariables false

theorem LkP.trans {w w1 w2 : World} {n bO bY : Nat} {L1 L2 : List Int} {v : Value} (h1 : LkP w n bO bY L1 v w1) (h2 : ∀ v1, OrdV w1 n bO bY L1 v1 → LkP w1 n bO bY L2 v1 w2) : LkP w n bO bY L2 v w2 := by
  obtain ⟨v1, a, b, c⟩ := h1
  exact LkP.step b c (h2 v1 a)
theorem ord_made (w : World) (bO bY : Nat) : OrdV ((((((w.alloc (.cells #[.pointer (some ⟨bO, 0, none⟩), .pointer (some ⟨bY, 0, none⟩)] 26)).alloc (.cells #[.slice none 0 0] 42)).alloc (.map #[] 0)).alloc (.cells #[.map (some (w.heap.size + 2))] 71)).alloc (.cells #[.bool false] 4)).alloc (.cells #[.func (.func 37) #[] #[.pointer (some ⟨w.heap.size, 0, none⟩), .pointer (some ⟨w.heap.size + 4, 0, none⟩), .pointer (some ⟨w.heap.size + 3, 0, none⟩), .pointer (some ⟨w.heap.size + 1, 0, none⟩)]] 81)) w.heap.size bO bY [] (.slice none 0 0) := by
  have hs := (seen_made ((w.alloc (.cells #[.pointer (some ⟨bO, 0, none⟩), .pointer (some ⟨bY, 0, none⟩)] 26)).alloc (.cells #[.slice none 0 0] 42)))
  rw [World.size_alloc, World.size_alloc] at hs
  refine ⟨?_, ?_, ?_, ?_, ?_, ?_, World.ownsRow_nil _ _ _ _⟩
  · repeat (first | exact alloc_get _ _ | exact alloc_at _ (by simp) | refine alloc_lt _ ?_)
  · repeat (first | exact alloc_at _ (by simp) | refine alloc_lt _ ?_)
  · exact ((hs.below (balloc (Below.refl _ _) _)).below (balloc (Below.refl _ _) _)).below (balloc (Below.refl _ _) _)
  · repeat (first | exact alloc_at _ (by simp) | refine alloc_lt _ ?_)
  · repeat (first | exact alloc_at _ (by simp) | refine alloc_lt _ ?_)
  · repeat (first | exact alloc_at _ (by simp) | refine alloc_lt _ ?_)
theorem ord_made_b (w : World) (bO bY : Nat) : Below w.heap.size w ((((((w.alloc (.cells #[.pointer (some ⟨bO, 0, none⟩), .pointer (some ⟨bY, 0, none⟩)] 26)).alloc (.cells #[.slice none 0 0] 42)).alloc (.map #[] 0)).alloc (.cells #[.map (some (w.heap.size + 2))] 71)).alloc (.cells #[.bool false] 4)).alloc (.cells #[.func (.func 37) #[] #[.pointer (some ⟨w.heap.size, 0, none⟩), .pointer (some ⟨w.heap.size + 4, 0, none⟩), .pointer (some ⟨w.heap.size + 3, 0, none⟩), .pointer (some ⟨w.heap.size + 1, 0, none⟩)]] 81)) := balloc (balloc (balloc (balloc (balloc (balloc (Below.refl _ _) _) _) _) _) _) _
set_option maxRecDepth 100000 in
set_option maxHeartbeats 4000000 in
theorem order_any {w : World} {bO bY : Nat} {lo ly : Int} {wo wy : List Int} {gO gY : Option Nat} (hm : MemAt w bO bY lo ly wo wy gO gY) (hrec : ∀ a ∈ objA 0 wo, HE wo wy a = 0 ∧ HK wo wy a = 0) {tb mb : Nat} {mk : List Int} (ht : TabAt w tb mb mk) {vr : Value} {rl : List Int} (hr : WrdsV w vr rl) (hrl : rl.length ≤ 1000) (hsz : wo.length + wy.length ≤ 4000)
    (g1 : ∀ x ∈ rl, Gx wo wy x) (g2 : ∀ q ∈ pkQ mk (sqO wo wy), Gx wo wy (LD wo wy q)) (g3 : ∀ a, YO wo wy a → Re wy a → ∀ j : Int, 0 ≤ j → j < HF wo wy a → Gx wo wy (LD wo wy (a + 2 + j))) :
    Calls Try.prog 15 #[.agg #[.pointer (some ⟨bO, 0, none⟩), .pointer (some ⟨bY, 0, none⟩)], .pointer (some ⟨tb, 0, none⟩), vr] w fun e w' => ∃ L v, e = .returned (.tuple #[v, .bool false]) ∧ w'.ownsRow w.heap.size 3 1 v L.length (L.map (Value.int .i64)) ∧ Ord wo wy mk rl L ∧ Below w.heap.size w w' := by
  obtain ⟨ra, rc, rfl, hrc, hrc63, hrow⟩ := hr
  have hmf : ∀ (fn : Fn) (first cap : Array Value) (w : World), (Instr.makeFunc fn first cap).run Try.prog w = .ok (.func fn first cap) w := fun _ _ _ _ => rfl
  have hmm := @run_makeMap Try.prog
  have hsl : (pkQ mk (sqO wo wy)).length ≤ 30 * wo.length := by
    have h1 := slQ_len wo wy (objA 0 wo) (fun a ha => (hrec a ha).1)
    have h2 := objs_len (ws := wo) wo.length 0 (by omega) (by omega)
    have h3 : (objA 0 wo).length = (objs wo 0).length := by unfold objA; simp
    have h4 : (pkQ mk (sqO wo wy)).length ≤ (sqO wo wy).length := by unfold pkQ; rw [List.length_map]; exact List.length_filter_le _ _
    unfold sqO at h4 ⊢
    omega
  have hos := OrdI.start (mk := mk) g1 g2
  have HOS := Lib.hid hos
  have hW6 := ord_made w bO bY
  have hB6 := ord_made_b w bO bY
  have HMM := Lib.hid hm
  have HTT := Lib.hid ht
  have HREC := Lib.hid hrec
  have G1 := Lib.hid g1
  have G2 := Lib.hid g2
  have G3 := Lib.hid g3
  have hn6 : ∀ k, OrW w.heap.size (.slice none 0 0) k → w.heap.size ≤ k := by
    rintro k (e | e | e | e)
    · omega
    · omega
    · omega
    · cases e
  clear hm ht hrec g1 g2 g3 hos
  go_enter Try.func15, Try.ntmps15
  go_wp2_with fail
  obtain ⟨w6, hw6⟩ : ∃ W, ((((((w.alloc (.cells #[.pointer (some ⟨bO, 0, none⟩), .pointer (some ⟨bY, 0, none⟩)] 26)).alloc (.cells #[.slice none 0 0] 42)).alloc (.map #[] 0)).alloc (.cells #[.map (some (w.heap.size + 2))] 71)).alloc (.cells #[.bool false] 4)).alloc (.cells #[.func (.func 37) #[] #[.pointer (some ⟨w.heap.size, 0, none⟩), .pointer (some ⟨w.heap.size + 4, 0, none⟩), .pointer (some ⟨w.heap.size + 3, 0, none⟩), .pointer (some ⟨w.heap.size + 1, 0, none⟩)]] 81)) = W := ⟨_, rfl⟩
  rw [hw6] at hW6 hB6 ⊢
  clear hw6
  obtain ⟨n, hn⟩ : ∃ n, w.heap.size = n := ⟨_, rfl⟩
  rw [hn] at hW6 hB6 hn6 ⊢
  have HN := Lib.hid hn
  have HW6 := Lib.hid hW6
  have HB6 := Lib.hid hB6
  have hrow6 : rl = [] ∨ ∃ b off : Nat, ra = some ⟨b, off, none⟩ ∧ b < n ∧ ∀ (i : Nat) (x : Int), rl[i]? = some x → w6.cell? ⟨b, off + i, none⟩ = some (.int .u64 x) := by
    by_cases h0 : rl = []
    · exact .inl h0
    · rcases hrow with e | ⟨b, off, e, h⟩
      · exact .inl e
      · obtain ⟨x, hx⟩ : ∃ x, rl[0]? = some x := ⟨_, List.getElem?_eq_getElem (List.length_pos_iff.2 h0)⟩
        have hlt := World.block_lt_of_cell? _ _ (h 0 x hx)
        exact .inr ⟨b, off, e, by rw [← hn]; exact hlt, fun i x hx => bcellv (by rw [hn]; exact hB6) (h i x hx)⟩
  clear hrow hn hB6
  go_loopw [21] (fun q wr => ∃ t : Nat, t ≤ rl.length ∧ q = .int .i64 t ∧ LkP w6 n bO bY (lkR [] (rl.take t)) (.slice none 0 0) wr) (fun q _ => rl.length - (intOf q).toNat)
  case atStart => exact ⟨0, Nat.zero_le _, rfl, LkP.refl hW6⟩
  case round =>
    clear hW6
    obtain ⟨t, htl, rfl, hK⟩ := hrel
    have hbr := hK.below HW6.out
    by_cases hlt : t < rl.length
    · obtain ⟨x, hx⟩ : ∃ x, rl[t]? = some x := ⟨_, List.getElem?_eq_getElem hlt⟩
      have hsn := take_snoc7 hx
      have HSN := Lib.hid hsn
      have hle := lkR_len (rl.take t) []
      rw [List.length_take, List.length_nil] at hle
      obtain ⟨v1, h1, hM1, hv1⟩ := hK
      rcases hrow6 with rfl | ⟨b, off, rfl, hbz, hA⟩
      · simp at hlt
      have ca := mcell hM1 (hA t x hx) (fun e => by have := hn6 b e; omega)
      have cb := World.block_lt_of_cell? _ _ ca
      have s1 : ((t : Int)).toNat = t := by omega
      have hd : decide ((t : Int) < (rl.length : Int)) = true := by simpa using hlt
      have hgx := G1.out x (List.mem_of_getElem? hx)
      generalize hL1 : lkR [] (rl.take t) = L1 at *
      have HL1 := Lib.hid hL1
      have q5 : wr.cell? ⟨n + 5, 0, none⟩ = some (.func (.func 37) #[] #[.pointer (some ⟨n, 0, none⟩), .pointer (some ⟨n + 4, 0, none⟩), .pointer (some ⟨n + 3, 0, none⟩), .pointer (some ⟨n + 1, 0, none⟩)]) := by rw [cell_of_block h1.kk]; rfl
      have hz2 : n + 5 < wr.heap.size := (Array.getElem?_eq_some_iff.1 h1.kk).1
      have hLk := look_any HMM.out HN.out (HB6.out.trans hbr) h1 (by omega) x hgx.1 hgx.gw
      have HM1 := Lib.hid hM1
      have HV1 := Lib.hid hv1
      have HLK := Lib.hid hLk
      clear hA hgx hL1 hsn hle h1 hM1 hv1 hbr hx hLk
      go_wp2_with fail
      refine HLK.out.mono ?_
      rintro e w3 ⟨rfl, h3⟩
      have HF := Lib.hid (LkP.step HM1.out HV1.out h3)
      clear h3 q5 ca
      go_wp2_with fail
      go_roundw
      case rel => exact ⟨t + 1, by omega, by go_num, by rw [HSN.out, lkR_snoc, HL1.out]; exact HF.out⟩
      case measure => simp [intOf]; omega
    · have htl2 : t = rl.length := by omega
      subst htl2
      rw [List.take_length] at hK
      have hd : decide ((rl.length : Int) < (rl.length : Int)) = false := by simp
      obtain ⟨v1, h1, hM1, hv1⟩ := hK
      have k0 : wr.cell? ⟨n, 0, none⟩ = some (.pointer (some ⟨bO, 0, none⟩)) := by rw [cell_of_block h1.km]; rfl
      have k1 : wr.cell? ⟨n, 1, none⟩ = some (.pointer (some ⟨bY, 0, none⟩)) := by rw [cell_of_block h1.km]; rfl
      have hz : n + 5 < wr.heap.size := (Array.getElem?_eq_some_iff.1 h1.kk).1
      have hbw : Below w.heap.size w wr := by rw [HN.out]; exact HB6.out.trans hbr
      have hR := rem_any (HMM.out.below hbw) HREC.out (HTT.out.below hbw)
      have hle := lkR_len rl []
      rw [List.length_nil] at hle
      have hLa := fun (W : World) (H : Below wr.heap.size wr W) (A : Option Addr) (al : List Int) (cap : Nat) (hA : RowQ W n v1 A al) => lookat_any HMM.out HN.out ((HB6.out.trans hbr).trans (H.mono (by omega))) (h1.below H) (cap := cap) hA
      have HLA := Lib.hid hLa
      have H1 := Lib.hid h1
      have HKM := Lib.hid hM1
      have HKV := Lib.hid hv1
      have HR := Lib.hid hR
      clear hLa h1 hM1 hv1 hR hbr hrow6 hlt htl hbw
      go_wp2_with fail
      refine HR.out.mono ?_
      rintro e w2 ⟨v2, rfl, hr2, hb2⟩
      obtain ⟨A2, c2, rfl, hc2, hc2b⟩ := row_form hr2
      have hq := rowq_of hr2 (H1.out.orlt)
      have hLa := HLA.out _ hb2 _ _ c2 hq hc2 hc2b (by omega) (fun i a ha => (G2.out a (List.mem_of_getElem? ha)).gw)
      have HLB := Lib.hid hLa
      have HB2 := Lib.hid hb2
      clear hq hr2 hLa HLA hb2 k0 k1
      go_wp2_with fail
      refine HLB.out.mono ?_
      rintro e w3 ⟨rfl, h3⟩
      have HF := Lib.hid (LkP.step HKM.out HKV.out (LkP.pre HB2.out h3))
      clear h3 HLB hc2 hc2b
      have h0 : ∃ L, OrdI wo wy mk rl L 0 ∧ LkP w6 n bO bY L (.slice none 0 0) w3 := ⟨_, HOS.out, HF.out⟩
      clear HF HOS
      go_wp2_with fail
      go_loopw [15] (fun q wq => ∃ (i : Nat) (L : List Int), q = .int .i64 i ∧ i ≤ L.length ∧ OrdI wo wy mk rl L i ∧ LkP w6 n bO bY L (.slice none 0 0) wq) (fun q _ => wo.length + wy.length - (intOf q).toNat)
      case atStart => obtain ⟨L, a1, a2⟩ := h0; exact ⟨0, L, rfl, Nat.zero_le _, a1, a2⟩
      case round =>
        clear h0
        obtain ⟨i, L, rfl, hi, hI, hK⟩ := hrel
        have hbr := hK.below HW6.out
        obtain ⟨v1, h1, hM1, hv1⟩ := hK
        have hLn := hI.len
        have q1 : wr.cell? ⟨n + 1, 0, none⟩ = some v1 := by rw [cell_of_block h1.kl]; rfl
        have hz : n + 5 < wr.heap.size := (Array.getElem?_eq_some_iff.1 h1.kk).1
        by_cases hlt : i < L.length
        · obtain ⟨a, ha⟩ : ∃ a, L[i]? = some a := ⟨_, List.getElem?_eq_getElem hlt⟩
          obtain ⟨G, c, rfl, hca, hcc, hcc63⟩ := h1.cellAt ha
          have hyo := hI.yo a (List.mem_of_getElem? ha)
          have hre := hI.re a (List.mem_of_getElem? ha)
          have hnx := hI.step ha (fun j j0 j1 => G3.out a hyo hre j j0 j1)
          have k0 : wr.cell? ⟨n, 0, none⟩ = some (.pointer (some ⟨bO, 0, none⟩)) := by rw [cell_of_block h1.km]; rfl
          have k1 : wr.cell? ⟨n, 1, none⟩ = some (.pointer (some ⟨bY, 0, none⟩)) := by rw [cell_of_block h1.km]; rfl
          have s1 : ((i : Int)).toNat = i := by omega
          have hd : decide ((i : Int) < (L.length : Int)) = true := by simpa using hlt
          have cz := World.block_lt_of_cell? _ _ hca
          have hbd := Below.drew (Below.refl wr.heap.size wr)
          have hbw : Below w.heap.size w wr.drew := by rw [HN.out]; exact (HB6.out.trans hbr).drew
          have hNs := nslots_any (HMM.out.below hbw) a hyo.2.1 hyo.2.2
          have hLa := fun (W : World) (H : Below wr.heap.size wr W) (A : Option Addr) (al : List Int) (cap : Nat) (hA : RowQ W n _ A al) => lookat_any HMM.out HN.out ((HB6.out.trans hbr).trans (H.mono (by omega))) (h1.below H) (cap := cap) hA
          have HLA := Lib.hid hLa
          have H1 := Lib.hid h1
          have HKM := Lib.hid hM1
          have HKV := Lib.hid hv1
          have HNS := Lib.hid hNs
          have HNX := Lib.hid hnx
          have HY := Lib.hid hyo
          have hHF : (HF wo wy a).toNat ≤ 30 := by have := HE_bd hyo.2.1; omega
          have hgs := fun (k : Nat) (q : Int) (hq : (slA a (HF wo wy a).toNat)[k]? = some q) => (by
            obtain ⟨j, hj, rfl⟩ := slA_mem.1 (List.mem_of_getElem? hq)
            exact (G3.out a hyo hre j (by omega) (by omega)).gw : Gw wo wy (LD wo wy q))
          have HGS := Lib.hid hgs
          have hsl2 := slA_len a (HF wo wy a).toNat
          have HSL := Lib.hid hsl2
          clear h1 hM1 hv1 hbr hNs hLa hnx hyo hI hgs ha hbw hsl2
          go_wp2_with fail
          go_region_with (first
            | (go_at_call 39; refine HNS.out.mono ?_; rintro e w5 ⟨v5, rfl, hr5, hb5⟩; obtain ⟨A5, c5, rfl, hc5, hc5b⟩ := row_form hr5; have HR5 := Lib.hid hr5; have HB5 := Lib.hid (show Below wr.heap.size wr w5 from bchain hb5 hbd); clear hr5 hb5)
            | (go_at_call 38; have hq := rowq_of (w := wr) (al := slA a (HF wo wy a).toNat) (cap := c5) (A := A5) (by rw [HSL.out]; exact HR5.out) H1.out.orlt; have hLB := HLA.out _ HB5.out A5 _ c5 hq (by rw [HSL.out]; exact hc5) hc5b (by rw [HSL.out]; omega) HGS.out; rw [HSL.out] at hLB; refine hLB.mono ?_; rintro e w7 ⟨rfl, h7⟩; have HF7 := Lib.hid (LkP.step HKM.out HKV.out (LkP.pre HB5.out h7)); clear hq hLB h7))
          all_goals (go_wp2_with fail)
          all_goals go_roundw
          all_goals (first | (case rel => exact ⟨i + 1, _, by go_num, by have := (lkR_pre ((slA a (HF wo wy a).toNat).map (LD wo wy)) L).length_le; rw [lkS_R]; omega, HNX.out, HF7.out⟩) | skip)
          all_goals (simp [intOf]; omega)
        · have hil : i = L.length := by omega
          subst hil
          have hd : decide ((L.length : Int) < (L.length : Int)) = false := by simp
          have q4 : wr.cell? ⟨n + 4, 0, none⟩ = some (.bool false) := by rw [cell_of_block h1.kb]; rfl
          obtain ⟨A1, c1, rfl, _, _⟩ := row_form h1.row
          have HE := Lib.hid (show wr.ownsRow n 3 1 (.slice A1 L.length c1) L.length (L.map (Value.int .i64)) from row_base7 h1.row (by omega))
          have HO := Lib.hid hI.ord
          have HBF := Lib.hid (show Below w.heap.size w wr by rw [HN.out]; exact HB6.out.trans hbr)
          have HNN := Lib.hid HN.out
          clear h1 hM1 hv1 hI hbr
          go_wp2_with fail
          go_region
          all_goals (try go_wp2_with fail)
          have hdr := Below.drew (Below.refl wr.heap.size wr)
          all_goals go_ret2
          all_goals exact ⟨L, _, rfl, by rw [HNN.out]; exact row_below7 HE.out hdr, HO.out, bchain hdr HBF.out⟩
end Go.Proofs.Ytgjaafcagnkfdaa
