/-
  nursery.Collect: the walk.
-/
import Derived.Test.YtgjaafcagnkfdaaTsM
import Derived.Deep.Cut
namespace Go.Proofs.Ytgjaafcagnkfdaa
open Go.RowKit Go.Maps
set_option linter.unusedSimpArgs false
set_option linter.unusedVariables false

def ColP (w : World) (bO bY : Nat) (lo ly : Int) (wo wy : List Int) (gO gY : Option Nat) (tb mb0 : Nat) (mk rl : List Int) (e : Ending) (w' : World) : Prop :=
  ∃ L vx gO' gY', e = .returned (.tuple #[vx, .int .i64 L.length, .int .i64 0]) ∧ Ord wo wy mk rl L ∧ MemAt w' bO bY lo ly (clO wo wy mk L) [] gO' gY' ∧ TabAt w' tb mb0 [] ∧ WrdsV w' vx (rl.map (mvS (clS wo wy L))) ∧ Mods (fun k => MS bO bY gO gY k ∨ k = mb0) w w' ∧ (∀ G, vx.ownBlock = some G → ¬ MS bO bY gO' gY' G ∧ w.heap.size ≤ G) ∧ (∀ k, MS bO bY gO' gY' k → MS bO bY gO gY k ∨ w.heap.size ≤ k)
theorem rown_in {w1 : World} {N : Nat} {A : Option Addr} {al : List Int} {cap : Nat} (h : w1.ownsRow N 3 1 (.slice A al.length cap) al.length (al.map (Value.int .i64))) : RowN w1 (fun k => k < N ∨ w1.heap.size ≤ k) A al := by
  obtain ⟨_, h2⟩ := h
  rcases h2 with ⟨_, h2⟩ | ⟨G, cap', cur, e, hge, hh, hcc, hmm, hs, ht⟩
  · exact .inl (List.length_eq_zero_iff.1 h2)
  · simp only [Value.slice.injEq] at e
    obtain ⟨rfl, _, rfl⟩ := e
    have hlt := (Array.getElem?_eq_some_iff.1 hh).1
    refine .inr ⟨G, 0, rfl, hlt, fun hk => by omega, fun i a ha => ?_⟩
    rw [cell_of_block hh, ← Array.getElem?_toList]
    have hi := (List.getElem?_eq_some_iff.1 ha).1
    have e : (cur.toList.take (al.length * 1))[i]? = (al.map (Value.int .i64))[i]? := by rw [ht]
    rw [List.getElem?_take_of_lt (by omega)] at e
    rw [Nat.zero_add, e, List.getElem?_map, ha]
    rfl
theorem MS_new {bO bY : Nat} {gO gY g1 : Option Nat} {z k : Nat} (hg : ∀ G, g1 = some G → gO = some G ∨ z ≤ G) (h : MS bO bY g1 gY k) : MS bO bY gO gY k ∨ (z ≤ k ∧ g1 = some k) := by
  rcases h with (e | e) | e
  · exact .inl (.inl (.inl e))
  · rcases hg k e with h | h
    · exact .inl (.inl (.inr h))
    · exact .inr ⟨h, e⟩
  · exact .inl (.inr e)
theorem plW_getD (nW : Int → List Int) : ∀ (l ws : List Int) (i : Nat), i < ws.length → (plW nW ws l).getD i 0 = ws.getD i 0 := by
  intro l
  induction l with
  | nil => intro ws i _; rfl
  | cons a l ih =>
    intro ws i h
    have e : plW nW ws (a :: l) = plW nW (ws ++ nW a) l := rfl
    rw [e, ih _ i (by rw [List.length_append]; omega), getD_app h]
set_option maxRecDepth 100000 in
set_option maxHeartbeats 8000000 in
theorem collect_any {w : World} {bO bY : Nat} {lo ly : Int} {wo wy : List Int} {gO gY : Option Nat} (hm : MemAt w bO bY lo ly wo wy gO gY) (hrec : ∀ a ∈ objA 0 wo, HE wo wy a = 0 ∧ HK wo wy a = 0) {tb mb0 : Nat} {mk : List Int} (ht : TabAt w tb mb0 mk) {vr : Value} {rl : List Int} (hr : WrdsV w vr rl) (hrs : ∀ G, vr.ownBlock = some G → ¬ MS bO bY gO gY G) (hts : ¬ MS bO bY gO gY tb ∧ ¬ MS bO bY gO gY mb0) (hrl : rl.length ≤ 1000) (hsz : wo.length + wy.length ≤ 4000)
    (g1 : ∀ x ∈ rl, Gx wo wy x) (g2 : ∀ q ∈ pkQ mk (sqO wo wy), Gx wo wy (LD wo wy q)) (g3 : ∀ a, YO wo wy a → Re wy a → ∀ j : Int, 0 ≤ j → j < HF wo wy a → Gx wo wy (LD wo wy (a + 2 + j))) (hsound : Sound wy) (hroom : ∀ L : List Int, L.Nodup → (∀ a ∈ L, YO wo wy a) → (∀ a ∈ L, Re wy a) → ((plW (nWd wo wy) wo L).length : Int) ≤ lo) :
    Calls Try.prog 6 #[.agg #[.pointer (some ⟨bO, 0, none⟩), .pointer (some ⟨bY, 0, none⟩)], .pointer (some ⟨tb, 0, none⟩), vr] w (ColP w bO bY lo ly wo wy gO gY tb mb0 mk rl) := by
  obtain ⟨ra, rc, rfl, hrc, hrc63, hrow⟩ := hr
  have hmf : ∀ (fn : Fn) (first cap : Array Value) (w : World), (Instr.makeFunc fn first cap).run Try.prog w = .ok (.func fn first cap) w := fun _ _ _ _ => rfl
  have hlen0 : (wo.length : Int) ≤ 16777216 := by have := hm.okO.top; have := hm.lim; omega
  have hloL : lo ≤ 16777216 := hm.lim
  have hb0 : Below w.heap.size w (w.alloc (.cells #[.pointer (some ⟨bO, 0, none⟩), .pointer (some ⟨bY, 0, none⟩)] 26)) := balloc (Below.refl _ _) _
  have hO := order_any (hm.below hb0) hrec (ht.below hb0) (vr := .slice ra rl.length rc) (rl := rl) ⟨ra, rc, rfl, hrc, hrc63, hrow.imp id (fun ⟨b, off, e, h⟩ => ⟨b, off, e, fun i x hx => bcellv hb0 (h i x hx)⟩)⟩ hrl hsz g1 g2 g3
  have hroots : WrdN w (MS bO bY gO gY) ra rl := by
    by_cases h0 : rl = []
    · exact .inl h0
    · rcases hrow with e | ⟨b, off, e, h⟩
      · exact .inl e
      · obtain ⟨x, hx⟩ : ∃ x, rl[0]? = some x := ⟨_, List.getElem?_eq_getElem (List.length_pos_iff.2 h0)⟩
        exact .inr ⟨b, off, e, World.block_lt_of_cell? _ _ (h 0 x hx), hrs b (by rw [e]; rfl), h⟩
  have hk0 := alloc_get w (.cells #[.pointer (some ⟨bO, 0, none⟩), .pointer (some ⟨bY, 0, none⟩)] 26 (0, 0))
  have hmem := fun x (h : x ∈ sqO wo wy) => sqO_mem hlen0 hrec h
  have hpk : ∀ q ∈ pkQ mk (sqO wo wy), 0 ≤ q ∧ q < wo.length := fun q hq => by
    unfold pkQ at hq
    obtain ⟨x, hx, rfl⟩ := List.mem_map.1 hq
    have := hmem x (List.mem_filter.1 hx).1
    exact ⟨this.1, this.2.1⟩
  have hchk : chkI wy = 0 := by unfold chkI; rw [if_pos (show stopAt wy 0 = wy.length from hsound)]
  have hCk := fun W (H : Below w.heap.size w W) => check_any (hm.below H).yng hm.okY
  rw [hchk] at hCk
  have hRm := fun W (H : Below w.heap.size w W) => rem_any (hm.below H) hrec (ht.below H)
  have hms := hm.fresh
  have HM0 := Lib.hid hm
  have HT0 := Lib.hid ht
  have HO := Lib.hid hO
  have HB0 := Lib.hid hb0
  have HK0 := Lib.hid hk0
  have HRO := Lib.hid hroots
  have HPK := Lib.hid hpk
  have HCK := Lib.hid hCk
  have HRM := Lib.hid hRm
  have HMS := Lib.hid hms
  have HTS := Lib.hid hts
  have HG := Lib.hid (And.intro g1 (And.intro g2 g3))
  have HRM2 := Lib.hid hroom
  have HSO := Lib.hid hsound
  obtain ⟨n, hn⟩ : ∃ n, w.heap.size = n := ⟨_, rfl⟩
  have HN := Lib.hid hn
  clear hm ht hO hb0 hk0 hroots hmem hpk hCk hRm hms hts g1 g2 g3 hroom hsound hchk hrow hrs hrec
  go_enter Try.func6, Try.ntmps6
  go_wp2_with fail
  refine HO.out.mono ?_
  rintro e w2 ⟨L, vL, rfl, hrL, hOrd, hb2⟩
  obtain ⟨aL, cL, rfl, hcL, hcL63⟩ := row_form hrL
  have hB2 := bchain hb2 HB0.out
  have hk2 := bblock hb2 HK0.out
  rw [hn] at hk2
  have hRL := rown_in hrL
  rw [World.size_alloc, hn] at hRL
  have hsz2 : n < w2.heap.size := (Array.getElem?_eq_some_iff.1 hk2).1
  have k0 : w2.cell? ⟨n, 0, none⟩ = some (.pointer (some ⟨bO, 0, none⟩)) := by rw [cell_of_block hk2]; rfl
  have k1 : w2.cell? ⟨n, 1, none⟩ = some (.pointer (some ⟨bY, 0, none⟩)) := by rw [cell_of_block hk2]; rfl
  have HORD := Lib.hid hOrd
  have HB2 := Lib.hid hB2
  have HB20 := Lib.hid hb2
  have HRL := Lib.hid hRL
  have hLl : L.length ≤ 4000 := by
    have := trail_len hOrd.nd (fun s hs => (hOrd.yo s hs).2.1)
    omega
  clear hb2 hrL hB2 hRL HO hk2 hOrd
  go_wp2_with fail
  refine (HCK.out _ HB2.out).mono ?_
  rintro e w3 ⟨rfl, hb3⟩
  have HB3 := Lib.hid (bchain hb3 HB2.out)
  have HB32 := Lib.hid hb3
  have k0 := bcellv hb3 k0
  have k1 := bcellv hb3 k1
  have hsz3 : w2.heap.size ≤ w3.heap.size := hb3.size
  clear hb3 HCK
  go_wp2_with fail
  refine (HRM.out _ HB3.out).mono ?_
  rintro e w4 ⟨vR, rfl, hrR, hb4⟩
  obtain ⟨aR, cR, rfl, hcR, hcR63⟩ := row_form hrR
  have hRR := rown_in hrR
  have HB4 := Lib.hid (bchain hb4 HB3.out)
  have HRR := Lib.hid hRR
  have k0 := bcellv hb4 k0
  have k1 := bcellv hb4 k1
  have hsz4 : w3.heap.size ≤ w4.heap.size := hb4.size
  have HB42 := Lib.hid (show Below w2.heap.size w2 w4 from bchain hb4 HB32.out)
  have k04 := k0
  have k14 := k1
  clear hrR hRR hb4 HRM
  have hb4d := Below.drew (Below.refl w4.heap.size w4)
  have hm4 := HM0.out.below (show Below w.heap.size w w4.drew from bchain hb4d HB4.out)
  have hCl := space_clone hm4.old hm4.okO
  have HCL := Lib.hid hCl
  have HB4D := Lib.hid hb4d
  have hroomL := HRM2.out L HORD.out.nd HORD.out.yo HORD.out.re
  have hplace : ∀ (w5 : World) (bC : Nat) (gC : Option Nat), SpAt w5 bC 0 lo wo gC → w4.heap.size ≤ bC → (∀ G, gC = some G → w4.heap.size ≤ G) → Below w4.heap.size w4 w5 → Calls Try.prog 18 #[.agg #[.pointer (some ⟨bO, 0, none⟩), .pointer (some ⟨bY, 0, none⟩)], .pointer (some ⟨bC, 0, none⟩), .slice aL L.length cL] w5 fun e w6 => ∃ mbx, e = .returned (.tuple #[.map (some mbx), .int .i64 0]) ∧ Below w4.heap.size w4 w6 := by
    intro w5 bC gC hs hbC hgC hb5
    have hm5 := HM0.out.below (bchain hb5 HB4.out)
    have hlt := hs.lt
    have hpl := place_any (plr_clone hm5 (sp := bC) (wC := w4.heap.size) (fun k hk => by
      by_cases hc : w.heap.size ≤ k
      · exact absurd hk (HMS.out k hc)
      · have := HB4.out.size; omega) ⟨hbC, hlt⟩ hb5.size HORD.out.yo hroomL) (g0 := gC) ⟨hm5, hs, hm5.okO, hgC⟩ hlt (fun G e => hs.glt G e) (A := aL) (cap := cL)
      (((HRL.out.mods (Mods.of_below (S := fun _ => False) (show Below w2.heap.size w2 w5 from (HB42.out.trans (hb5.mono (by omega))))) (fun _ _ h => h.elim))).sub (fun k _ hk => by
        rcases hk with e | e
        · right; omega
        · have := hgC k e; right; omega)) hcL hcL63 HORD.out.nd (fun a ha => by have := HE_rng hm5 (HORD.out.yo a ha).2.1; omega) (by omega)
    refine hpl.mono ?_
    rintro e w6 ⟨mbx, g', rfl, _, _, hM, _, _, _⟩
    exact ⟨mbx, rfl, hb5.trans (hM.below hb5.size (fun k hk => by
      rcases hk with e | e
      · omega
      · exact hgC k e))⟩
  have HPLACE := Lib.hid hplace
  clear hplace hm4 hCl hb4d
  go_wp2_with fail
  go_region_held3 (fun w' => w'.cell? ⟨n, 0, none⟩ = some (.pointer (some ⟨bO, 0, none⟩)) ∧ w'.cell? ⟨n, 1, none⟩ = some (.pointer (some ⟨bY, 0, none⟩))) (first | (with_reducible exact ⟨k0, k1⟩) | go_keep) (first
    | (go_at_call 19; refine HCL.out.mono ?_; rintro e w5 ⟨bC, gC, rfl, hsC, hbC, hgC, hb5⟩; have hb5' := (show Below w4.heap.size w4 w5 from bchain hb5 HB4D.out); have k0 := bcellv hb5' k0; have k1 := bcellv hb5' k1; have zn5 : n < w5.heap.size := (by have := hb5'.size; omega); have HPL := Lib.hid (HPLACE.out w5 bC gC hsC hbC hgC hb5'); clear hsC hbC hgC hb5 hb5')
    | (go_at_call 18; refine HPL.out.mono ?_; rintro e w6 ⟨mbx, rfl, hb6⟩; have k0 := bcellv hb6 (show w4.cell? _ = _ from k04); have k1 := bcellv hb6 (show w4.cell? _ = _ from k14); have HB6 := Lib.hid hb6; clear hb6))
  all_goals (try go_wp2_with fail)
  have hB6w : Below w.heap.size w w6 := HB6.out.mono (by have := HB4.out.size; omega) |> HB4.out.trans
  have hm6 := HM0.out.below hB6w
  have hL6 : RowN w6 (fun k => k < n + 1 ∨ w2.heap.size ≤ k) aL L := HRL.out.mods (Mods.of_below (S := fun _ => False) (HB42.out.trans (HB6.out.mono (by omega)))) (fun _ _ h => h.elim)
  have hR6 : RowN w6 (fun k => k < w3.heap.size ∨ w4.heap.size ≤ k) aR (pkQ mk (sqO wo wy)) := HRR.out.mods (Mods.of_below (S := fun _ => False) HB6.out) (fun _ _ h => h.elim)
  have hbO : ∀ k, SpS bO gO k → k < n := fun k hk => by
    by_cases hc : w.heap.size ≤ k
    · exact absurd (.inl hk) (HMS.out k hc)
    · omega
  have hpo := place_any (plr_old hm6 HORD.out.yo (HRM2.out L HORD.out.nd HORD.out.yo HORD.out.re)) (g0 := gO) hm6 hm6.old.lt (fun G e => hm6.old.glt G e) (A := aL) (cap := cL) (hL6.sub (fun k _ hk => .inl (by have := hbO k hk; omega))) hcL hcL63 HORD.out.nd (fun a ha => by have := HE_rng hm6 (HORD.out.yo a ha).2.1; omega) (by omega)
  have kn6 : w6.heap[n]? = some (.cells #[.pointer (some ⟨bO, 0, none⟩), .pointer (some ⟨bY, 0, none⟩)] 26 (0, 0)) := by
    have h0 := HK0.out
    rw [hn] at h0
    exact bblock (HB6.out) (bblock HB42.out (bblock HB20.out h0))
  have HPO := Lib.hid hpo
  have HB6W := Lib.hid hB6w
  have HL6 := Lib.hid hL6
  have HR6 := Lib.hid hR6
  have KN6 := Lib.hid kn6
  have HBO := Lib.hid hbO
  have hsz6 : w4.heap.size ≤ w6.heap.size := HB6.out.size
  clear hpo hm6 hL6 hR6 kn6 hbO hB6w HB6 k04 k14
  go_wp2_with fail
  refine HPO.out.mono ?_
  rintro e w7 ⟨mb, g1, rfl, hmp, hm7, hM7, hmb, hg1, hgm⟩
  have hn7 : ¬ SpS bO gO n := fun e => by have := HBO.out n e; omega
  have hkn7 := mblock hM7 KN6.out hn7
  have hcst : Cst (w7.alloc (.cells #[.map (some mb)] 55)) (MS bO bY g1 gY) n w7.heap.size mb tb mb0 bO bY (clS wo wy L) mk aL L aR (pkQ mk (sqO wo wy)) ra rl := by
    have hbal := balloc (Below.refl _ w7) (.cells #[.map (some mb)] 55)
    have hz := hM7.size
    have hNS : ∀ k, MS bO bY g1 gY k → k < n ∨ (w6.heap.size ≤ k ∧ g1 = some k) := fun k hk => by
      rcases MS_new hg1 hk with h | h
      · left
        by_cases hc : w.heap.size ≤ k
        · exact absurd h (HMS.out k hc)
        · omega
      · exact .inr h
    have hsub : ∀ k, SpS bO gO k → MS bO bY gO gY k := fun k hk => .inl hk
    have ht6 := HT0.out.below HB6W.out
    have ltb := (Array.getElem?_eq_some_iff.1 HT0.out.blk).1
    have ltm : mb0 < w.heap.size := by
      obtain ⟨D, h1, _⟩ := HT0.out.sn
      exact h1.lt
    have hM8 : Mods (SpS bO gO) w6 (w7.alloc (.cells #[.map (some mb)] 55)) := hM7.alloc _
    refine ⟨⟨bblock hbal hkn7, alloc_get _ _, hmp.below hbal⟩, ht6.mods hM8 (fun e => HTS.out.1 (hsub _ e)) (fun e => HTS.out.2 (hsub _ e)), ?_, ?_, ?_, ?_, ?_, ?_, ?_, ?_⟩
    · exact (HL6.out.mods hM8 (fun k _ hk => .inl (by have := HBO.out k hk; omega))).sub (fun k _ hk => by
        rcases hNS k hk with h | h
        · left; omega
        · right; omega)
    · exact (HR6.out.mods hM8 (fun k _ hk => .inl (by have := HBO.out k hk; omega))).sub (fun k _ hk => by
        rcases hNS k hk with h | h
        · left; omega
        · right; omega)
    · have hr6 : WrdN w6 (fun k => MS bO bY gO gY k ∨ n ≤ k) ra rl := by
        rcases HRO.out with h | ⟨b, off, e, h1, h2, h3⟩
        · exact .inl h
        · exact .inr ⟨b, off, e, Nat.lt_of_lt_of_le h1 HB6W.out.size, fun h => by
            rcases h with h | h
            · exact h2 h
            · omega, fun i a ha => bcellv HB6W.out (h3 i a ha)⟩
      exact (hr6.mods hM8 (fun k _ hk => .inl (hsub k hk))).sub (fun k _ hk => by
        rcases MS_new hg1 hk with h | h
        · exact .inl h
        · right; omega)
    · intro e
      rcases hNS n e with h | h
      · omega
      · omega
    · exact hm7.fresh _ (Nat.le_refl _)
    · intro e
      rcases hNS mb e with h | h
      · omega
      · exact hgm h.2
    · intro e
      rcases MS_new hg1 e with h | h
      · exact HTS.out.1 h
      · omega
    · intro e
      rcases MS_new hg1 e with h | h
      · exact HTS.out.2 h
      · omega
  have hm8 := hm7.below (balloc (Below.refl _ w7) (.cells #[.map (some mb)] 55))
  have hM8 : Mods (MS bO bY gO gY) w (w7.alloc (.cells #[.map (some mb)] 55)) := ((Mods.of_below (S := MS bO bY gO gY) HB6W.out).trans hM7 (fun i hi => .inl (.inl hi))).alloc _
  have hg1w : ∀ k, MS bO bY g1 gY k → MS bO bY gO gY k ∨ w.heap.size ≤ k := fun k hk => by
    rcases MS_new hg1 hk with h | h
    · exact .inl h
    · right; omega
  have HG1W := Lib.hid hg1w
  have HM8 := Lib.hid hm8
  have HMM8 := Lib.hid hM8
  have HC8 := Lib.hid hcst
  clear hmp hm7 hM7 hgm hn7 hkn7 hcst hm8 hM8 hg1w HPO
  go_wp2_with fail
  obtain ⟨bt, hbt⟩ : ∃ b, w7.heap.size = b := ⟨_, rfl⟩
  obtain ⟨w8, hw8⟩ : ∃ W, w7.alloc (.cells #[.map (some mb)] 55) = W := ⟨_, rfl⟩
  rw [hw8] at HC8 HM8 HMM8 ⊢
  rw [hbt] at HC8 ⊢
  clear hw8 hbt
  have hwp0 : ((plW (nWd wo wy) wo L).length : Int) ≤ 16777216 := by have := HRM2.out L HORD.out.nd HORD.out.yo HORD.out.re; omega
  have hwp1 := plW_mono (nWd wo wy) L wo
  have hS : ∀ a ∈ L, (toF (clS wo wy L) a).isSome = true := fun a ha => by
    obtain ⟨d, e, _⟩ := clS_get (wo := wo) (wy := wy) ha
    rw [e]; rfl
  have hMx0 : ∀ q ∈ pkQ mk (sqO wo wy), Mx wo wy (clS wo wy L) ((plW (nWd wo wy) wo L).getD q.toNat 0) := fun q hq => by
    obtain ⟨q0, q1⟩ := HPK.out q hq
    have e : (plW (nWd wo wy) wo L).getD q.toNat 0 = LD wo wy q := by
      rw [LD_o q0 q1 hlen0]
      exact plW_getD (nWd wo wy) L wo q.toNat (by omega)
    rw [e]
    have hg := HG.out.2.1 q hq
    exact ⟨hg.1, fun hy => ⟨(hg.2 hy).1, hS _ (HORD.out.rm q hq hy)⟩⟩
  have hMxR := fun t => rmW_Mx hwp0 ((pkQ mk (sqO wo wy)).take t) (plW (nWd wo wy) wo L) (pkQ mk (sqO wo wy)) (fun q hq => List.mem_of_mem_take hq) hMx0
  have HMXR := Lib.hid hMxR
  have HSM := Lib.hid hS
  obtain ⟨R, hR⟩ : ∃ R, pkQ mk (sqO wo wy) = R := ⟨_, rfl⟩
  obtain ⟨S, hS'⟩ : ∃ S, clS wo wy L = S := ⟨_, rfl⟩
  obtain ⟨wp, hwp⟩ : ∃ W, plW (nWd wo wy) wo L = W := ⟨_, rfl⟩
  have HCLO := Lib.hid (show clO wo wy mk L = coW wo wy S (rmW S wp R) L by unfold clO; rw [hS', hwp, hR])
  have HSE := Lib.hid hS'
  have HWP := Lib.hid hwp
  rw [hS'] at HC8 HMXR HSM
  rw [hR] at HC8 HMXR HPK hcR ⊢
  rw [hwp] at HM8 HMXR hwp0 hwp1
  clear hMx0 hMxR hS hS' hwp hR
  go_loopw [65] (fun q wr => ∃ t : Nat, t ≤ R.length ∧ q = .int .i64 t ∧ MemAt wr bO bY lo ly (rmW S wp (R.take t)) wy g1 gY ∧ Mods (MS bO bY g1 gY) w8 wr) (fun q _ => R.length - (intOf q).toNat)
  case atStart => exact ⟨0, Nat.zero_le _, rfl, HM8.out, Mods.refl _ _⟩
  case round =>
    obtain ⟨t, htl, rfl, hmr, hM⟩ := hrel
    have hC := HC8.out.mods hM
    have k0 : wr.cell? ⟨n, 0, none⟩ = some (.pointer (some ⟨bO, 0, none⟩)) := by rw [cell_of_block hC.mv.km]; rfl
    have k1 : wr.cell? ⟨n, 1, none⟩ = some (.pointer (some ⟨bY, 0, none⟩)) := by rw [cell_of_block hC.mv.km]; rfl
    have zn : n < wr.heap.size := (Array.getElem?_eq_some_iff.1 hC.mv.km).1
    by_cases hlt : t < R.length
    · obtain ⟨q, hq⟩ : ∃ q, R[t]? = some q := ⟨_, List.getElem?_eq_getElem hlt⟩
      rcases hC.rR with h0 | ⟨b, off, rfl, hbz, hbn, hA⟩
      · rw [h0] at hlt; simp at hlt
      have ca := hA t q hq
      have cb := World.block_lt_of_cell? _ _ ca
      obtain ⟨q0, q1⟩ := HPK.out q (List.mem_of_getElem? hq)
      have hcl := rmW_len S (R.take t) wp
      have hLd := mload_any hmr q
      rw [LD_o q0 (by omega) (by omega)] at hLd
      have hmx := Mx_y (wo' := rmW S wp (R.take t)) (HMXR.out t q (List.mem_of_getElem? hq))
      have HSN := Lib.hid (show rmW S wp (R.take (t + 1)) = (rmW S wp (R.take t)).set q.toNat (mvS S ((rmW S wp (R.take t)).getD q.toNat 0)) by rw [take_snoc7 hq, rmW_snoc])
      obtain ⟨d, hd'⟩ : ∃ d : Nat, q = (d : Int) := ⟨q.toNat, by omega⟩
      have hst := fun u => stO_old (wo := rmW S wp (R.take t)) (wy := wy) (d := d) (by omega) (by omega) u
      rw [show q.toNat = d by omega] at hLd hmx HSN
      subst hd'
      have hu := mvS_u (S := S) hmx.1
      have s1 : ((t : Int)).toNat = t := by omega
      have hd : decide ((t : Int) < (R.length : Int)) = true := by simpa using hlt
      have HSTO := Lib.hid hst
      have HMR := Lib.hid hmr
      have HCC := Lib.hid hC
      have HM := Lib.hid hM
      have HMX := Lib.hid hmx
      obtain ⟨cur, hcur⟩ : ∃ c, rmW S wp (R.take t) = c := ⟨_, rfl⟩
      rw [hcur] at HSTO HMR HMX HSN hLd hu
      obtain ⟨x, hx⟩ : ∃ x, cur.getD d 0 = x := ⟨_, rfl⟩
      rw [hx] at hLd HMX HSN hu
      clear hst hmr hC hM hmx hA hcur hx hq hcl
      go_wp2_with fail
      refine hLd.mono ?_
      rintro e w9 ⟨rfl, hb9⟩
      have k0 := bcellv hb9 k0
      have k1 := bcellv hb9 k1
      have zn9 : n < w9.heap.size := by have := hb9.size; omega
      have hb9d := Below.drew (Below.refl w9.heap.size w9)
      have hb9x : Below wr.heap.size wr w9.drew := bchain hb9d hb9
      have hMv := moved_any (HMR.out.below hb9x) (HCC.out.below hb9x).mv x HMX.out
      have HMV := Lib.hid hMv
      have HB9 := Lib.hid hb9x
      have hdv : (d : Int) = (d : Int) := rfl
      clear hLd hb9 hMv ca
      go_wp2_with fail
      go_region_held3 (fun w' => w'.cell? ⟨n, 0, none⟩ = some (.pointer (some ⟨bO, 0, none⟩)) ∧ w'.cell? ⟨n, 1, none⟩ = some (.pointer (some ⟨bY, 0, none⟩))) (first | (with_reducible exact ⟨k0, k1⟩) | go_keep) (first
        | (go_at_call 20; refine HMV.out.mono ?_; rintro e w10 ⟨rfl, hb10⟩; have k0 := bcellv hb10 (show w9.drew.cell? _ = _ from k0); have k1 := bcellv hb10 (show w9.drew.cell? _ = _ from k1); have HB10 := Lib.hid (show Below wr.heap.size wr w10 from bchain hb10 HB9.out); clear hb10)
        | (go_at_call 24; refine (mstore_any (HMR.out.below HB10.out) (d : Int) (mvS S x) hu).mono ?_; rintro e w11 ⟨rfl, hm11, hM11⟩; have kk := mblock hM11 (HCC.out.below HB10.out).mv.km (HCC.out.below HB10.out).nn.1; have k0 : w11.cell? ⟨n, 0, none⟩ = some (.pointer (some ⟨bO, 0, none⟩)) := (by rw [cell_of_block kk]; rfl); have k1 : w11.cell? ⟨n, 1, none⟩ = some (.pointer (some ⟨bY, 0, none⟩)) := (by rw [cell_of_block kk]; rfl); have HM11 := Lib.hid hm11; have HMM11 := Lib.hid hM11; clear hm11 hM11 kk))
      all_goals (try go_wp2_with fail)
      have hm11 := HM11.out
      rw [(HSTO.out _).1, (HSTO.out _).2, ← HSN.out] at hm11
      have hMt : Mods (MS bO bY g1 gY) w8 w11 := HM.out.trans ((Mods.of_below (S := MS bO bY g1 gY) HB10.out).trans HMM11.out (fun i hi => .inl hi)) (fun i hi => .inl hi)
      have HF := Lib.hid (And.intro hm11 hMt)
      clear hm11 hMt k0 k1 HM11 HMM11
      go_roundw
      case rel => exact ⟨t + 1, by omega, by go_num, HF.out.1, HF.out.2⟩
      case measure => simp [intOf]; omega
    · have htR : t = R.length := by omega
      subst htR
      rw [List.take_length] at hmr
      have hd : decide ((R.length : Int) < (R.length : Int)) = false := by simp
      obtain ⟨wo9, hwo9⟩ : ∃ W, W = wr := ⟨_, rfl⟩
      subst hwo9
      have hcl := rmW_len S R wp
      obtain ⟨cr, hcr⟩ : ∃ c, rmW S wp R = c := ⟨_, rfl⟩
      rw [hcr] at HCLO hmr hcl
      have HM9 := Lib.hid hmr
      have HMM9 := Lib.hid hM
      clear hmr hM hC hcr k0 k1 HM8 HMXR
      go_wp2_with fail
      go_loopw [84] (fun q wr => ∃ t : Nat, t ≤ L.length ∧ q = .int .i64 t ∧ MemAt wr bO bY lo ly (coW wo wy S cr (L.take t)) wy g1 gY ∧ Mods (MS bO bY g1 gY) w8 wr) (fun q _ => L.length - (intOf q).toNat)
      case atStart => exact ⟨0, Nat.zero_le _, rfl, HM9.out, HMM9.out⟩
      case round =>
        obtain ⟨t, htl, rfl, hmr, hM⟩ := hrel
        have hC := HC8.out.mods hM
        have k0 : wr.cell? ⟨n, 0, none⟩ = some (.pointer (some ⟨bO, 0, none⟩)) := by rw [cell_of_block hC.mv.km]; rfl
        have k1 : wr.cell? ⟨n, 1, none⟩ = some (.pointer (some ⟨bY, 0, none⟩)) := by rw [cell_of_block hC.mv.km]; rfl
        have kt : wr.cell? ⟨bt, 0, none⟩ = some (.map (some mb)) := by rw [cell_of_block hC.mv.kt]; rfl
        have zn : n < wr.heap.size := (Array.getElem?_eq_some_iff.1 hC.mv.km).1
        have zt : bt < wr.heap.size := (Array.getElem?_eq_some_iff.1 hC.mv.kt).1
        by_cases hlt : t < L.length
        · obtain ⟨a, ha⟩ : ∃ a, L[t]? = some a := ⟨_, List.getElem?_eq_getElem hlt⟩
          rcases hC.rL with h0 | ⟨b, off, rfl, hbz, hbn, hA⟩
          · rw [h0] at hlt; simp at hlt
          have ca := hA t a ha
          have cb := World.block_lt_of_cell? _ _ ca
          have hmem := List.mem_of_getElem? ha
          have hyo := HORD.out.yo a hmem
          have har := HE_rng HM0.out hyo.2.1
          obtain ⟨d, hd1, hd2⟩ := clS_get (wo := wo) (wy := wy) hmem
          rw [HSE.out] at hd1
          rw [HWP.out] at hd2
          have hnl := nWd_len hyo
          have hlk := hC.mv.mp.look1 (x := a) (by omega)
          rw [hd1, Option.getD_some] at hlk
          have hcl2 := coW_len wo wy S (L.take t) cr
          have hHF := (HE_y (wo := coW wo wy S cr (L.take t)) (wo' := wo) (wy := wy) hyo.1).2.2.2
          have hCp := copy_any hmr hC.mv ⟨hC.nn.1, hC.nn.2.1, hC.nn.2.2.1⟩ a (YO_y hyo) d (by rw [hHF]; omega) (fun j j0 j1 => by
            rw [hHF] at j1
            have hya := hyo.1
            rw [LD_y (wo' := wo) (by omega)]
            have hg := HG.out.2.2 a hyo (HORD.out.re a hmem) j j0 j1
            exact ⟨hg.1, fun hy => ⟨YO_y (hg.2 hy).1, HSM.out _ (HORD.out.cl a hmem j j0 j1 hy)⟩⟩)
          rw [hHF] at hCp
          have HSN := Lib.hid (show coW wo wy S cr (L.take (t + 1)) = cpW wy S a (HF wo wy a) d (coW wo wy S cr (L.take t)) ((wordsI (HF wo wy a)).toNat - 2) by rw [take_snoc7 ha, coW_snoc, hd1]; rfl)
          have s1 : ((t : Int)).toNat = t := by omega
          have hd : decide ((t : Int) < (L.length : Int)) = true := by simpa using hlt
          have HM := Lib.hid hM
          have HCP := Lib.hid hCp
          clear hmr hM hC hA hCp hd1 hd2 hnl hcl2 hHF hyo hmem ha har
          go_wp2_with fail
          refine HCP.out.mono ?_
          rintro e w11 ⟨rfl, hm11, hM11⟩
          rw [← HSN.out] at hm11
          have HF := Lib.hid (And.intro hm11 (HM.out.trans hM11 (fun i hi => .inl hi)))
          clear hm11 hM11 k0 k1 kt ca hlk
          go_wp2_with fail
          go_roundw
          case rel => exact ⟨t + 1, by omega, by go_num, HF.out.1, HF.out.2⟩
          case measure => simp [intOf]; omega
        · have htL : t = L.length := by omega
          subst htL
          rw [List.take_length, ← HCLO.out] at hmr
          have hd : decide ((L.length : Int) < (L.length : Int)) = false := by simp
          obtain ⟨wo10, hwo10⟩ : ∃ W, W = wr := ⟨_, rfl⟩
          subst hwo10
          obtain ⟨i0, hi0, hz0, hz1, hz2⟩ := info_parts u64_info
          have hml : maxLen = 9223372036854775807 := rfl
          have HM10 := Lib.hid hmr
          have HMM10 := Lib.hid hM
          have HC10 := Lib.hid hC
          have HLx := Lib.hid (show (clO wo wy mk L).length ≤ 16777216 by have := hmr.okO.top; have := hmr.lim; omega)
          clear hmr hM hC k0 k1 kt HM9 HMM9 HC8
          go_wp2_with fail
          go_loopw [23, 98] (fun p q wq => ∃ t : Nat, t ≤ rl.length ∧ q = .int .i64 t ∧ wq.ownsRow wo10.heap.size 49 1 p t (((rl.take t).map (mvS S)).map (Value.int .u64)) ∧ Below wo10.heap.size wo10 wq) (fun _ q _ => rl.length - (intOf q).toNat)
          case atStart => exact ⟨0, Nat.zero_le _, rfl, by simpa using World.ownsRow_nil _ _ _ _, Below.refl _ _⟩
          case round =>
            obtain ⟨t, htl, rfl, hown, hB⟩ := hrel
            by_cases hlt : t < rl.length
            · obtain ⟨x, hx⟩ : ∃ x, rl[t]? = some x := ⟨_, List.getElem?_eq_getElem hlt⟩
              rcases HC10.out.rt with h0 | ⟨b, off, rfl, hbz, hbn, hA⟩
              · rw [h0] at hlt; simp at hlt
              have ca := bcellv hB (hA t x hx)
              have cb := World.block_lt_of_cell? _ _ ca
              have hg := HG.out.1 x (List.mem_of_getElem? hx)
              have hmx : Mx (clO wo wy mk L) wy S x := ⟨hg.1, fun hy => ⟨YO_y (hg.2 hy).1, HSM.out _ (HORD.out.rt x (List.mem_of_getElem? hx) hy)⟩⟩
              have hMv := moved_any (HM10.out.below hB) (HC10.out.below hB).mv x hmx
              have HSN := Lib.hid (show ((rl.take (t + 1)).map (mvS S)).map (Value.int .u64) = ((rl.take t).map (mvS S)).map (Value.int .u64) ++ [.int .u64 (mvS S x)] by rw [take_snoc7 hx]; simp)
              have s1 : ((t : Int)).toNat = t := by omega
              have hd : decide ((t : Int) < (rl.length : Int)) = true := by simpa using hlt
              have HMV := Lib.hid hMv
              have HOW := Lib.hid hown
              have HBB := Lib.hid hB
              obtain ⟨y, hy⟩ : ∃ y, mvS S x = y := ⟨_, rfl⟩
              rw [hy] at HMV HSN
              clear hA hg hmx hMv hown hB hx hy
              go_wp2_with fail
              refine HMV.out.mono ?_
              rintro e w12 ⟨rfl, hb12⟩
              have hown12 := row_below7 HOW.out hb12
              have hB12 := bchain hb12 HBB.out
              clear ca hb12
              go_wp2_with (at_builtin; refine wpList_append_own _ rfl _ _ 28 rfl wo10.heap.size 49 i0 (.int .u64 0) 1 8 Try.underlying28 hi0 hz0 hz1 hz2 rfl (by decide) _ _ _ rfl (hown12.alloc _) ⟨w12.heap.size, 0, none⟩ 1 1 [.int .u64 y] rfl rfl (cell_one_new _ _ _) (by simp [Value.oneCell']) (by omega) (by omega) (by simp; have := hB12.size; omega) ?_; intro v' w13 hown' hgrow _)
              have hB13 : Below wo10.heap.size wo10 w13 := (hB12.alloc (Nat.le_trans hB12.size (Nat.le_refl _)) _).grown hgrow (by simp; have := hB12.size; omega) (fun k e => by have := (hown12.lt k e).1; omega)
              go_wp2
              go_roundw
              case rel => exact ⟨t + 1, by omega, by go_num, by rw [HSN.out]; exact hown', hB13⟩
              case measure => simp [intOf]; omega
            · have htr : t = rl.length := by omega
              subst htr
              rw [List.take_length] at hown
              have hd : decide ((rl.length : Int) < (rl.length : Int)) = false := by simp
              obtain ⟨aX, cX, rfl, hcX, hcX63⟩ := row_form hown
              have hb14d := Below.drew (Below.refl wr.heap.size wr)
              have hC := HC10.out.below hB
              have k0 : wr.cell? ⟨n, 0, none⟩ = some (.pointer (some ⟨bO, 0, none⟩)) := by rw [cell_of_block hC.mv.km]; rfl
              have k1 : wr.cell? ⟨n, 1, none⟩ = some (.pointer (some ⟨bY, 0, none⟩)) := by rw [cell_of_block hC.mv.km]; rfl
              have zn : n < wr.heap.size := (Array.getElem?_eq_some_iff.1 hC.mv.km).1
              have hm14 := HM10.out.below (bchain hb14d hB)
              have HB14 := Lib.hid (bchain hb14d hB)
              have HOW := Lib.hid (row_below7 hown hb14d)
              have hBs := base_any hm14.yng
              have hTr := fun (W : World) (H : Below wr.drew.heap.size wr.drew W) => truncate_any (hm14.below H).yng hm14.okY 16777216
              rw [trW_base HSO.out] at hTr
              have HBS := Lib.hid hBs
              have HTR := Lib.hid hTr
              have HM14 := Lib.hid hm14
              clear hm14 hC hown hB hb14d hBs hTr
              go_wp2_with fail
              go_region_held3 (fun w' => w'.cell? ⟨n, 0, none⟩ = some (.pointer (some ⟨bO, 0, none⟩)) ∧ w'.cell? ⟨n, 1, none⟩ = some (.pointer (some ⟨bY, 0, none⟩))) (first | (with_reducible exact ⟨k0, k1⟩) | go_keep) (first
                | (go_at_call 10; refine HBS.out.mono ?_; rintro e w15 ⟨rfl, hb15⟩; have k0 := bcellv hb15 (show wr.drew.cell? _ = _ from k0); have k1 := bcellv hb15 (show wr.drew.cell? _ = _ from k1); have HB15 := Lib.hid hb15; clear hb15)
                | (go_at_call 26; refine (HTR.out _ HB15.out).mono ?_; rintro e w16 ⟨rfl, hn16⟩; obtain ⟨gY', hm16, hM16, hg16⟩ := mem_yng' (HM14.out.below HB15.out) hn16 (by refine ⟨HM14.out.okY.b0, ?_, HM14.out.okY.lm1, fun x hx => (by cases hx)⟩; have := HM14.out.okY.top; simp; omega); have hC16 := ((HC10.out.below HB14.out).below HB15.out).mods hM16; have k0 : w16.cell? ⟨n, 0, none⟩ = some (.pointer (some ⟨bO, 0, none⟩)) := (by rw [cell_of_block hC16.mv.km]; rfl); have k1 : w16.cell? ⟨n, 1, none⟩ = some (.pointer (some ⟨bY, 0, none⟩)) := (by rw [cell_of_block hC16.mv.km]; rfl); have HM16 := Lib.hid hm16; have HMM16 := Lib.hid hM16; have HG16 := Lib.hid hg16; have HC16 := Lib.hid hC16; clear hn16 hm16 hM16 hg16 hC16))
              all_goals (try go_wp2_with fail)
              refine (clear_any HC16.out.tab).mono ?_
              rintro e w17 ⟨rfl, ht17, hM17⟩
              have hMS' : ∀ k, MS bO bY g1 gY' k → k < wo10.heap.size ∨ w15.heap.size ≤ k := fun k hk => by
                have hold : MS bO bY g1 gY k → k < wo10.heap.size := fun h => by
                  by_cases hc : wo10.heap.size ≤ k
                  · exact absurd h (HM10.out.fresh k hc)
                  · omega
                rcases hk with e | (e | e)
                · exact .inl (hold (.inl e))
                · exact .inl (hold (.inr (.inl e)))
                · rcases HG16.out k e with h | h
                  · exact .inl (hold (.inr (.inr h)))
                  · exact .inr h
              have hmsold : ∀ k, MS bO bY g1 gY k → MS bO bY gO gY k ∨ w.heap.size ≤ k := HG1W.out
              have hsz15 := HB15.out.size
              have hsz14 := HB14.out.size
              have hsz10 : w.heap.size ≤ wo10.heap.size := Nat.le_trans HMM8.out.size HMM10.out.size
              have hmb : mb0 < w.heap.size := by
                obtain ⟨D, h1, _⟩ := HT0.out.sn
                exact h1.lt
              have hnmb : ¬ MS bO bY g1 gY' mb0 := fun hk => by
                rcases hk with e | (e | e)
                · exact HC16.out.nn.2.2.2.2 (.inl e)
                · exact HC16.out.nn.2.2.2.2 (.inr (.inl e))
                · rcases HG16.out mb0 e with h | h
                  · exact HC16.out.nn.2.2.2.2 (.inr (.inr h))
                  · have : wr.drew.heap.size = wr.heap.size := rfl
                    omega
              have hrowm : ∀ G, (Value.slice aX rl.length cX).ownBlock = some G → wo10.heap.size ≤ G ∧ G < w15.heap.size := fun G e => by
                have h1 := row_lt HOW.out G e
                exact ⟨h1.2, by have : wr.drew.heap.size = wr.heap.size := rfl; omega⟩
              have hrow17 := row_keep7 (row_keep7 (row_below7 HOW.out HB15.out) (fun G o e ho => mblock HMM16.out ho (fun hk => by
                have := hrowm G e
                exact HM10.out.fresh G this.1 hk))) (fun G o e ho => mblock hM17 ho (by have := hrowm G e; omega))
              have hWv : WrdsV w17 (.slice aX rl.length cX) (rl.map (mvS S)) := by
                refine WrdsV.of_row (B := wo10.heap.size) ?_
                rw [List.length_map]
                exact hrow17
              have hMtot : Mods (fun k => MS bO bY gO gY k ∨ k = mb0) w w17 := by
                have m1 : Mods (fun k => MS bO bY gO gY k ∨ k = mb0) w wo10 := (HMM8.out.mono (S1 := fun k => MS bO bY gO gY k ∨ k = mb0) (fun k h => .inl h)).trans HMM10.out (fun k hk => (hmsold k hk).imp .inl id)
                have m2 : Mods (fun k => MS bO bY gO gY k ∨ k = mb0) w w15 := (m1.trans (Mods.of_below (S := fun _ => False) HB14.out) (fun i hi => hi.elim)).trans (Mods.of_below (S := fun _ => False) HB15.out) (fun i hi => hi.elim)
                have m3 : Mods (fun k => MS bO bY gO gY k ∨ k = mb0) w w16 := m2.trans HMM16.out (fun k hk => (hmsold k hk).imp .inl id)
                exact m3.trans hM17 (fun k hk => .inl (.inr hk))
              have hfin : ColP w bO bY lo ly wo wy gO gY tb mb0 mk rl (.returned (.tuple #[.slice aX rl.length cX, .int .i64 L.length, .int .i64 0])) w17 := by
                refine ⟨L, _, g1, gY', rfl, HORD.out, HM16.out.mods hM17 (fun k hk e => by rw [e] at hk; exact hnmb hk), ht17, ?_, hMtot, fun G e => ⟨fun hk => ?_, ?_⟩, fun k hk => ?_⟩
                · rw [HSE.out]; exact hWv
                · have h1 := hrowm G e
                  rcases hMS' G hk with h | h
                  · omega
                  · omega
                · have := hrowm G e; omega
                · rcases hk with e | (e | e)
                  · exact hmsold k (.inl e)
                  · exact hmsold k (.inr (.inl e))
                  · rcases HG16.out k e with h | h
                    · exact hmsold k (.inr (.inr h))
                    · right; omega
              have HFIN := Lib.hid hfin
              clear hfin hMtot hWv hrow17 hrowm hnmb hMS' hmsold ht17 hM17
              go_wp2
              exact bodyPost_ret (v := .tuple #[.slice aX rl.length cX, .int .i64 L.length, .int .i64 0]) (by simp [results, Try.results6, go_sem]) rfl HFIN.out
end Go.Proofs.Ytgjaafcagnkfdaa
