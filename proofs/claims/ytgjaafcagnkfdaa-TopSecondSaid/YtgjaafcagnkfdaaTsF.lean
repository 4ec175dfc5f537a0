/-
  barrier.crossing, barrier.Remembered.
-/
import Derived.Test.YtgjaafcagnkfdaaTsE
import Derived.Maps.OwnIn
namespace Go.Proofs.Ytgjaafcagnkfdaa
open Go.RowKit Go.Shelf
set_option linter.unusedSimpArgs false
set_option linter.unusedVariables false
attribute [local go_sem] Oper.semAt_some

theorem OutK.of_below {D : Nat} {A B : World} (hD : D < A.heap.size) (hb : Below A.heap.size A B) : OutK D A B :=
  ⟨hb.size, fun k o ho _ _ _ => (hb.block k (Array.getElem?_eq_some_iff.1 ho).1).trans ho, fun k hk => .inl (hk.of_eq (hb.block D hD))⟩
theorem OutK.app {W w1 : World} {D : Nat} {v v' : Value} {T : TypeId} {o : Obj} (hv : Boxed W D T v) (hg : (W.alloc o).grownBy w1 v.ownBlock) (hat : v'.ownBlock = v.ownBlock ∨ v'.ownBlock = some (W.alloc o).heap.size) (hv2 : Boxed (w1.setCell ⟨D, 0, none⟩ v') D T v') (hlt : ∀ G, v'.ownBlock = some G → G < w1.heap.size) : OutK D W (w1.setCell ⟨D, 0, none⟩ v') := by
  have hs := hg.size
  rw [World.size_alloc] at hs hat
  have e : (w1.setCell ⟨D, 0, none⟩ v').heap.size = w1.heap.size := by simp
  refine ⟨by rw [e]; omega, fun k o' ho _ hD hr => ?_, fun k hk => ?_⟩
  · have hk := (Array.getElem?_eq_some_iff.1 ho).1
    refine set_other ((hg.block k (by rw [World.size_alloc]; omega) (fun q => hr ⟨v, T, hv, q.symm⟩)).trans (alloc_lt o ho)) hD
  · obtain ⟨v1, T1, h1, h2⟩ := hk
    rw [show (w1.setCell ⟨D, 0, none⟩ v').heap[D]? = _ from hv2] at h1
    cases h1
    rcases hat with q | q
    · exact .inl ⟨v, T, hv, by rw [← q]; exact h2⟩
    · have := hlt k h2
      rw [q] at h2
      cases h2
      exact .inr ⟨by omega, by rw [e]; omega⟩
noncomputable def clq (l : List (Int × Int)) (x : Int × Int) : Int × Int := by
  classical
  exact if x ∈ l then x else (0, 0)
theorem clq_of {l : List (Int × Int)} {x : Int × Int} (h : x ∈ l) : clq l x = x := by unfold clq; rw [if_pos h]
theorem clq_or (l : List (Int × Int)) (x : Int × Int) : clq l x ∈ l ∨ clq l x = (0, 0) := by
  unfold clq
  split
  · exact .inl (by assumption)
  · exact .inr rfl
/-- Which slots are remembered. -/
def hitQ (mk : List Int) (x : Int × Int) : Bool := ldY x.2 && decide (x.1 / 16 ∈ mk)
def pkQ (mk : List Int) (l : List (Int × Int)) : List Int := (l.filter (hitQ mk)).map (fun x => x.1)
noncomputable def pkC (mk : List Int) (s l : List (Int × Int)) : List Int := pkQ mk (l.map (clq s))
theorem pkC_snoc (mk : List Int) (s l : List (Int × Int)) (x : Int × Int) : pkC mk s (l ++ [x]) = if hitQ mk (clq s x) then pkC mk s l ++ [(clq s x).1] else pkC mk s l := by
  unfold pkC pkQ
  rw [List.map_append, List.filter_append, List.map_append]
  simp only [List.map_cons, List.map_nil, List.filter_cons, List.filter_nil]
  split <;> simp_all
theorem pkC_len (mk : List Int) (s l : List (Int × Int)) : (pkC mk s l).length ≤ l.length := by
  unfold pkC pkQ
  rw [List.length_map]
  exact Nat.le_trans (List.length_filter_le _ _) (by rw [List.length_map]; exact Nat.le_refl _)
theorem pkC_all (mk : List Int) (s : List (Int × Int)) : pkC mk s s = pkQ mk s := by
  unfold pkC
  congr 1
  have : ∀ l : List (Int × Int), (∀ x ∈ l, x ∈ s) → l.map (clq s) = l := by
    intro l
    induction l with
    | nil => intro _; rfl
    | cons x l ih =>
      intro h
      rw [List.map_cons, clq_of (h x (by simp)), ih (fun y hy => h y (by simp [hy]))]
  exact this s (fun x hx => hx)
/-- The old slots. -/
def sqO (wo wy : List Int) : List (Int × Int) := slQ wo wy (objA 0 wo)
theorem slQ_len (wo wy : List Int) : ∀ l : List Int, (∀ a ∈ l, HE wo wy a = 0) → (slQ wo wy l).length ≤ 30 * l.length := by
  intro l
  induction l with
  | nil => intro _; simp [slQ]
  | cons a l ih =>
    intro h
    have h1 := ih (fun b hb => h b (by simp [hb]))
    have h2 := HE_bd (h a (by simp))
    have e : slQ wo wy (a :: l) = slW wo wy a ++ slQ wo wy l := rfl
    rw [e, List.length_append, slW_len, List.length_cons]
    omega
theorem objA_bd {wo : List Int} {a : Int} (h : a ∈ objA 0 wo) : 0 ≤ a ∧ a ≤ wo.length := by
  unfold objA at h
  obtain ⟨j, hj, rfl⟩ := List.mem_map.1 h
  have := (objs_bd (ws := wo) wo.length 0 (by omega) (by omega)).1 j hj
  omega
theorem objs_sz7 {ws : List Int} : ∀ (n i : Nat), ws.length - i ≤ n → i ≤ ws.length → ∀ o ∈ objs ws i, szB ws o = true := by
  intro n
  induction n with
  | zero =>
    intro i hn hi o ho
    cases hz : szB ws i
    · rw [objs_no hz] at ho; cases ho
    · have := szN_bd hz; omega
  | succ n ih =>
    intro i hn hi o ho
    cases hz : szB ws i
    · rw [objs_no hz] at ho; cases ho
    · have hb := szN_bd hz
      rw [objs_yes hz] at ho
      rcases List.mem_cons.1 ho with rfl | ho
      · exact hz
      · exact ih (i + szN ws i) (by omega) hb.2.2 o ho
theorem sz_of_obj {wo : List Int} {a : Int} (h : a ∈ objA 0 wo) : a + 1 < wo.length := by
  unfold objA at h
  obtain ⟨j, hj, rfl⟩ := List.mem_map.1 h
  have hz := objs_sz7 (ws := wo) wo.length 0 (by omega) (by omega) j hj
  have := szB_iff.1 hz
  omega
theorem sqO_mem {wo wy : List Int} (hl : (wo.length : Int) ≤ 16777216) (hrec : ∀ a ∈ objA 0 wo, HE wo wy a = 0 ∧ HK wo wy a = 0) {x : Int × Int} (h : x ∈ sqO wo wy) : 0 ≤ x.1 ∧ x.1 < wo.length ∧ x.2 = LD wo wy x.1 ∧ ∃ a j, a ∈ objA 0 wo ∧ 0 ≤ j ∧ j < HF wo wy a ∧ x.1 = a + 2 + j := by
  unfold sqO slQ at h
  obtain ⟨a, ha, hx⟩ := List.mem_flatMap.1 h
  unfold slW slA at hx
  simp only [List.map_map, List.mem_map, List.mem_range, Function.comp] at hx
  obtain ⟨j, hj, rfl⟩ := hx
  have hb := objA_bd ha
  have he := (hrec a ha).1
  obtain ⟨e1, e2, e3, e4⟩ := slot_rng hl he (j := (j : Int)) ⟨by omega, by omega⟩
  obtain ⟨h1, _, _, _⟩ := hd_bd (show hdE (bsA a) (wsA wo wy a) a = 0 from he)
  have h2 := inB_iff.1 h1
  have hlt : a < 16777216 := by
    by_cases hc : 16777216 ≤ a
    · exfalso
      have e0 : wsA wo wy a = wy := by unfold wsA; rw [if_pos hc]
      have : a = 16777216 ∧ (wo.length : Int) = 16777216 := by omega
      have hsz := sz_of_obj ha
      omega
    · omega
  have e0 : bsA a = 0 := by unfold bsA; rw [if_neg (by omega)]
  have e5 : wsA wo wy a = wo := by unfold wsA; rw [if_neg (by omega)]
  rw [e0, e5] at e4
  exact ⟨by dsimp only; omega, by dsimp only; omega, rfl, a, j, ha, by omega, by omega, rfl⟩
set_option maxRecDepth 100000 in
set_option maxHeartbeats 4000000 in
theorem crossing_any {w : World} {bO bY : Nat} {lo ly : Int} {wo wy : List Int} {gO gY : Option Nat} (hm : MemAt w bO bY lo ly wo wy gO gY) (hrec : ∀ a ∈ objA 0 wo, HE wo wy a = 0 ∧ HK wo wy a = 0) {tb mb : Nat} {mk : List Int} (ht : TabAt w tb mb mk) :
    Calls Try.prog 41 #[.agg #[.pointer (some ⟨bO, 0, none⟩), .pointer (some ⟨bY, 0, none⟩)], .func (.func 42) #[.pointer (some ⟨tb, 0, none⟩)] #[]] w fun e w' => ∃ v, e = .returned v ∧ w'.ownsRow w.heap.size 3 1 v (pkQ mk (sqO wo wy)).length ((pkQ mk (sqO wo wy)).map (Value.int .i64)) ∧ Below w.heap.size w w' := by
  obtain ⟨i0, hi, hz0, hz1, hz2⟩ := info_parts int_info
  have hlen0 : (wo.length : Int) ≤ 16777216 := by have := hm.okO.top; have := hm.lim; omega
  have hsl : (sqO wo wy).length ≤ 30 * wo.length := by
    have h1 := slQ_len wo wy (objA 0 wo) (fun a ha => (hrec a ha).1)
    have h2 := objs_len (ws := wo) wo.length 0 (by omega) (by omega)
    have h3 : (objA 0 wo).length = (objs wo 0).length := by unfold objA; simp
    unfold sqO
    omega
  have hml : maxLen = 9223372036854775807 := rfl
  refine (callsIn_wide (n := 9)).1 ?_
  refine callsIn_of_wp_marks Try.func41 rfl trivial ?_ rfl
  simp only [Try.ntmps41, List.size_toArray, List.length_cons, List.length_nil, Nat.reduceAdd, Nat.reduceSub, Array.replicate_succ, Array.replicate_zero, List.push_toArray, List.append_toArray, List.nil_append, List.cons_append]
  gi_wp2_with fail
  refine ⟨trivial, (callsIn_wide.2 (slots_any (lo := lo) (ly := ly) (wo := wo) (wy := wy) (gO := gO) (gY := gY) (hm.below (by (repeat (first | exact Below.refl _ _ | assumption | refine Below.drew ?_ | refine below_drewN ?_ _ | refine balloc ?_ _ | refine Below.setCell ?_ (by first | (simp; done) | (simp; omega) | omega) _ | refine bchain (by assumption) ?_)))))).mono ?_⟩
  rintro e w2 ⟨rfl, hw2⟩
  have hB0 : Below w.heap.size w w2 := by rw [hw2]; exact balloc (balloc (balloc (balloc (Below.refl _ _) _) _) _) _
  have hz : w2.heap.size = w.heap.size + 4 := by rw [hw2]; simp
  have bF : Boxed w2 (w.heap.size + 1) 79 (.func (.func 42) #[.pointer (some ⟨tb, 0, none⟩)] #[]) := by
    have := Boxed.new (w.alloc (.cells #[.pointer (some ⟨bO, 0, none⟩), .pointer (some ⟨bY, 0, none⟩)] 26)) 79 (.func (.func 42) #[.pointer (some ⟨tb, 0, none⟩)] #[])
    rw [World.size_alloc] at this
    rw [hw2]
    exact (this.alloc _).alloc _
  have bxO : Boxed w2 (w.heap.size + 2) 42 (.slice none 0 0) := by
    have := Boxed.new ((w.alloc (.cells #[.pointer (some ⟨bO, 0, none⟩), .pointer (some ⟨bY, 0, none⟩)] 26)).alloc (.cells #[.func (.func 42) #[.pointer (some ⟨tb, 0, none⟩)] #[]] 79)) 42 (.slice none 0 0)
    rw [World.size_alloc, World.size_alloc] at this
    rw [hw2]
    exact this.alloc _
  have hBn : w2.heap[w.heap.size + 3]? = some (.cells #[.pointer (some ⟨bO, 0, none⟩), .pointer (some ⟨bY, 0, none⟩)] 26 (0, 0)) := by
    rw [hw2]
    exact alloc_at _ (by simp)
  have hm2 := hm.below hB0
  have hf2 : FrS (w.heap.size + 2) (MK (w.heap.size + 3) bO bY gO gY) w2 := by
    have hnr : ∀ k, ¬ RowIn w2 (w.heap.size + 2) k := fun k ⟨v, T, h1, h2⟩ => by
      rw [show w2.heap[w.heap.size + 2]? = _ from bxO] at h1
      cases h1
      cases h2
    have l1 := hm.old.lt
    have l2 := hm.yng.lt
    refine ⟨by omega, fun k hk => absurd hk (hnr k), fun k hk => ⟨fun e => ?_, hnr k, ?_⟩⟩
    · rcases hk with e' | e' | e' | e' | e'
      · omega
      · omega
      · omega
      · have := hm.old.glt k e'; omega
      · have := hm.yng.glt k e'; omega
    · rcases hk with rfl | rfl | rfl | e' | e'
      · exact ⟨_, hBn, rfl⟩
      · obtain ⟨_, _, h1, _⟩ := hm2.old; exact ⟨_, h1, rfl⟩
      · obtain ⟨_, _, h1, _⟩ := hm2.yng; exact ⟨_, h1, rfl⟩
      · obtain ⟨_, _, _, ⟨_, _, h3⟩, _⟩ := hm2.old
        rcases h3 with ⟨h3, _⟩ | ⟨G, cur, h3, _, h4, _⟩
        · rw [h3] at e'; cases e'
        · rw [h3] at e'; cases e'; exact ⟨_, h4, rfl⟩
      · obtain ⟨_, _, _, ⟨_, _, h3⟩, _⟩ := hm2.yng
        rcases h3 with ⟨h3, _⟩ | ⟨G, cur, h3, _, h4, _⟩
        · rw [h3] at e'; cases e'
        · rw [h3] at e'; cases e'; exact ⟨_, h4, rfl⟩
  have hmu := fun a => hm.ldU a
  have hmem := fun x (h : x ∈ sqO wo wy) => sqO_mem hlen0 hrec h
  simp only [World.size_alloc, Nat.add_assoc, Nat.reduceAdd]
  clear hw2
  gi_wp2_with fail
  refine wpIn_rangeFunc_ownF rfl (by omega) (gf := 62) (lb := #[.pointer (some ⟨w.heap.size + 3, 0, none⟩)]) rfl trivial (enters_of Try.func62 (by kernel_rfl) rfl)
    (encs := fun x : Int × Int => #[Value.int .i64 (clq (sqO wo wy) x).1, Value.int .u64 (clq (sqO wo wy) x).2]) (Kp := OutK (w.heap.size + 2)) (S := fun ys => ys = sqO wo wy) (Sp := fun pre => pre <+: sqO wo wy) (N := (sqO wo wy).length) (w0 := w2)
    (fun l J Jx W hW hJ hJx hY h0 => slots1_in _ (by omega) l (w.heap.size + 3) (w.heap.size + 2) hrec _ J Jx hJ hJx (fun pre x W hx h1 h2 => by have := hY pre x W h1 h2; dsimp only at this; rw [clq_of (show x ∈ sqO wo wy from hx)] at this; exact this) W (bblock hW hBn) (hm2.below hW) (hf2.below hW) h0)
    OutK.t (OutK.b (by omega)) (Below.refl _ _) (fun _ => rfl)
    (fun pre W => ((∃ v, Boxed W (w.heap.size + 2) 42 v ∧ W.ownsRow w.heap.size 3 1 v (pkC mk (sqO wo wy) pre).length ((pkC mk (sqO wo wy) pre).map (Value.int .i64)) ∧ True) ∧ Boxed W (w.heap.size + 1) 79 (.func (.func 42) #[.pointer (some ⟨tb, 0, none⟩)] #[])) ∧ Below w.heap.size w W)
    (fun _ _ _ => False)
    (OwnFrom.and (OwnFrom.and (Own.from (holdsRow_own w.heap.size (w.heap.size + 2) 42 3 1 (fun pre => (pkC mk (sqO wo wy) pre).length) (fun pre => (pkC mk (sqO wo wy) pre).map (Value.int .i64)) (fun _ _ => True)) _) (fun s A B row hs hg hr => hs.kept hg (fun e' => by obtain ⟨_, o, ho, hc⟩ := hr _ e'.symm; rw [show A.heap[w.heap.size + 1]? = _ from hs] at ho; cases ho; cases hc))) (ownFrom_below (Nat.le_refl _) (by omega)))
    (fun _ _ _ _ _ hs _ _ => hs)
    ⟨⟨⟨_, bxO, World.ownsRow_nil _ _ _ _, trivial⟩, bF⟩, hB0⟩
    (fun x => { tmps := #[.agg #[.pointer (some ⟨bO, 0, none⟩), .pointer (some ⟨bY, 0, none⟩)], .func (.func 42) #[.pointer (some ⟨tb, 0, none⟩)] #[], .pointer (some ⟨w.heap.size, 0, none⟩), .pointer (some ⟨w.heap.size + 1, 0, none⟩), .slice none 0 0, .pointer (some ⟨w.heap.size + 2, 0, none⟩), .int .i64 (clq (sqO wo wy) x).1, .int .u64 (clq (sqO wo wy) x).2, .agg #[.pointer (some ⟨bO, 0, none⟩), .pointer (some ⟨bY, 0, none⟩)], .func (.func 62) #[] #[.pointer (some ⟨w.heap.size + 3, 0, none⟩)], .int .i64 (clq (sqO wo wy) x).1, .int .u64 (clq (sqO wo wy) x).2, undef, undef, undef, undef, undef, undef, undef, undef, undef, undef, undef, undef], defers := [] }) ?assign ?body ?done ?stop
  case assign =>
    intro l x W K hK
    gi_wp2
    exact hK
  case body =>
    rintro l pre x W ⟨⟨⟨v, hv, hrow, _⟩, hvF⟩, hB⟩ hlt
    have hc := hv.cell
    have hcF := hvF.cell
    have hpl := pkC_len mk (sqO wo wy) pre
    have hsn := pkC_snoc mk (sqO wo wy) pre x
    have hux : U64 (clq (sqO wo wy) x).2 ∧ 0 ≤ (clq (sqO wo wy) x).1 ∧ (clq (sqO wo wy) x).1 < 16777216 := by
      rcases clq_or (sqO wo wy) x with h | h
      · obtain ⟨a1, a2, a3, _⟩ := hmem _ h
        exact ⟨by rw [a3]; exact hmu _, a1, by omega⟩
      · rw [h]; exact ⟨U64.of (by omega) (by omega), by omega, by omega⟩
    obtain ⟨q, hq⟩ : ∃ q, clq (sqO wo wy) x = q := ⟨_, rfl⟩
    rw [hq] at hux hsn ⊢
    obtain ⟨qa, qu⟩ := q
    dsimp only at hux hsn ⊢
    have hYg := fun W => young_any qu hux.1 W
    have hMk := fun (W2 : World) (H : Below W.heap.size W W2) => marked_any ((ht.below hB).below H) qa hux.2.1 hux.2.2
    have HSN := Lib.hid hsn
    have HMK := Lib.hid hMk
    have zF : w.heap.size + 1 < W.heap.size := (Array.getElem?_eq_some_iff.1 (show W.heap[w.heap.size + 1]? = _ from hvF)).1
    clear hsn hMk hq
    cases hy : ldY qu
    · rw [hy] at hYg
      gi_wp2_with fail
      refine ⟨trivial, CallsIn.inRound l ((callsIn_wide.2 (hYg _)).mono ?_)⟩
      rintro e w3 ⟨rfl, hb3⟩
      have hno : hitQ mk (qa, qu) = false := by unfold hitQ; rw [hy]; rfl
      have e := HSN.out
      rw [hno] at e
      have e : pkC mk (sqO wo wy) (pre ++ [x]) = pkC mk (sqO wo wy) pre := e
      have hfin : OutK (w.heap.size + 2) W w3 := OutK.of_below (Array.getElem?_eq_some_iff.1 (show W.heap[w.heap.size + 2]? = _ from hv)).1 hb3
      have hI : ((∃ v, Boxed w3 (w.heap.size + 2) 42 v ∧ w3.ownsRow w.heap.size 3 1 v (pkC mk (sqO wo wy) (pre ++ [x])).length ((pkC mk (sqO wo wy) (pre ++ [x])).map (Value.int .i64)) ∧ True) ∧ Boxed w3 (w.heap.size + 1) 79 (.func (.func 42) #[.pointer (some ⟨tb, 0, none⟩)] #[])) ∧ Below w.heap.size w w3 := by
        rw [e]
        exact ⟨⟨⟨v, bblock hb3 hv, row_below7 hrow hb3, trivial⟩, bblock hb3 hvF⟩, bchain hb3 hB⟩
      have HI := Lib.hid hI
      have HFIN := Lib.hid hfin
      have HO := Lib.hid (others_below hb3)
      clear hI hfin e hno
      gi_wp2
      refine ⟨fun f hf => (by cases hf), ?_⟩
      gi_wp2
      exact ⟨HO.out, HFIN.out, HI.out⟩
    · rw [hy] at hYg
      have hMk := HMK.out
      cases hmk : decide (qa / 16 ∈ mk)
      · rw [hmk] at hMk
        gi_wp2_with fail
        refine ⟨trivial, CallsIn.inRound l ((callsIn_wide.2 (hYg _)).mono ?_)⟩
        rintro e w4 ⟨rfl, hb4⟩
        have hcF := bcellv hb4 hcF
        have zF := Nat.lt_of_lt_of_le zF hb4.size
        gi_wp2_with fail
        refine ⟨trivial, CallsIn.inRound l ((callsIn_wide.2 (hMk _ hb4)).mono ?_)⟩
        rintro e w3 ⟨rfl, hb5⟩
        have hb3 := bchain hb5 hb4
        have hno : hitQ mk (qa, qu) = false := by unfold hitQ; rw [hy, hmk]; rfl
        have e := HSN.out
        rw [hno] at e
        have e : pkC mk (sqO wo wy) (pre ++ [x]) = pkC mk (sqO wo wy) pre := e
        have hfin : OutK (w.heap.size + 2) W w3 := OutK.of_below (Array.getElem?_eq_some_iff.1 (show W.heap[w.heap.size + 2]? = _ from hv)).1 hb3
        have hI : ((∃ v, Boxed w3 (w.heap.size + 2) 42 v ∧ w3.ownsRow w.heap.size 3 1 v (pkC mk (sqO wo wy) (pre ++ [x])).length ((pkC mk (sqO wo wy) (pre ++ [x])).map (Value.int .i64)) ∧ True) ∧ Boxed w3 (w.heap.size + 1) 79 (.func (.func 42) #[.pointer (some ⟨tb, 0, none⟩)] #[])) ∧ Below w.heap.size w w3 := by
          rw [e]
          exact ⟨⟨⟨v, bblock hb3 hv, row_below7 hrow hb3, trivial⟩, bblock hb3 hvF⟩, bchain hb3 hB⟩
        have HI := Lib.hid hI
        have HFIN := Lib.hid hfin
        have HO := Lib.hid (others_below hb3)
        clear hI hfin e hno
        gi_wp2
        exact ⟨HO.out, HFIN.out, HI.out⟩
      · rw [hmk] at hMk
        gi_wp2_with fail
        refine ⟨trivial, CallsIn.inRound l ((callsIn_wide.2 (hYg _)).mono ?_)⟩
        rintro e w4 ⟨rfl, hb4⟩
        have hcF := bcellv hb4 hcF
        have zF := Nat.lt_of_lt_of_le zF hb4.size
        gi_wp2_with fail
        refine ⟨trivial, CallsIn.inRound l ((callsIn_wide.2 (hMk _ hb4)).mono ?_)⟩
        rintro e w3 ⟨rfl, hb5⟩
        have hb3 := bchain hb5 hb4
        have hv3 : Boxed w3 (w.heap.size + 2) 42 v := bblock hb3 hv
        have hvF3 : Boxed w3 (w.heap.size + 1) 79 (.func (.func 42) #[.pointer (some ⟨tb, 0, none⟩)] #[]) := bblock hb3 hvF
        have hrow3 := row_below7 hrow hb3
        have hB3 := bchain hb3 hB
        have hfin0 : OutK (w.heap.size + 2) W w3 := OutK.of_below (Array.getElem?_eq_some_iff.1 (show W.heap[w.heap.size + 2]? = _ from hv)).1 hb3
        have HO := Lib.hid (others_below hb3)
        have HF0 := Lib.hid hfin0
        have hc := hv3.cell
        have hyes : hitQ mk (qa, qu) = true := by unfold hitQ; rw [hy, hmk]; rfl
        have e := HSN.out
        rw [hyes] at e
        have e : pkC mk (sqO wo wy) (pre ++ [x]) = pkC mk (sqO wo wy) pre ++ [qa] := e
        have HE := Lib.hid e
        clear hfin0 e hyes hb4 hb5 hv hvF hrow hcF hMk hYg
        gi_wp2_with (gi_at_builtin; refine wpListIn_append_own_at _ rfl _ _ 42 rfl w.heap.size 3 i0 (.int .i64 0) 1 8 Try.underlying42 hi hz0 hz1 hz2 rfl (by decide) _ _ _ rfl (hrow3.alloc _) ⟨w3.heap.size, 0, none⟩ 1 1 [.int .i64 qa] rfl rfl (cell_one_new _ _ _) (by simp [Value.oneCell']) (by omega) (by omega) (by have := hB3.size; simp; omega) ?_; intro v' w1 hown' hgrow _ hat; obtain ⟨g', cap', rfl⟩ := ownsRow_succ hown'; obtain ⟨hv1, hv2, hr2, hk2, hb2⟩ := hv3.appended (by decide) hrow3 hB3.size (by omega) hown' hgrow; have hc1 := hv1.cell; have hf1 := hv1.frozen)
        have hN1 : Boxed w1 (w.heap.size + 1) 79 (.func (.func 42) #[.pointer (some ⟨tb, 0, none⟩)] #[]) := (hvF3.alloc _).kept hgrow (hvF3.not_row (by decide) hrow3)
        have hN2 := hN1.kept (grownBy_setCell' w1 (w.heap.size + 2) (.slice (some ⟨g', 0, none⟩) ((pkC mk (sqO wo wy) pre).length + 1) cap')) (by simp)
        refine ⟨HO.out.trans hk2, HF0.out.t (OutK.app hv3 hgrow hat hv2 (fun G e => (row_lt hown' G e).1)), ⟨⟨_, hv2, ?_, trivial⟩, hN2⟩, hB3.trans hb2⟩
        rw [HE.out]
        simpa using hr2
  case done =>
    rintro D ys W hD rfl ⟨⟨⟨v, hv, hrow, _⟩, _⟩, hB⟩ hK'
    have hc := hv.cell
    gi_wp2
    refine ⟨by simp, .inl ⟨_, _, rfl, run_takeDeferred hK', ?_⟩⟩
    refine ⟨_, results_tmp rfl _ _ _, v, rfl, ?_, hB.trans (belowK_b (w := w) (Nat.le_refl _) W D _ _ (by omega) hK' rfl rfl)⟩
    rw [pkC_all] at hrow
    exact ownsRow_putObj hrow _ hK' rfl
  case stop =>
    rintro D c pre W _ _ h _
    exact h.elim
set_option maxRecDepth 100000 in
set_option maxHeartbeats 2000000 in
theorem rem_any {w : World} {bO bY : Nat} {lo ly : Int} {wo wy : List Int} {gO gY : Option Nat} (hm : MemAt w bO bY lo ly wo wy gO gY) (hrec : ∀ a ∈ objA 0 wo, HE wo wy a = 0 ∧ HK wo wy a = 0) {tb mb : Nat} {mk : List Int} (ht : TabAt w tb mb mk) :
    Calls Try.prog 17 #[.agg #[.pointer (some ⟨bO, 0, none⟩), .pointer (some ⟨bY, 0, none⟩)], .pointer (some ⟨tb, 0, none⟩)] w fun e w' => ∃ v, e = .returned v ∧ w'.ownsRow w.heap.size 3 1 v (pkQ mk (sqO wo wy)).length ((pkQ mk (sqO wo wy)).map (Value.int .i64)) ∧ Below w.heap.size w w' := by
  have hmf : ∀ (fn : Fn) (first cap : Array Value) (w : World), (Instr.makeFunc fn first cap).run Try.prog w = .ok (.func fn first cap) w := fun _ _ _ _ => rfl
  have hb0 : Below w.heap.size w (w.alloc (.cells #[.pointer (some ⟨bO, 0, none⟩), .pointer (some ⟨bY, 0, none⟩)] 26)) := balloc (Below.refl _ _) _
  have hC := crossing_any (hm.below hb0) hrec (ht.below hb0)
  have HC := Lib.hid hC
  have HB := Lib.hid hb0
  clear hC hm hrec ht
  go_enter Try.func17, Try.ntmps17
  go_wp2_with fail
  refine HC.out.mono ?_
  rintro e w2 ⟨v, rfl, hr, hb2⟩
  have HF := Lib.hid (And.intro (row_base7 hr HB.out.size) (bchain hb2 HB.out))
  clear hr hb2
  go_wp2
  go_ret
  exact ⟨_, rfl, HF.out.1, HF.out.2⟩
end Go.Proofs.Ytgjaafcagnkfdaa
