/-
  nursery.order.
-/
import Derived.Test.YtgjaafcagnkfdaaTsF
import Derived.Deep.RegionHeld3
namespace Go.Proofs.Ytgjaafcagnkfdaa
open Go.RowKit Go.Maps
set_option linter.unusedSimpArgs false
set_option linter.unusedVariables false

/-- A young object that is a record. -/
def YO (wo wy : List Int) (a : Int) : Prop := 16777216 ≤ a ∧ HE wo wy a = 0 ∧ HK wo wy a = 0
/-- A word that, if it is a young reference, leads to such an object. -/
def Re (wy : List Int) (a : Int) : Prop := a ∈ objA 16777216 wy
def Gx (wo wy : List Int) (x : Int) : Prop := U64 x ∧ (ldY x = true → YO wo wy (adA x) ∧ Re wy (adA x))
theorem HE_LE {wo wy : List Int} {a : Int} (h : HE wo wy a = 0) : LE wo wy a = 0 := by
  have h0 : hdE (bsA a) (wsA wo wy a) a = 0 := h
  obtain ⟨h1, _⟩ := hd_bd h0
  unfold LE ioE
  rw [h1]
  rfl
theorem YO.res {wo wy : List Int} {a : Int} (h : YO wo wy a) : RA wo wy a = a ∧ RE wo wy a = 0 := by
  have hr := rsv_end h.2.1 (by rw [h.2.2]; decide) (wo.length + wy.length)
  unfold RA RE
  rw [if_pos (HE_LE h.2.1), if_pos (HE_LE h.2.1), hr]
  exact ⟨rfl, rfl⟩
theorem Gx.gw {wo wy : List Int} {x : Int} (h : Gx wo wy x) : Gw wo wy x := fun hy => (h.2 hy).1.res
def lkR (L l : List Int) : List Int := l.foldl lkL L
theorem lkR_snoc (L l : List Int) (x : Int) : lkR L (l ++ [x]) = lkL (lkR L l) x := by unfold lkR; rw [List.foldl_append]; rfl
theorem lkS_R (wo wy L al : List Int) : lkS wo wy L al = lkR L (al.map (LD wo wy)) := by
  unfold lkS lkR
  rw [List.foldl_map]
theorem lkL_pre (L : List Int) (x : Int) : L <+: lkL L x := by
  unfold lkL
  split
  · exact ⟨_, rfl⟩
  · exact List.prefix_refl _
theorem lkL_in {L : List Int} {x : Int} (h : ldY x = true) : adA x ∈ lkL L x := by
  unfold lkL
  by_cases hi : adA x ∈ L
  · rw [if_neg (by simp [hi])]; exact hi
  · rw [if_pos ⟨h, hi⟩]; simp
theorem lkR_pre : ∀ (l L : List Int), L <+: lkR L l := by
  intro l
  induction l with
  | nil => intro L; exact List.prefix_refl _
  | cons x l ih => intro L; exact (lkL_pre L x).trans (ih _)
theorem lkR_in : ∀ (l L : List Int) (x : Int), x ∈ l → ldY x = true → adA x ∈ lkR L l := by
  intro l
  induction l with
  | nil => intro L x h; cases h
  | cons y l ih =>
    intro L x h hy
    rcases List.mem_cons.1 h with rfl | h
    · exact (lkR_pre l _).subset (lkL_in hy)
    · exact ih _ x h hy
theorem lkR_all {P : Int → Prop} : ∀ (l L : List Int), (∀ a ∈ L, P a) → (∀ x ∈ l, ldY x = true → P (adA x)) → L.Nodup → (∀ a ∈ lkR L l, P a) ∧ (lkR L l).Nodup := by
  intro l
  induction l with
  | nil => intro L h _ hn; exact ⟨h, hn⟩
  | cons y l ih =>
    intro L h hy hn
    have h1 : (∀ a ∈ lkL L y, P a) ∧ (lkL L y).Nodup := by
      unfold lkL
      split
      · rename_i hc
        refine ⟨fun a ha => ?_, ?_⟩
        · rcases List.mem_append.1 ha with e | e
          · exact h a e
          · rw [List.mem_singleton.1 e]; exact hy y (by simp) hc.1
        · refine List.nodup_append.2 ⟨hn, by simp, fun a ha b hb e => ?_⟩
          rw [List.mem_singleton.1 hb] at e
          rw [e] at ha
          exact hc.2 ha
      · exact ⟨h, hn⟩
    exact ih _ h1.1 (fun x hx => hy x (by simp [hx])) h1.2
theorem lkR_len : ∀ (l L : List Int), (lkR L l).length ≤ L.length + l.length := by
  intro l
  induction l with
  | nil => intro L; simp [lkR]
  | cons a l ih =>
    intro L
    have h1 := ih (lkL L a)
    have h2 := lkL_len L a
    have e : lkR L (a :: l) = lkR (lkL L a) l := rfl
    rw [e, List.length_cons]
    omega
/-- What order hands back: all young objects that the roots, the remembered slots and themselves lead to. -/
structure Ord (wo wy mk rl L : List Int) : Prop where
  nd : L.Nodup
  yo : ∀ a ∈ L, YO wo wy a
  re : ∀ a ∈ L, Re wy a
  rt : ∀ x ∈ rl, ldY x = true → adA x ∈ L
  rm : ∀ q ∈ pkQ mk (sqO wo wy), ldY (LD wo wy q) = true → adA (LD wo wy q) ∈ L
  cl : ∀ a ∈ L, ∀ j : Int, 0 ≤ j → j < HF wo wy a → ldY (LD wo wy (a + 2 + j)) = true → adA (LD wo wy (a + 2 + j)) ∈ L
structure OrdI (wo wy mk rl L : List Int) (i : Nat) : Prop where
  nd : L.Nodup
  yo : ∀ a ∈ L, YO wo wy a
  re : ∀ a ∈ L, Re wy a
  rt : ∀ x ∈ rl, ldY x = true → adA x ∈ L
  rm : ∀ q ∈ pkQ mk (sqO wo wy), ldY (LD wo wy q) = true → adA (LD wo wy q) ∈ L
  cl : ∀ (k : Nat) (a : Int), L[k]? = some a → k < i → ∀ j : Int, 0 ≤ j → j < HF wo wy a → ldY (LD wo wy (a + 2 + j)) = true → adA (LD wo wy (a + 2 + j)) ∈ L
theorem OrdI.ord {wo wy mk rl L : List Int} (h : OrdI wo wy mk rl L L.length) : Ord wo wy mk rl L :=
  ⟨h.nd, h.yo, h.re, h.rt, h.rm, fun a ha => by
    obtain ⟨k, hk, e⟩ := List.getElem_of_mem ha
    exact h.cl k a (by rw [List.getElem?_eq_getElem hk, e]) hk⟩
theorem OrdI.len {wo wy mk rl L : List Int} {i : Nat} (h : OrdI wo wy mk rl L i) : L.length ≤ wo.length + wy.length := trail_len h.nd (fun s hs => (h.yo s hs).2.1)
theorem slA_mem {a x : Int} {n : Nat} : x ∈ slA a n ↔ ∃ j : Nat, j < n ∧ x = a + 2 + (j : Int) := by
  unfold slA
  simp only [List.mem_map, List.mem_range]
  constructor
  · rintro ⟨j, h, rfl⟩; exact ⟨j, h, rfl⟩
  · rintro ⟨j, h, rfl⟩; exact ⟨j, h, rfl⟩
theorem OrdI.step {wo wy mk rl L : List Int} {i : Nat} {a : Int} (h : OrdI wo wy mk rl L i) (ha : L[i]? = some a) (hg : ∀ j : Int, 0 ≤ j → j < HF wo wy a → Gx wo wy (LD wo wy (a + 2 + j))) : OrdI wo wy mk rl (lkS wo wy L (slA a (HF wo wy a).toNat)) (i + 1) := by
  rw [lkS_R]
  have hp := lkR_pre ((slA a (HF wo wy a).toNat).map (LD wo wy)) L
  have hall := lkR_all (P := fun a => YO wo wy a ∧ Re wy a) ((slA a (HF wo wy a).toNat).map (LD wo wy)) L (fun a ha => ⟨h.yo a ha, h.re a ha⟩) (fun x hx hy => by
    obtain ⟨q, hq, rfl⟩ := List.mem_map.1 hx
    obtain ⟨j, hj, rfl⟩ := slA_mem.1 hq
    exact (hg j (by omega) (by omega)).2 hy) h.nd
  refine ⟨hall.2, fun a ha => (hall.1 a ha).1, fun a ha => (hall.1 a ha).2, fun x hx hy => hp.subset (h.rt x hx hy), fun q hq hy => hp.subset (h.rm q hq hy), fun k b hb hk j j0 j1 hy => ?_⟩
  have hi := (List.getElem?_eq_some_iff.1 ha).1
  have hb' : L[k]? = some b := by
    obtain ⟨t, ht⟩ := hp
    rw [← ht, List.getElem?_append_left (by omega)] at hb
    exact hb
  by_cases e : k = i
  · subst e
    rw [ha] at hb'
    cases hb'
    exact lkR_in _ _ _ (List.mem_map.2 ⟨_, slA_mem.2 ⟨j.toNat, by omega, by rw [show ((j.toNat : Nat) : Int) = j by omega]⟩, rfl⟩) hy
  · exact hp.subset (h.cl k b hb' (by omega) j j0 j1 hy)
theorem OrdI.start {wo wy mk rl : List Int} (h1 : ∀ x ∈ rl, Gx wo wy x) (h2 : ∀ q ∈ pkQ mk (sqO wo wy), Gx wo wy (LD wo wy q)) : OrdI wo wy mk rl (lkS wo wy (lkR [] rl) (pkQ mk (sqO wo wy))) 0 := by
  have a1 := lkR_all (P := fun a => YO wo wy a ∧ Re wy a) rl [] (fun a ha => by cases ha) (fun x hx hy => (h1 x hx).2 hy) List.nodup_nil
  rw [lkS_R]
  have a2 := lkR_all (P := fun a => YO wo wy a ∧ Re wy a) ((pkQ mk (sqO wo wy)).map (LD wo wy)) (lkR [] rl) a1.1 (fun x hx hy => by
    obtain ⟨q, hq, rfl⟩ := List.mem_map.1 hx
    exact (h2 q hq).2 hy) a1.2
  refine ⟨a2.2, fun a ha => (a2.1 a ha).1, fun a ha => (a2.1 a ha).2, fun x hx hy => (lkR_pre _ _).subset (lkR_in _ _ _ hx hy), fun q hq hy => lkR_in _ _ _ (List.mem_map.2 ⟨q, hq, rfl⟩) hy, fun k a _ hk => by omega⟩
/-- A slice of integers: its cells. -/
def WrdsV (w : World) (v : Value) (xs : List Int) : Prop :=
  ∃ (a : Option Addr) (cap : Nat), v = .slice a xs.length cap ∧ xs.length ≤ cap ∧ cap ≤ 9223372036854775807 ∧ (xs = [] ∨ ∃ b off : Nat, a = some ⟨b, off, none⟩ ∧ ∀ i x, xs[i]? = some x → w.cell? ⟨b, off + i, none⟩ = some (.int .u64 x))
theorem WrdsV.below {w w' : World} {v : Value} {xs : List Int} (h : WrdsV w v xs) (hb : Below w.heap.size w w') : WrdsV w' v xs := by
  obtain ⟨a, cap, hv, h1, h2, h3⟩ := h
  refine ⟨a, cap, hv, h1, h2, ?_⟩
  rcases h3 with h3 | ⟨b, off, ha, h3⟩
  · exact .inl h3
  · exact .inr ⟨b, off, ha, fun i x hx => bcellv hb (h3 i x hx)⟩
theorem WrdsV.of_row {w : World} {B : Nat} {v : Value} {xs : List Int} (h : w.ownsRow B 49 1 v xs.length (xs.map (Value.int .u64))) : WrdsV w v xs := by
  obtain ⟨h1, h2⟩ := h
  rcases h2 with ⟨rfl, h0⟩ | ⟨g, cap, cur, rfl, _, hh, hn, hm, hs, ht⟩
  · have : xs = [] := List.length_eq_zero_iff.1 h0
    subst this
    exact ⟨none, 0, rfl, Nat.le_refl _, by omega, .inl rfl⟩
  · refine ⟨_, cap, rfl, hn, hm, .inr ⟨g, 0, rfl, fun i x hx => ?_⟩⟩
    rw [Nat.zero_add, cell_of_block hh]
    have hi : i < xs.length := (List.getElem?_eq_some_iff.1 hx).1
    have e : (cur.toList.take (xs.length * 1))[i]? = (xs.map (Value.int .u64))[i]? := by rw [ht]
    rw [List.getElem?_take_of_lt (by omega)] at e
    rw [← Array.getElem?_toList, e, List.getElem?_map, hx]
    rfl

theorem rowq_of {w w1 : World} {n : Nat} {v0 : Value} {A : Option Addr} {al : List Int} {cap : Nat} (h : w1.ownsRow w.heap.size 3 1 (.slice A al.length cap) al.length (al.map (Value.int .i64))) (hlt : ∀ k, OrW n v0 k → k < w.heap.size) : RowQ w1 n v0 A al := by
  obtain ⟨_, h2⟩ := h
  rcases h2 with ⟨_, h2⟩ | ⟨G, cap', cur, e, hge, hh, hcc, hmm, hs, ht⟩
  · exact .inl (List.length_eq_zero_iff.1 h2)
  · simp only [Value.slice.injEq] at e
    obtain ⟨rfl, _, rfl⟩ := e
    refine .inr ⟨G, 0, rfl, (Array.getElem?_eq_some_iff.1 hh).1, fun hk => by have := hlt G hk; omega, fun i a ha => ?_⟩
    rw [cell_of_block hh, ← Array.getElem?_toList]
    have hi := (List.getElem?_eq_some_iff.1 ha).1
    have e : (cur.toList.take (al.length * 1))[i]? = (al.map (Value.int .i64))[i]? := by rw [ht]
    rw [List.getElem?_take_of_lt (by omega)] at e
    rw [Nat.zero_add, e, List.getElem?_map, ha]
    rfl
theorem OrdV.orlt {w : World} {n bO bY : Nat} {L : List Int} {v : Value} (h : OrdV w n bO bY L v) : ∀ k, OrW n v k → k < w.heap.size := by
  have hz := (Array.getElem?_eq_some_iff.1 h.kk).1
  rintro k (e | e | e | e)
  · omega
  · omega
  · omega
  · exact (row_lt h.row k e).1
theorem OrdV.cellAt {w : World} {n bO bY : Nat} {L : List Int} {v : Value} (h : OrdV w n bO bY L v) {i : Nat} {a : Int} (ha : L[i]? = some a) : ∃ G c, v = .slice (some ⟨G, 0, none⟩) L.length c ∧ w.cell? ⟨G, i, none⟩ = some (.int .i64 a) ∧ L.length ≤ c ∧ c ≤ 9223372036854775807 := by
  have hi := (List.getElem?_eq_some_iff.1 ha).1
  obtain ⟨_, h2⟩ := h.row
  rcases h2 with ⟨_, h2⟩ | ⟨G, cap', cur, rfl, hge, hh, hcc, hmm, hs, ht⟩
  · omega
  · refine ⟨G, cap', rfl, ?_, hcc, hmm⟩
    rw [cell_of_block hh, ← Array.getElem?_toList]
    have e : (cur.toList.take (L.length * 1))[i]? = (L.map (Value.int .i64))[i]? := by rw [ht]
    rw [List.getElem?_take_of_lt (by omega)] at e
    rw [e, List.getElem?_map, ha]
    rfl
end Go.Proofs.Ytgjaafcagnkfdaa
