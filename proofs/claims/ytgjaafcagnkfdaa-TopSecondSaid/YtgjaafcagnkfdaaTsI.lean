/-
  A map from addresses to addresses; nursery.place.
-/
import Derived.Test.YtgjaafcagnkfdaaTsH
import Derived.Maps.OwnSet
namespace Go.Proofs.Ytgjaafcagnkfdaa
open Go.RowKit Go.Maps
set_option linter.unusedSimpArgs false
set_option linter.unusedVariables false

def toF (S : List (Int × Int)) (x : Int) : Option Int := (S.find? (fun p => p.1 == x)).map (fun p => p.2)
theorem int_zero2 (w : World) : (zeroValue 3).run Try.prog w = .ok (.int .i64 0) w := by kernel_rfl
def MapII (w : World) (b : Nat) (S : List (Int × Int)) : Prop :=
  ∃ D : DataW Unit, w.ownsMap Try.prog 3 (plainElem Try.prog 3) b S.length D ∧ IsMap D ∧ ∀ x : Int, has D (.int .i64 x) = (toF S x).isSome ∧ D.atKey (.int .i64 x) (.lit (.int .i64 0)) = .lit (.int .i64 ((toF S x).getD 0))
theorem mapii_made (w : World) : MapII (w.alloc (.map #[] 0)) w.heap.size [] :=
  ⟨.map [], World.ownsMap_made w _ _ _, isMap_empty, fun x => ⟨by simp [has, toF], by simp [DataW.atKey, toF]⟩⟩
theorem MapII.mods {S0 : Nat → Prop} {w w' : World} {b : Nat} {S : List (Int × Int)} (h : MapII w b S) (hM : Mods S0 w w') (hn : ¬ S0 b) : MapII w' b S := by
  obtain ⟨D, ⟨es, clock, hb, h1⟩, h2, h3⟩ := h
  exact ⟨D, ⟨es, clock, mblock hM hb hn, h1⟩, h2, h3⟩
theorem MapII.below {w w' : World} {b : Nat} {S : List (Int × Int)} (h : MapII w b S) (hb : Below w.heap.size w w') : MapII w' b S := h.mods (S0 := fun _ => False) (Mods.of_below hb) (fun h => h)
theorem MapII.lt {w : World} {b : Nat} {S : List (Int × Int)} (h : MapII w b S) : b < w.heap.size := by
  obtain ⟨D, h1, _⟩ := h
  exact h1.lt
theorem MapII.look2 {w : World} {b : Nat} {S : List (Int × Int)} (h : MapII w b S) {x : Int} (hx : -9223372036854775808 ≤ x ∧ x ≤ 9223372036854775807) :
    (Instr.lookup 55 (.map (some b)) (.int .i64 x) true).run Try.prog w = .ok (.tuple #[.int .i64 ((toF S x).getD 0), .bool (toF S x).isSome]) w := by
  obtain ⟨D, h1, _, h3⟩ := h
  obtain ⟨v, ps, hrun, hv⟩ := h1.look_ok seen_law Try.underlying55 (int_zero2 w) (plainElem_int Try.underlying3 (by decide)) (keyOf_int_mk Try.underlying3 (wf_i64 hx))
  obtain ⟨e1, e2⟩ := h3 x
  rw [e2] at hv
  obtain ⟨y, rfl, hy, _⟩ := plainElem_int_inv Try.underlying3 hv
  simp only [Prod.mk.injEq, DataW.lit.injEq, Lit.int.injEq] at hy
  rw [hrun, e1, hy.1.2]
theorem MapII.look1 {w : World} {b : Nat} {S : List (Int × Int)} (h : MapII w b S) {x : Int} (hx : -9223372036854775808 ≤ x ∧ x ≤ 9223372036854775807) :
    (Instr.lookup 55 (.map (some b)) (.int .i64 x) false).run Try.prog w = .ok (.int .i64 ((toF S x).getD 0)) w := by
  obtain ⟨D, h1, _, h3⟩ := h
  obtain ⟨v, ps, hrun, hv⟩ := h1.lookup seen_law Try.underlying55 (int_zero2 w) (plainElem_int Try.underlying3 (by decide)) (keyOf_int_mk Try.underlying3 (wf_i64 hx))
  obtain ⟨e1, e2⟩ := h3 x
  rw [e2] at hv
  obtain ⟨y, rfl, hy, _⟩ := plainElem_int_inv Try.underlying3 hv
  simp only [Prod.mk.injEq, DataW.lit.injEq, Lit.int.injEq] at hy
  rw [hrun, hy.1.2]
theorem toF_snoc {S : List (Int × Int)} {k v x : Int} (hno : toF S k = none) : toF (S ++ [(k, v)]) x = if x = k then some v else toF S x := by
  unfold toF at hno ⊢
  rw [List.find?_append]
  by_cases h : x = k
  · subst h
    rw [if_pos rfl]
    have : S.find? (fun p => p.1 == x) = none := by simpa using hno
    rw [this]
    simp
  · rw [if_neg h]
    have : ((k, v).1 == x) = false := by simp; exact fun e => h e.symm
    simp [this]
theorem wpList_mapii {w : World} {ops : Array Oper} {rest : List Oper} {o : Oper} {a : Act} {Q : Exit → Act → World → Prop}
    (hg : o.guard = none) (m x v : Operand) (hop : o.op = Op.mapUpdate 55 m x v) (b : Nat) (S : List (Int × Int)) (k u : Int) (hm : a.eval m = .map (some b)) (hown : MapII w b S) (hn : S.length < maxLen) (hx : a.eval x = .int .i64 k) (hv : a.eval v = .int .i64 u)
    (hk : -9223372036854775808 ≤ k ∧ k ≤ 9223372036854775807) (hu : -9223372036854775808 ≤ u ∧ u ≤ 9223372036854775807) (hno : toF S k = none)
    (hK : ∀ w', MapII w' b (S ++ [(k, u)]) → w.grownBy w' (some b) → wpList Try.prog ops Q rest (a.put o.dst undef) w') :
    wpList Try.prog ops Q (o :: rest) a w := by
  obtain ⟨D, h1, h2, h3⟩ := hown
  refine wpList_mapUpdate_own w hg m x v 55 hop 3 3 seen_law Try.underlying55 (plainElem Try.prog 3) b S.length D hm h1 hn (.int .i64 k) (.int .i64 u) (.int .i64 k) hx hv (keyOf_int_mk Try.underlying3 (wf_i64 hk)) (.lit (.int .i64 u)) [] (plainElem_int Try.underlying3 (wf_i64 hu)) ?_
  intro w' h4 h5
  have hkl : WideAt.IsKeyLit (Lit.int .i64 k) := by first | exact .inr (.inl ⟨_, _, rfl⟩) | simp [WideAt.IsKeyLit]
  refine hK w' ⟨_, by simpa using h4, h2.put _ _, fun y => ?_⟩ h5
  rw [toF_snoc hno]
  by_cases hy : y = k
  · subst hy
    rw [has_put_same h2 hkl, atKey_put_same h2 hkl, if_pos rfl]
    exact ⟨rfl, rfl⟩
  · have hne : Lit.int .i64 y ≠ Lit.int .i64 k := by simpa using hy
    obtain ⟨e1, e2⟩ := h3 y
    rw [has_put_other hne, atKey_put_other hne, if_neg hy]
    exact ⟨e1, e2⟩
/-- Where copies are laid. -/
def plW (nW : Int → List Int) (ws : List Int) (l : List Int) : List Int := l.foldl (fun ws a => ws ++ nW a) ws
def plM (nW : Int → List Int) : List Int → List Int → List (Int × Int)
  | _, [] => []
  | ws, a :: l => (a, (ws.length : Int)) :: plM nW (ws ++ nW a) l
theorem plW_snoc (nW : Int → List Int) (ws l : List Int) (a : Int) : plW nW ws (l ++ [a]) = plW nW ws l ++ nW a := by unfold plW; rw [List.foldl_append]; rfl
theorem plM_snoc (nW : Int → List Int) (a : Int) : ∀ (l ws : List Int), plM nW ws (l ++ [a]) = plM nW ws l ++ [(a, ((plW nW ws l).length : Int))] := by
  intro l
  induction l with
  | nil => intro ws; rfl
  | cons b l ih => intro ws; simp only [List.cons_append, plM, ih]; rfl
theorem plM_keys (nW : Int → List Int) : ∀ (l ws : List Int), (plM nW ws l).map (fun p => p.1) = l := by
  intro l
  induction l with
  | nil => intro ws; rfl
  | cons b l ih => intro ws; simp only [plM, List.map_cons, ih]
theorem plM_len (nW : Int → List Int) (ws l : List Int) : (plM nW ws l).length = l.length := by have := congrArg List.length (plM_keys nW l ws); simpa using this
theorem toF_none {S : List (Int × Int)} {x : Int} (h : x ∉ S.map (fun p => p.1)) : toF S x = none := by
  unfold toF
  rw [Option.map_eq_none_iff, List.find?_eq_none]
  intro p hp e
  exact h (List.mem_map.2 ⟨p, hp, by simpa using e⟩)
theorem toF_some {S : List (Int × Int)} {x : Int} (h : x ∈ S.map (fun p => p.1)) : ∃ v, toF S x = some v ∧ (x, v) ∈ S := by
  obtain ⟨p, hp, rfl⟩ := List.mem_map.1 h
  unfold toF
  cases hf : S.find? (fun q => q.1 == p.1) with
  | none => exact absurd (List.find?_eq_none.1 hf p hp) (by simp)
  | some q =>
    have h1 := List.mem_of_find?_eq_some hf
    have h2 := List.find?_some hf
    have h3 : q.1 = p.1 := by simpa using h2
    exact ⟨q.2, rfl, by rw [← h3]; exact h1⟩
/-- What place asks of the memory that it reads and of the space that it writes. -/
structure PlR (w : World) (bO bY sp : Nat) (l ws0 : List Int) (nW : Int → List Int) (hc hf om os : Int → Int) (R : List Int → Option Nat → World → Prop) : Prop where
  mods : ∀ ws g W W' S0, R ws g W → Mods S0 W W' → (∀ k, S0 k → w.heap.size ≤ k ∧ g ≠ some k) → R ws g W'
  hdr : ∀ ws g W a, a ∈ l → R ws g W → Calls Try.prog 43 #[.agg #[.pointer (some ⟨bO, 0, none⟩), .pointer (some ⟨bY, 0, none⟩)], .int .i64 a] W fun e W' => e = .returned (.tuple #[.agg #[.int .i64 0, .int .i64 (hc a), .int .i64 (hf a)], .int .i64 0]) ∧ Below W.heap.size W W'
  id : ∀ ws g W a, a ∈ l → R ws g W → Calls Try.prog 44 #[.agg #[.pointer (some ⟨bO, 0, none⟩), .pointer (some ⟨bY, 0, none⟩)], .int .i64 a] W fun e W' => e = .returned (.tuple #[.agg #[.int .i64 (om a), .int .i64 (os a)], .int .i64 0]) ∧ Below W.heap.size W W'
  al : ∀ (t : Nat) g W a, l[t]? = some a → R (plW nW ws0 (l.take t)) g W → Calls Try.prog 13 #[.pointer (some ⟨sp, 0, none⟩), .agg #[.int .i64 0, .int .i64 (hc a), .int .i64 (hf a)], .agg #[.int .i64 (om a), .int .i64 (os a)]] W fun e W' => e = .returned (.tuple #[.int .i64 ((plW nW ws0 (l.take t)).length), .int .i64 0]) ∧
    ∃ g', R (plW nW ws0 (l.take t) ++ nW a) g' W' ∧ Mods (SpS sp g) W W' ∧ ∀ G, g' = some G → g = some G ∨ W.heap.size ≤ G
  len : ∀ t : Nat, (plW nW ws0 (l.take t)).length ≤ 16777216
def PlP (w : World) (sp : Nat) (g0 : Option Nat) (l ws0 : List Int) (nW : Int → List Int) (R : List Int → Option Nat → World → Prop) (e : Ending) (w' : World) : Prop :=
  ∃ mb g', e = .returned (.tuple #[.map (some mb), .int .i64 0]) ∧ MapII w' mb (plM nW ws0 l) ∧ R (plW nW ws0 l) g' w' ∧ Mods (SpS sp g0) w w' ∧ w.heap.size ≤ mb ∧ (∀ G, g' = some G → g0 = some G ∨ w.heap.size ≤ G) ∧ g' ≠ some mb
def RowN (w : World) (NS : Nat → Prop) (A : Option Addr) (l : List Int) : Prop := l = [] ∨ ∃ b off : Nat, A = some ⟨b, off, none⟩ ∧ b < w.heap.size ∧ ¬ NS b ∧ ∀ (i : Nat) (a : Int), l[i]? = some a → w.cell? ⟨b, off + i, none⟩ = some (.int .i64 a)
set_option maxRecDepth 100000 in
set_option maxHeartbeats 4000000 in
theorem place_any {w : World} {bO bY sp : Nat} {l ws0 : List Int} {nW : Int → List Int} {hc hf om os : Int → Int} {R : List Int → Option Nat → World → Prop} (hP : PlR w bO bY sp l ws0 nW hc hf om os R) {g0 : Option Nat} (h0 : R ws0 g0 w) (hsp : sp < w.heap.size) (hg0 : ∀ G, g0 = some G → G < w.heap.size) {A : Option Addr} {cap : Nat} (hA : RowN w (SpS sp g0) A l) (hcap : l.length ≤ cap) (hc63 : cap ≤ 9223372036854775807) (hnd : l.Nodup) (hI : ∀ a ∈ l, -9223372036854775808 ≤ a ∧ a ≤ 9223372036854775807) (hll : l.length ≤ 1000000) :
    Calls Try.prog 18 #[.agg #[.pointer (some ⟨bO, 0, none⟩), .pointer (some ⟨bY, 0, none⟩)], .pointer (some ⟨sp, 0, none⟩), .slice A l.length cap] w (PlP w sp g0 l ws0 nW R) := by
  have hmm := @run_makeMap Try.prog
  have hml : maxLen = 9223372036854775807 := rfl
  obtain ⟨n, hn⟩ : ∃ n, w.heap.size = n := ⟨_, rfl⟩
  have hb2 : Below w.heap.size w ((w.alloc (.cells #[.pointer (some ⟨bO, 0, none⟩), .pointer (some ⟨bY, 0, none⟩)] 26)).alloc (.map #[] 0)) := balloc (balloc (Below.refl _ _) _) _
  have hk2 : ((w.alloc (.cells #[.pointer (some ⟨bO, 0, none⟩), .pointer (some ⟨bY, 0, none⟩)] 26)).alloc (.map #[] 0)).heap[w.heap.size]? = some (.cells #[.pointer (some ⟨bO, 0, none⟩), .pointer (some ⟨bY, 0, none⟩)] 26 (0, 0)) := alloc_lt _ (alloc_get _ _)
  have hm2 := mapii_made (w.alloc (.cells #[.pointer (some ⟨bO, 0, none⟩), .pointer (some ⟨bY, 0, none⟩)] 26))
  rw [World.size_alloc] at hm2
  have hR2 := hP.mods _ _ _ _ (fun _ => False) h0 (Mods.of_below hb2) (fun k hk => hk.elim)
  have hz2 : ((w.alloc (.cells #[.pointer (some ⟨bO, 0, none⟩), .pointer (some ⟨bY, 0, none⟩)] 26)).alloc (.map #[] 0)).heap.size = w.heap.size + 2 := by simp
  go_enter Try.func18, Try.ntmps18
  go_wp2_with fail
  obtain ⟨w2, hw2⟩ : ∃ W, ((w.alloc (.cells #[.pointer (some ⟨bO, 0, none⟩), .pointer (some ⟨bY, 0, none⟩)] 26)).alloc (.map #[] 0)) = W := ⟨_, rfl⟩
  rw [hw2] at hb2 hk2 hm2 hR2 hz2 ⊢
  clear hw2
  rw [hn] at hk2 hm2 hz2 hsp hg0
  have HN := Lib.hid hn
  have HB2 := Lib.hid hb2
  have HP := Lib.hid hP
  have HK2 := Lib.hid hk2
  have hnS : ∀ k, SpS sp g0 k → k < n := fun k hk => by
    rcases hk with e | e
    · omega
    · exact hg0 k e
  have HND := Lib.hid hnd
  have HI := Lib.hid hI
  have HA := Lib.hid (show l = [] ∨ ∃ b off : Nat, A = some ⟨b, off, none⟩ ∧ (¬ SpS sp g0 b ∧ b < n) ∧ ∀ (i : Nat) (a : Int), l[i]? = some a → w2.cell? ⟨b, off + i, none⟩ = some (.int .i64 a) by
    rcases hA with e | ⟨b, off, e, h1, h2, h3⟩
    · exact .inl e
    · exact .inr ⟨b, off, e, ⟨h2, by omega⟩, fun i a ha => bcellv hb2 (h3 i a ha)⟩)
  clear hn hb2 hP h0 hk2 hA hnd hI hsp hg0
  go_loopw [20] (fun q wr => ∃ (t : Nat) (g' : Option Nat), t ≤ l.length ∧ q = .int .i64 t ∧ R (plW nW ws0 (l.take t)) g' wr ∧ Mods (fun k => SpS sp g0 k ∨ k = n + 1) w2 wr ∧ (∀ G, g' = some G → g0 = some G ∨ n + 2 ≤ G) ∧ MapII wr (n + 1) (plM nW ws0 (l.take t))) (fun q _ => l.length - (intOf q).toNat)
  case atStart => exact ⟨0, g0, Nat.zero_le _, rfl, hR2, Mods.refl _ _, fun G e => .inl e, hm2⟩
  case round =>
    clear hR2 hm2
    obtain ⟨t, g, ht, rfl, hR, hM, hg, hmp⟩ := hrel
    have hkr := mblock hM HK2.out (fun e => e.elim (fun e => by have := hnS n e; omega) (fun e => by omega))
    have hsz := hM.size
    by_cases hlt : t < l.length
    · obtain ⟨a, ha⟩ : ∃ a, l[t]? = some a := ⟨_, List.getElem?_eq_getElem hlt⟩
      have hmem := List.mem_of_getElem? ha
      rcases HA.out with rfl | ⟨b, off, rfl, hbn, hcl⟩
      · simp at hlt
      have ca := mcell hM (hcl t a ha) (fun e => e.elim (fun e => hbn.1 e) (fun e => by have := hbn.2; have e : b = n + 1 := e; omega))
      have cb := World.block_lt_of_cell? _ _ ca
      have s1 : ((t : Int)).toNat = t := by omega
      have hd : decide ((t : Int) < (l.length : Int)) = true := by simpa using hlt
      have HSN := Lib.hid (take_snoc7 ha)
      have k0 : wr.cell? ⟨n, 0, none⟩ = some (.pointer (some ⟨bO, 0, none⟩)) := by rw [cell_of_block hkr]; rfl
      have k1 : wr.cell? ⟨n, 1, none⟩ = some (.pointer (some ⟨bY, 0, none⟩)) := by rw [cell_of_block hkr]; rfl
      have hz : n + 2 ≤ wr.heap.size := by omega
      have hia := HI.out a hmem
      have hH := HP.out.hdr _ _ _ a hmem hR
      have hno : toF (plM nW ws0 (l.take t)) a = none := toF_none (by
        rw [plM_keys]
        intro hin
        obtain ⟨j, hj, e⟩ := List.getElem_of_mem hin
        rw [List.length_take] at hj
        rw [List.getElem_take] at e
        have he := (List.getElem?_eq_some_iff.1 ha).2
        exact (List.pairwise_iff_getElem.1 HND.out) j t (by omega) hlt (by omega) (by rw [e, he]))
      have hpl := plM_len nW ws0 (l.take t)
      rw [List.length_take] at hpl
      have hln := HP.out.len t
      have HR := Lib.hid hR
      have HM := Lib.hid hM
      have HG := Lib.hid hg
      have HMP := Lib.hid hmp
      have HKR := Lib.hid hkr
      have HNO := Lib.hid hno
      have HMEM := Lib.hid hmem
      have HAA := Lib.hid ha
      clear hR hM hg hmp hkr hno hmem hcl ha
      go_wp2_with fail
      refine hH.mono ?_
      rintro e w3 ⟨rfl, hb3⟩
      have hb3a := balloc hb3 (.cells #[.int .i64 0, .int .i64 (hc a), .int .i64 (hf a)] 46)
      have hI3 := HP.out.id _ _ _ a HMEM.out (HP.out.mods _ _ _ _ (fun _ => False) HR.out (Mods.of_below hb3a) (fun k hk => hk.elim))
      have kh := alloc_get w3 (.cells #[.int .i64 0, .int .i64 (hc a), .int .i64 (hf a)] 46 (0, 0))
      have k0 := bcellv hb3 k0
      have k1 := bcellv hb3 k1
      have hz3 := hb3.size
      have hzn3 : n < w3.heap.size := by omega
      clear ca cb hH
      go_wp2_with fail
      refine hI3.mono ?_
      rintro e w4 ⟨rfl, hb4⟩
      have hb5 := balloc (bchain hb4 hb3a) (.cells #[.int .i64 (om a), .int .i64 (os a)] 48)
      have kh5 := alloc_lt (.cells #[.int .i64 (om a), .int .i64 (os a)] 48 (0, 0)) (bblock hb4 kh)
      have ki5 := alloc_get w4 (.cells #[.int .i64 (om a), .int .i64 (os a)] 48 (0, 0))
      have hz4 := hb4.size
      rw [World.size_alloc] at hz4
      clear k0 k1 kh hI3 hb4 hb3a hb3
      obtain ⟨V3, hV3⟩ : ∃ V, w3.heap.size = V := ⟨_, rfl⟩
      obtain ⟨V4, hV4⟩ : ∃ V, w4.heap.size = V := ⟨_, rfl⟩
      rw [hV3] at kh5 hz3 hz4
      rw [hV4] at ki5 hz4
      have q0 : (w4.alloc (.cells #[.int .i64 (om a), .int .i64 (os a)] 48)).cell? ⟨V3, 0, none⟩ = some (.int .i64 0) := by rw [cell_of_block kh5]; rfl
      have q1 : (w4.alloc (.cells #[.int .i64 (om a), .int .i64 (os a)] 48)).cell? ⟨V3, 1, none⟩ = some (.int .i64 (hc a)) := by rw [cell_of_block kh5]; rfl
      have q2 : (w4.alloc (.cells #[.int .i64 (om a), .int .i64 (os a)] 48)).cell? ⟨V3, 2, none⟩ = some (.int .i64 (hf a)) := by rw [cell_of_block kh5]; rfl
      have q3 : (w4.alloc (.cells #[.int .i64 (om a), .int .i64 (os a)] 48)).cell? ⟨V4, 0, none⟩ = some (.int .i64 (om a)) := by rw [cell_of_block ki5]; rfl
      have q4 : (w4.alloc (.cells #[.int .i64 (om a), .int .i64 (os a)] 48)).cell? ⟨V4, 1, none⟩ = some (.int .i64 (os a)) := by rw [cell_of_block ki5]; rfl
      have hz5 : V4 < (w4.alloc (.cells #[.int .i64 (om a), .int .i64 (os a)] 48)).heap.size := (Array.getElem?_eq_some_iff.1 ki5).1
      have hAl := HP.out.al t _ _ a HAA.out (HP.out.mods _ _ _ _ (fun _ => False) HR.out (Mods.of_below hb5) (fun k hk => hk.elim))
      obtain ⟨w5, hw5⟩ : ∃ W, w4.alloc (.cells #[.int .i64 (om a), .int .i64 (os a)] 48) = W := ⟨_, rfl⟩
      have HAL := Lib.hid hAl
      have HB5 := Lib.hid hb5
      have HMP5 := Lib.hid (HMP.out.below hb5)
      clear hAl hb5 kh5 ki5
      rw [hw5] at HAL HB5 HMP5 q0 q1 q2 q3 q4 hz5
      go_wp2_with fail
      refine HAL.out.mono ?_
      rintro e w6 ⟨rfl, g6, hR6, hM6, hg6⟩
      have hgn : ∀ G, g = some G → G < n ∨ n + 2 ≤ G := fun G e => (HG.out G e).imp (fun h => hnS G (.inr h)) id
      have hn1 : ¬ SpS sp g (n + 1) := fun e => by
        rcases e with e | e
        · have := hnS sp (.inl rfl); omega
        · have := hgn _ e; omega
      have hmp6 := HMP5.out.mods hM6 hn1
      have hsz5 := HB5.out.size
      have HR6 := Lib.hid hR6
      have HM6 := Lib.hid hM6
      have HG6 := Lib.hid hg6
      have HGN := Lib.hid hgn
      have hlz : 0 ≤ ((plW nW ws0 (l.take t)).length : Int) ∧ ((plW nW ws0 (l.take t)).length : Int) ≤ 16777216 := by omega
      clear hR6 hM6 hg6 hgn q0 q1 q2 q3 q4 HAL hn1
      go_wp2_with (refine wpList_mapii (by rfl) _ _ _ (by rfl) (n + 1) _ a _ (by rfl) hmp6 (by rw [plM_len, List.length_take]; omega) (by rfl) (by rfl) hia (by omega) HNO.out ?_; intro w7 hm7 hg7)
      have hM7 := Mods.of_grown hg7
      have hg6n : ∀ G, g6 = some G → g0 = some G ∨ n + 2 ≤ G := fun G e => by
        rcases HG6.out G e with h | h
        · exact HG.out G h
        · right; omega
      have hR7 := HP.out.mods _ _ _ _ (fun k => k = n + 1) HR6.out hM7 (fun k hk => ⟨by rw [HN.out]; omega, fun e => by
        rcases hg6n k e with h | h
        · have := hnS k (.inr h); omega
        · omega⟩)
      have hMt : Mods (fun k => SpS sp g0 k ∨ k = n + 1) w2 w7 := by
        have h1 : Mods (fun k => SpS sp g0 k ∨ k = n + 1) w2 w5 := HM.out.trans (Mods.of_below (S := fun _ => False) HB5.out) (fun i hi => hi.elim)
        have h2 : Mods (fun k => SpS sp g0 k ∨ k = n + 1) w2 w6 := h1.trans HM6.out (fun i hi => by
          rcases hi with e | e
          · exact .inl (.inl (.inl e))
          · rcases HG.out i e with h | h
            · exact .inl (.inl (.inr h))
            · right; omega)
        exact h2.trans hM7 (fun i hi => .inl (.inr hi))
      have HF := Lib.hid (And.intro hR7 (And.intro hMt (And.intro hg6n hm7)))
      clear hR7 hMt hg6n hm7 hg7 hM7
      go_wp2_with fail
      go_roundw
      case rel => exact ⟨t + 1, g6, by omega, by go_num, by rw [HSN.out, plW_snoc]; exact HF.out.1, HF.out.2.1, HF.out.2.2.1, by rw [HSN.out, plM_snoc]; exact HF.out.2.2.2⟩
      case measure => simp [intOf]; omega
    · have htl : t = l.length := by omega
      subst htl
      rw [List.take_length] at hR hmp
      have hd : decide ((l.length : Int) < (l.length : Int)) = false := by simp
      have hz : n + 2 ≤ wr.heap.size := by omega
      have HF := Lib.hid (show PlP w sp g0 l ws0 nW R (.returned (.tuple #[.map (some (n + 1)), .int .i64 0])) wr from ⟨n + 1, g, rfl, hmp, hR, (Mods.of_below (S := SpS sp g0) HB2.out).trans hM (fun i hi => hi.imp id (fun h => by rw [HN.out]; omega)), by rw [HN.out]; omega, fun G e => (hg G e).imp id (fun h => by rw [HN.out]; omega), fun e => by
        rcases hg _ e with h | h
        · have := hnS (n + 1) (.inr h); omega
        · omega⟩)
      clear hR hM hg hmp hkr
      go_wp2
      go_ret2
      exact HF.out
end Go.Proofs.Ytgjaafcagnkfdaa
