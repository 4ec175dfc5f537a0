/-
  law 07 in plain Lean: what every memory keeps that was made by operations on objects alone. No program in sight.
-/
import Derived.Test.YtcmhgjkijegpnaaGN
import Derived.Test.YtcmhgjkijegpnaaGI
namespace Go.Proofs.Ytcmhgjkijegpnaa
open Go.RowKit
set_option linter.unusedSimpArgs false
set_option linter.unusedVariables false

/-! ### Words -/
theorem LE_iff {wo wy : List Int} {a : Int} : LE wo wy a = 0 ↔ bsA a ≤ a ∧ a < bsA a + (wsA wo wy a).length := by
  unfold LE ioE
  constructor
  · intro h
    split at h
    · rename_i h1
      exact inB_iff.1 h1
    · cases h
  · intro h
    rw [if_pos (inB_iff.2 h)]
theorem ld_st {bs : Int} {ws : List Int} {x u y : Int} (hx : inB bs ws.length x = true) : ldW bs (stW bs ws x u) y = if y = x then u else ldW bs ws y := by
  obtain ⟨h0, h1⟩ := inB_iff.1 hx
  unfold ldW stW
  rw [if_pos hx, List.length_set]
  cases hy : inB bs ws.length y
  · have hne : y ≠ x := fun e => by rw [e, hx] at hy; cases hy
    rw [if_neg hne]
    rfl
  · obtain ⟨h2, h3⟩ := inB_iff.1 hy
    rw [if_pos rfl, if_pos rfl]
    by_cases e : y = x
    · subst e
      rw [if_pos rfl]
      simp only [List.getD, List.getElem?_set_self (show (y - bs).toNat < ws.length by omega), Option.getD_some]
    · rw [if_neg e]
      simp only [List.getD, List.getElem?_set_ne (show (x - bs).toNat ≠ (y - bs).toNat by omega)]
theorem st_LD {wo wy : List Int} {x : Int} (hx : LE wo wy x = 0) (u y : Int) : LD (stO wo x u) (stY wy x u) y = if y = x then u else LD wo wy y := by
  have hx := inB_iff.2 (LE_iff.1 hx)
  unfold LD stO stY bsA wsA at *
  by_cases h : 16777216 ≤ x
  · simp only [if_pos h] at hx ⊢
    by_cases h2 : 16777216 ≤ y
    · simp only [if_pos h2]
      exact ld_st hx
    · simp only [if_neg h2]
      rw [if_neg (show y ≠ x by omega)]
  · simp only [if_neg h] at hx ⊢
    by_cases h2 : 16777216 ≤ y
    · simp only [if_pos h2]
      rw [if_neg (show y ≠ x by omega)]
    · simp only [if_neg h2]
      exact ld_st hx
theorem wsA_len {wo wy wo' wy' : List Int} (h1 : wo'.length = wo.length) (h2 : wy'.length = wy.length) (y : Int) : (wsA wo' wy' y).length = (wsA wo wy y).length := by
  unfold wsA
  split <;> assumption
theorem LE_same {wo wy wo' wy' : List Int} (h1 : wo'.length = wo.length) (h2 : wy'.length = wy.length) (y : Int) : LE wo' wy' y = LE wo wy y := by
  unfold LE ioE
  rw [wsA_len h1 h2]
/-! ### Headers -/
theorem HE_hd {wo wy : List Int} {a : Int} (hw : wo.length ≤ 16777216) (h : HE wo wy a = 0) : bsA a ≤ a ∧ a + wordsI (HF wo wy a) ≤ bsA a + (wsA wo wy a).length ∧ didB (LD wo wy (a + 1)) = true ∧ 4 ≤ wordsI (HF wo wy a) ∧ 2 + HF wo wy a ≤ wordsI (HF wo wy a) ∧ LD wo wy a = encI (HK wo wy a) (HC wo wy a) (HF wo wy a) ∧ bsA (a + 1) = bsA a := by
  obtain ⟨g1, g2, g3, g4, g5⟩ := hd_word h
  obtain ⟨h1, h2, h3, h4⟩ := hd_bd h
  obtain ⟨h5, h6⟩ := inB_iff.1 h1
  have hq := wordsI_bd h3
  have e : wordsI (hdF (bsA a) (wsA wo wy a) a) = wordsI (HF wo wy a) := rfl
  rw [e] at h4 hq
  have hbs : bsA (a + 1) = bsA a ∧ wsA wo wy (a + 1) = wsA wo wy a := by
    unfold bsA wsA at *
    by_cases h : 16777216 ≤ a
    · simp only [if_pos h, if_pos (show 16777216 ≤ a + 1 by omega)]
      exact ⟨trivial, trivial⟩
    · simp only [if_neg h] at h4 ⊢
      rw [if_neg (by omega), if_neg (by omega)]
      exact ⟨rfl, rfl⟩
  refine ⟨h5, h4, ?_, hq.1, hq.2.2, ?_, hbs.1⟩
  · rw [obB_of h1] at h2
    simp only [Bool.and_eq_true] at h2
    unfold LD
    rw [hbs.1, hbs.2]
    exact h2.1.2
  · rw [g2, g3, g4]
    exact ((decB_iff.1 g1).2).symm
theorem hd_HE {wo wy : List Int} {a k c f : Int} (hw : wo.length ≤ 16777216) (h0 : bsA a ≤ a) (h1 : a + wordsI f ≤ bsA a + (wsA wo wy a).length) (hv : hvB k c f = true) (h2 : LD wo wy a = encI k c f) (h3 : didB (LD wo wy (a + 1)) = true) : HE wo wy a = 0 ∧ HK wo wy a = k ∧ HC wo wy a = c ∧ HF wo wy a = f := by
  have hq := wordsI_bd hv
  obtain ⟨d1, d2, d3⟩ := dec_enc hv
  have hbs : bsA (a + 1) = bsA a ∧ wsA wo wy (a + 1) = wsA wo wy a := by
    unfold bsA wsA at *
    by_cases h : 16777216 ≤ a
    · simp only [if_pos h, if_pos (show 16777216 ≤ a + 1 by omega)]
      exact ⟨trivial, trivial⟩
    · simp only [if_neg h] at h1 ⊢
      rw [if_neg (by omega), if_neg (by omega)]
      exact ⟨rfl, rfl⟩
  have hi : inB (bsA a) (wsA wo wy a).length a = true := inB_iff.2 ⟨h0, by omega⟩
  have h2' : ldW (bsA a) (wsA wo wy a) a = encI k c f := h2
  have h3' : didB (ldW (bsA a) (wsA wo wy a) (a + 1)) = true := by
    unfold LD at h3
    rw [hbs.1, hbs.2] at h3
    exact h3
  have hb : obB (wsA wo wy a) (a - bsA a).toNat = true := by
    rw [obB_of hi, h2', h3', d3, decB_enc hv, inB_iff.2 ⟨show bsA a ≤ a + 1 by omega, by omega⟩, inB_iff.2 ⟨show bsA a ≤ a + wordsI f - 1 by omega, by omega⟩]
    rfl
  obtain ⟨e1, e2, e3, e4⟩ := hd_ok hi hb
  rw [← ld_in hi, h2'] at e2 e3 e4
  exact ⟨e1, e2.trans d1, e3.trans d2, e4.trans d3⟩
theorem hv_of {wo wy : List Int} {a : Int} (h : HE wo wy a = 0) : hvB (HK wo wy a) (HC wo wy a) (HF wo wy a) = true := (hd_word h).2.2.2.2
/-- A header that lies as it lay. -/
theorem hd_same {wo wy wo' wy' : List Int} {a : Int} (hw : wo.length ≤ 16777216) (hw' : wo'.length ≤ 16777216) (h1 : wo.length ≤ wo'.length) (h2 : wy.length ≤ wy'.length) (h : HE wo wy a = 0) (h3 : LD wo' wy' a = LD wo wy a) (h4 : LD wo' wy' (a + 1) = LD wo wy (a + 1)) :
    HE wo' wy' a = 0 ∧ HK wo' wy' a = HK wo wy a ∧ HC wo' wy' a = HC wo wy a ∧ HF wo' wy' a = HF wo wy a := by
  obtain ⟨b0, b1, b2, b3, b4, b5, _⟩ := HE_hd hw h
  refine hd_HE hw' b0 ?_ (hv_of h) (h3.trans b5) (by rw [h4]; exact b2)
  refine Int.le_trans b1 ?_
  have : (wsA wo wy a).length ≤ (wsA wo' wy' a).length := by unfold wsA; split <;> assumption
  omega
theorem OM_same {wo wy wo' wy' : List Int} {a : Int} (h : HE wo wy a = 0) (h' : HE wo' wy' a = 0) (h4 : LD wo' wy' (a + 1) = LD wo wy (a + 1)) : OM wo' wy' a = OM wo wy a ∧ OS wo' wy' a = OS wo wy a := by
  unfold OM OS
  rw [h, h', h4]
  exact ⟨rfl, rfl⟩
/-- The words of an object are there. -/
theorem span_LE {wo wy : List Int} {a y : Int} (hw : wo.length ≤ 16777216) (h : HE wo wy a = 0) (h1 : a ≤ y) (h2 : y < a + wordsI (HF wo wy a)) : LE wo wy y = 0 := by
  obtain ⟨b0, b1, _⟩ := HE_hd hw h
  rw [LE_iff]
  unfold bsA wsA at *
  by_cases g : 16777216 ≤ a
  · simp only [if_pos g] at b0 b1
    simp only [if_pos (show 16777216 ≤ y by omega)]
    omega
  · simp only [if_neg g] at b0 b1
    simp only [if_neg (show ¬ 16777216 ≤ y by omega)]
    omega
/-! ### What a write into one object does -/
structure Chg (wo wy wo' wy' : List Int) (a k : Int) : Prop where
  lo : wo'.length = wo.length
  ly : wy'.length = wy.length
  hd : HE wo wy a = 0
  kv : hvB k (HC wo wy a) (HF wo wy a) = true
  w0 : LD wo' wy' a = encI k (HC wo wy a) (HF wo wy a)
  w1 : LD wo' wy' (a + 1) = LD wo wy (a + 1)
  far : ∀ y, (y < a ∨ a + wordsI (HF wo wy a) ≤ y) → LD wo' wy' y = LD wo wy y
theorem Chg.self {wo wy wo' wy' : List Int} {a k : Int} (hw : wo.length ≤ 16777216) (h : Chg wo wy wo' wy' a k) : HE wo' wy' a = 0 ∧ HK wo' wy' a = k ∧ HC wo' wy' a = HC wo wy a ∧ HF wo' wy' a = HF wo wy a ∧ OM wo' wy' a = OM wo wy a ∧ OS wo' wy' a = OS wo wy a := by
  obtain ⟨b0, b1, b2, b3, b4, b5, _⟩ := HE_hd hw h.hd
  obtain ⟨e1, e2, e3, e4⟩ := hd_HE (wo := wo') (wy := wy') (by rw [h.lo]; exact hw) b0 (by rw [wsA_len h.lo h.ly]; exact b1) h.kv h.w0 (by rw [h.w1]; exact b2)
  exact ⟨e1, e2, e3, e4, OM_same h.hd e1 h.w1⟩
theorem Chg.other {wo wy wo' wy' : List Int} {a k b : Int} (hw : wo.length ≤ 16777216) (h : Chg wo wy wo' wy' a k) (hb : HE wo wy b = 0) (hd : a + wordsI (HF wo wy a) ≤ b ∨ b + wordsI (HF wo wy b) ≤ a) :
    HE wo' wy' b = 0 ∧ HK wo' wy' b = HK wo wy b ∧ HC wo' wy' b = HC wo wy b ∧ HF wo' wy' b = HF wo wy b ∧ OM wo' wy' b = OM wo wy b ∧ OS wo' wy' b = OS wo wy b ∧ LD wo' wy' (b + 2) = LD wo wy (b + 2) := by
  obtain ⟨b0, b1, b2, b3, b4, b5, _⟩ := HE_hd hw hb
  have f0 := h.far b (by omega)
  have f1 := h.far (b + 1) (by omega)
  have f2 := h.far (b + 2) (by omega)
  obtain ⟨e1, e2, e3, e4⟩ := hd_same (wo' := wo') (wy' := wy') hw (by rw [h.lo]; exact hw) (by rw [h.lo]; omega) (by rw [h.ly]; omega) hb f0 f1
  obtain ⟨e5, e6⟩ := OM_same hb e1 f1
  exact ⟨e1, e2, e3, e4, e5, e6, f2⟩
theorem Chg.refl {wo wy : List Int} {a : Int} (hw : wo.length ≤ 16777216) (h : HE wo wy a = 0) : Chg wo wy wo wy a (HK wo wy a) := ⟨rfl, rfl, h, hv_of h, (HE_hd hw h).2.2.2.2.2.1, rfl, fun _ _ => rfl⟩
/-- One word behind the header. -/
theorem Chg.store {wo wy wo' wy' : List Int} {a k x u : Int} (hw : wo.length ≤ 16777216) (h : Chg wo wy wo' wy' a k) (h1 : a + 2 ≤ x) (h2 : x < a + wordsI (HF wo wy a)) : Chg wo wy (stO wo' x u) (stY wy' x u) a k := by
  have hl : LE wo' wy' x = 0 := by rw [LE_same h.lo h.ly]; exact span_LE hw h.hd (by omega) h2
  refine ⟨stO_len.trans h.lo, stY_len.trans h.ly, h.hd, h.kv, ?_, ?_, fun y hy => ?_⟩
  · rw [st_LD hl, if_neg (by omega)]; exact h.w0
  · rw [st_LD hl, if_neg (by omega)]; exact h.w1
  · rw [st_LD hl, if_neg (by omega)]; exact h.far y hy
theorem wrM_chg {wo wy : List Int} {a k : Int} {pl : List Int} (hw : wo.length ≤ 16777216) (h : HE wo wy a = 0) (hk : hvB k (HC wo wy a) (HF wo wy a) = true) : Chg wo wy (wrM wo wy a k pl).1 (wrM wo wy a k pl).2 a k ∧ ∀ j : Nat, (j : Int) < wordsI (HF wo wy a) - 2 → LD (wrM wo wy a k pl).1 (wrM wo wy a k pl).2 (a + 2 + j) = pl.getD j 0 := by
  obtain ⟨b0, b1, b2, b3, b4, b5, _⟩ := HE_hd hw h
  have hl : LE wo wy a = 0 := span_LE hw h (by omega) (by omega)
  have h0 : Chg wo wy (stO wo a (wrH wo wy a k)) (stY wy a (wrH wo wy a k)) a k := by
    refine ⟨stO_len, stY_len, h, hk, ?_, ?_, fun y hy => ?_⟩
    · rw [st_LD hl, if_pos rfl]; rfl
    · rw [st_LD hl, if_neg (by omega)]
    · rw [st_LD hl, if_neg (by omega)]
  have key : ∀ n : Nat, (n : Int) ≤ wordsI (HF wo wy a) - 2 → Chg wo wy (wrS (stO wo a (wrH wo wy a k), stY wy a (wrH wo wy a k)) a pl n).1 (wrS (stO wo a (wrH wo wy a k), stY wy a (wrH wo wy a k)) a pl n).2 a k ∧ ∀ j : Nat, j < n → LD (wrS (stO wo a (wrH wo wy a k), stY wy a (wrH wo wy a k)) a pl n).1 (wrS (stO wo a (wrH wo wy a k), stY wy a (wrH wo wy a k)) a pl n).2 (a + 2 + j) = pl.getD j 0 := by
    intro n
    induction n with
    | zero => exact fun _ => ⟨h0, fun j hj => by omega⟩
    | succ n ih =>
      intro hn
      obtain ⟨i1, i2⟩ := ih (by omega)
      have hl : LE (wrS (stO wo a (wrH wo wy a k), stY wy a (wrH wo wy a k)) a pl n).1 (wrS (stO wo a (wrH wo wy a k), stY wy a (wrH wo wy a k)) a pl n).2 (a + 2 + (n : Int)) = 0 := by
        rw [LE_same i1.lo i1.ly]; exact span_LE hw h (by omega) (by omega)
      refine ⟨i1.store hw (by omega) (by omega), fun j hj => ?_⟩
      show LD (stO _ _ _) (stY _ _ _) _ = _
      rw [st_LD hl]
      by_cases e : j = n
      · subst e
        rw [if_pos rfl]
      · rw [if_neg (by omega)]
        exact i2 j (by omega)
  obtain ⟨k1, k2⟩ := key (wordsI (HF wo wy a) - 2).toNat (by omega)
  exact ⟨k1, fun j hj => k2 j (by omega)⟩
/-! ### Following Forwards -/
theorem rsv_sim {wo wy wo' wy' l : List Int} (hf : ∀ a ∈ l, HE wo wy a = 0 ∧ (HK wo wy a = 4 → nxt wo wy a ∈ l)) (h : ∀ a ∈ l, HE wo' wy' a = 0 ∧ (HK wo' wy' a = 4 ↔ HK wo wy a = 4) ∧ (HK wo wy a = 4 → LD wo' wy' (a + 2) = LD wo wy (a + 2))) : ∀ (n : Nat) (a : Int), a ∈ l → rsv wo' wy' n a = rsv wo wy n a := by
  intro n
  induction n with
  | zero => intro a _; rfl
  | succ n ih =>
    intro a ha
    obtain ⟨f1, f2⟩ := hf a ha
    obtain ⟨g1, g2, g3⟩ := h a ha
    by_cases hk : HK wo wy a = 4
    · unfold rsv
      have e := ih _ (f2 hk)
      unfold nxt at e
      rw [g1, f1, g2.2 hk, hk, g3 hk, e]
    · rw [rsv_end f1 hk, rsv_end g1 (fun e => hk (g2.1 e))]
theorem rsv_more {wo wy : List Int} {r : Int} : ∀ (n : Nat) (a : Int), rsv wo wy n a = (r, 0) → HE wo wy r = 0 ∧ HK wo wy r ≠ 4 := by
  intro n
  induction n with
  | zero => intro a h; cases h
  | succ n ih =>
    intro a h
    unfold rsv at h
    split at h
    · cases h
    · rename_i h1
      split at h
      · rename_i h2
        cases h
        exact ⟨by simpa using h1, h2⟩
      · split at h
        · exact ih _ h
        · cases h
theorem rsv_fuel {wo wy : List Int} {r a0 : Int} : ∀ (n : Nat) (a : Int) (S : List Int), Trail wo wy (wo.length + wy.length) a0 S a → rsv wo wy n a = (r, 0) → rsv wo wy (wo.length + wy.length + 1) a0 = (r, 0) := by
  intro n
  induction n with
  | zero => intro a S _ h; cases h
  | succ n ih =>
    intro a S ht h
    have h' := h
    unfold rsv at h
    split at h
    · cases h
    · rename_i h1
      have h1 : HE wo wy a = 0 := by simpa using h1
      split at h
      · rename_i h2
        cases h
        obtain ⟨m, hm⟩ := trail_pos ht
        rw [ht.fuel, hm, rsv_end h1 h2]
      · rename_i h2
        split at h
        · rename_i h3
          have hf : fwd wo wy a := ⟨h1, by simpa using h2, h3⟩
          by_cases ha : a ∈ S
          · exfalso
            have := rsv_ring (S := S) (fun s hs => ⟨(ht.mem s hs).1, by
              rcases (ht.mem s hs).2 with e | e
              · exact e
              · rw [e]; exact ha⟩) (n + 1) a ha
            rw [this] at h'
            cases h'
          · exact ih _ _ (trail_step ht ha hf).1 h
        · cases h
theorem RE_of {wo wy : List Int} {a r : Int} {n : Nat} (hw : wo.length ≤ 16777216) (h : HE wo wy a = 0) (hr : rsv wo wy n a = (r, 0)) : RE wo wy a = 0 ∧ RA wo wy a = r := by
  have := rsv_fuel n a [] (trail_start _ _ _ _) hr
  have hb := HE_hd hw h
  have hl := span_LE hw h (Int.le_refl a) (by omega)
  unfold RE RA
  rw [hl, this]
  exact ⟨rfl, rfl⟩
end Go.Proofs.Ytcmhgjkijegpnaa
namespace Go.Proofs.Ytcmhgjkijegpnaa
open Go.RowKit
set_option linter.unusedSimpArgs false
set_option linter.unusedVariables false

/-- What a memory keeps that was made by allocations, SetField, ToStub, Reroute and ToForward of objects alone. -/
structure Inv7 (x : S7) : Prop where
  lo : x.wo.length ≤ 16777216
  ly : x.wy.length ≤ 16777216
  hd : ∀ a ∈ x.l, HE x.wo x.wy a = 0
  dj : ∀ a ∈ x.l, ∀ b ∈ x.l, a = b ∨ a + wordsI (HF x.wo x.wy a) ≤ b ∨ b + wordsI (HF x.wo x.wy b) ≤ a
  zr : x.wo ≠ [] → 0 ∈ x.l
  fw : ∀ a ∈ x.l, HK x.wo x.wy a = 4 → adB (LD x.wo x.wy (a + 2)) = true ∧ nxt x.wo x.wy a ∈ x.l
  rs : ∀ a ∈ x.l, ∃ n r, rsv x.wo x.wy n a = (r, 0)
theorem inv_start : Inv7 ⟨[], [], []⟩ := ⟨by simp, by simp, by simp, by simp, by simp, by simp, by simp⟩
/-- An address that has a header is one of the objects. -/
theorem Inv7.at_mem {x : S7} (h : Inv7 x) {n : Int} (ha : HE x.wo x.wy (atW false x.l n) = 0) : atW false x.l n ∈ x.l := by
  unfold atW at *
  rw [if_neg (by simp)] at *
  by_cases hc : x.l = [] ∨ n < 0
  · rw [if_pos hc] at *
    apply h.zr
    intro e
    obtain ⟨_, b1, _, b3, _⟩ := HE_hd h.lo ha
    unfold bsA wsA at b1
    have el : x.wo.length = 0 := by rw [e]; rfl
    rw [if_neg (by decide), if_neg (by decide), el] at b1
    omega
  · rw [if_neg hc] at *
    have hp : 0 < x.l.length := List.length_pos_iff.2 (fun e => hc (.inl e))
    have hlt := Nat.mod_lt n.toNat hp
    rw [List.getD_eq_getElem?_getD, List.getElem?_eq_getElem hlt]
    exact List.getElem_mem hlt
theorem Inv7.res {x : S7} (h : Inv7 x) {a : Int} (ha : a ∈ x.l) : RE x.wo x.wy a = 0 ∧ HE x.wo x.wy (RA x.wo x.wy a) = 0 ∧ HK x.wo x.wy (RA x.wo x.wy a) ≠ 4 ∧ ∃ n, rsv x.wo x.wy n a = (RA x.wo x.wy a, 0) := by
  obtain ⟨n, r, hr⟩ := h.rs a ha
  obtain ⟨h1, h2⟩ := RE_of h.lo (h.hd a ha) hr
  rw [h2]
  obtain ⟨h3, h4⟩ := rsv_more n a hr
  exact ⟨h1, h3, h4, n, hr⟩
/-- A write into one object that is no Forward, and becomes none. -/
theorem Inv7.chg {x : S7} {wo' wy' : List Int} {a k : Int} (h : Inv7 x) (ha : a ∈ x.l) (hc : Chg x.wo x.wy wo' wy' a k) (h4 : HK x.wo x.wy a ≠ 4) (hk : k ≠ 4) : Inv7 ⟨wo', wy', x.l⟩ := by
  obtain ⟨s1, s2, s3, s4, _⟩ := hc.self h.lo
  have ho : ∀ b ∈ x.l, b ≠ a → _ := fun b hb hn => hc.other h.lo (h.hd b hb) ((h.dj a ha b hb).resolve_left (Ne.symm hn))
  have hHF : ∀ b ∈ x.l, HE wo' wy' b = 0 ∧ HF wo' wy' b = HF x.wo x.wy b := fun b hb => by
    by_cases e : b = a
    · subst e; exact ⟨s1, s4⟩
    · exact ⟨(ho b hb e).1, (ho b hb e).2.2.2.1⟩
  have hF : ∀ b ∈ x.l, (HK wo' wy' b = 4 ↔ HK x.wo x.wy b = 4) ∧ (HK x.wo x.wy b = 4 → LD wo' wy' (b + 2) = LD x.wo x.wy (b + 2)) := fun b hb => by
    by_cases e : b = a
    · subst e
      refine ⟨⟨fun e => absurd (s2.symm.trans e) hk, fun e => absurd e h4⟩, fun e => absurd e h4⟩
    · obtain ⟨_, o2, _, _, _, _, o7⟩ := ho b hb e
      exact ⟨by rw [o2], fun _ => o7⟩
  refine ⟨by simpa [hc.lo] using h.lo, by simpa [hc.ly] using h.ly, fun b hb => (hHF b hb).1, fun b hb c hc' => ?_, fun e => h.zr (fun e' => e (by have := hc.lo; rw [e'] at this; exact List.length_eq_zero_iff.1 this)), fun b hb e => ?_, fun b hb => ?_⟩
  · show b = c ∨ b + wordsI (HF wo' wy' b) ≤ c ∨ c + wordsI (HF wo' wy' c) ≤ b
    rw [(hHF b hb).2, (hHF c hc').2]
    exact h.dj b hb c hc'
  · obtain ⟨f1, f2⟩ := hF b hb
    have e4 := f1.1 e
    obtain ⟨g1, g2⟩ := h.fw b hb e4
    show adB (LD wo' wy' (b + 2)) = true ∧ adA (LD wo' wy' (b + 2)) ∈ x.l
    rw [f2 e4]
    exact ⟨g1, g2⟩
  · obtain ⟨n, r, hr⟩ := h.rs b hb
    refine ⟨n, r, ?_⟩
    rw [← hr]
    exact rsv_sim (l := x.l) (fun c hc => ⟨h.hd c hc, fun e => (h.fw c hc e).2⟩) (fun c hc => ⟨(hHF c hc).1, hF c hc⟩) n b hb
theorem adA_fa {t : Int} (h0 : 0 ≤ t) (h1 : t ≤ 4294967295) : adB (faW t) = true ∧ adA (faW t) = t := by
  have e : adB (faW t) = true := by
    rw [adB_iff]
    unfold faW
    rw [if_pos ⟨h0, h1⟩]
    omega
  refine ⟨e, ?_⟩
  unfold adA
  rw [if_pos e]
  unfold faW
  rw [if_pos ⟨h0, h1⟩]
  omega
/-- A Forward is laid: whatever ended at the object ends where its target ends. -/
theorem Inv7.fwd {x : S7} {wo' wy' : List Int} {a t : Int} (h : Inv7 x) (ha : a ∈ x.l) (ht : t ∈ x.l) (hc : Chg x.wo x.wy wo' wy' a 4) (h2 : LD wo' wy' (a + 2) = faW t) (h4 : HK x.wo x.wy a ≠ 4) (hr : RA x.wo x.wy t ≠ a) :
    Inv7 ⟨wo', wy', x.l⟩ ∧ RE wo' wy' a = 0 ∧ RA wo' wy' a = RA x.wo x.wy t := by
  obtain ⟨s1, s2, s3, s4, _⟩ := hc.self h.lo
  have ho : ∀ b ∈ x.l, b ≠ a → _ := fun b hb hn => hc.other h.lo (h.hd b hb) ((h.dj a ha b hb).resolve_left (Ne.symm hn))
  have hHF : ∀ b ∈ x.l, HE wo' wy' b = 0 ∧ HF wo' wy' b = HF x.wo x.wy b := fun b hb => by
    by_cases e : b = a
    · subst e; exact ⟨s1, s4⟩
    · exact ⟨(ho b hb e).1, (ho b hb e).2.2.2.1⟩
  have htb : 0 ≤ t ∧ t ≤ 4294967295 := by
    have hb := HE_bd (h.hd t ht)
    have hq := HE_hd h.lo (h.hd t ht)
    have e1 := h.lo
    have e2 := h.ly
    obtain ⟨_, _, _, b1, b2⟩ := hb
    unfold bsA at b1 b2
    unfold wsA at b2
    by_cases g : 16777216 ≤ t
    · simp only [if_pos g] at b1 b2
      omega
    · simp only [if_neg g] at b1 b2
      omega
  obtain ⟨f1, f2⟩ := adA_fa htb.1 htb.2
  have hlo' : wo'.length ≤ 16777216 := by rw [hc.lo]; exact h.lo
  -- the target's way is as it was
  have hT : ∀ (n : Nat) (y r : Int), y ∈ x.l → r ≠ a → rsv x.wo x.wy n y = (r, 0) → rsv wo' wy' n y = (r, 0) := by
    intro n
    induction n with
    | zero => intro y r _ _ e; cases e
    | succ n ih =>
      intro y r hy hra e
      by_cases hya : y = a
      · subst hya
        rw [rsv_end (h.hd y hy) h4] at e
        cases e
        exact absurd rfl hra
      · obtain ⟨o1, o2, _, _, _, _, o7⟩ := ho y hy hya
        by_cases hk : HK x.wo x.wy y = 4
        · obtain ⟨g1, g2⟩ := h.fw y hy hk
          rw [rsv_go (h.hd y hy) hk g1] at e
          rw [rsv_go o1 (o2.trans hk) (by rw [o7]; exact g1), o7]
          exact ih _ _ g2 hra e
        · rw [rsv_end (h.hd y hy) hk] at e
          cases e
          exact rsv_end o1 (by rw [o2]; exact hk) n
  obtain ⟨_, _, _, nt, hnt⟩ := h.res ht
  have hA : rsv wo' wy' (nt + 1) a = (RA x.wo x.wy t, 0) := by
    rw [rsv_go s1 s2 (by rw [h2]; exact f1), h2, f2]
    exact hT nt t _ ht hr hnt
  have hX : ∀ (n : Nat) (y r : Int), y ∈ x.l → rsv x.wo x.wy n y = (r, 0) → ∃ n' r', rsv wo' wy' n' y = (r', 0) := by
    intro n
    induction n with
    | zero => intro y r _ e; cases e
    | succ n ih =>
      intro y r hy e
      by_cases hya : y = a
      · subst hya
        exact ⟨_, _, hA⟩
      · obtain ⟨o1, o2, _, _, _, _, o7⟩ := ho y hy hya
        by_cases hk : HK x.wo x.wy y = 4
        · obtain ⟨g1, g2⟩ := h.fw y hy hk
          rw [rsv_go (h.hd y hy) hk g1] at e
          obtain ⟨n', r', e'⟩ := ih _ _ g2 e
          refine ⟨n' + 1, r', ?_⟩
          rw [rsv_go o1 (o2.trans hk) (by rw [o7]; exact g1), o7]
          exact e'
        · exact ⟨1, y, rsv_end o1 (by rw [o2]; exact hk) 0⟩
  obtain ⟨r1, r2⟩ := RE_of hlo' s1 hA
  refine ⟨⟨hlo', by simpa [hc.ly] using h.ly, fun b hb => (hHF b hb).1, fun b hb c hc' => ?_, fun e => h.zr (fun e' => e (by have := hc.lo; rw [e'] at this; exact List.length_eq_zero_iff.1 this)), fun b hb e => ?_, fun b hb => ?_⟩, r1, r2⟩
  · show b = c ∨ b + wordsI (HF wo' wy' b) ≤ c ∨ c + wordsI (HF wo' wy' c) ≤ b
    rw [(hHF b hb).2, (hHF c hc').2]
    exact h.dj b hb c hc'
  · show adB (LD wo' wy' (b + 2)) = true ∧ adA (LD wo' wy' (b + 2)) ∈ x.l
    by_cases hba : b = a
    · subst hba
      rw [h2, f1, f2]
      exact ⟨rfl, ht⟩
    · obtain ⟨o1, o2, _, _, _, _, o7⟩ := ho b hb hba
      rw [o7]
      exact h.fw b hb (o2.symm.trans e)
  · obtain ⟨n, r, hr⟩ := h.rs b hb
    exact hX n b r hb hr
/-! ### The operations -/
theorem sf_chg {wo wy : List Int} {a i : Int} (u : Int) (hw : wo.length ≤ 16777216) (h : fdE wo wy a i = 0) : Chg wo wy (sfO wo wy a i u) (sfY wo wy a i u) a (HK wo wy a) ∧ HK wo wy a ≠ 4 ∧ HK wo wy a ≠ 3 ∧ sfE wo wy a i = 0 ∧ (∀ y, LD (sfO wo wy a i u) (sfY wo wy a i u) y = if y = a + 2 + i then u else LD wo wy y) := by
  obtain ⟨h1, h2, h3, h4, h5⟩ := fd_zero h
  obtain ⟨b0, b1, b2, b3, b4, b5, _⟩ := HE_hd hw h1
  have hl := span_LE hw h1 (show a ≤ a + 2 + i by omega) (by omega)
  unfold sfO sfY sfE
  rw [if_pos h, if_pos h, if_pos h, h5]
  have hk : ¬ (HK wo wy a = 3 ∨ HK wo wy a = 4) := by
    unfold stB at h2
    exact of_decide_eq_false h2
  exact ⟨(Chg.refl hw h1).store hw (by omega) (by omega), fun e => hk (.inr e), fun e => hk (.inl e), hl, st_LD hl u⟩
theorem sf_no {wo wy : List Int} {a i : Int} (u : Int) (h : fdE wo wy a i ≠ 0) : sfO wo wy a i u = wo ∧ sfY wo wy a i u = wy := by
  unfold sfO sfY
  rw [if_neg h, if_neg h]
  exact ⟨rfl, rfl⟩
theorem is_zero {p : Int → Bool} {wo wy : List Int} {a : Int} (h : isE p wo wy a = 0) : HE wo wy a = 0 ∧ p (HK wo wy a) = true := by
  unfold isE at h
  split at h
  · rename_i h1
    exact absurd h h1
  · rename_i h1
    split at h
    · rename_i h2
      exact ⟨by simpa using h1, h2⟩
    · cases h
theorem ts_zero {wo wy : List Int} {a n : Int} (h : tsE wo wy a n = 0) : HE wo wy a = 0 ∧ HK wo wy a ≠ 4 ∧ HK wo wy a ≠ 3 ∧ okM n = true := by
  unfold tsE at h
  split at h
  · rename_i h1
    exact absurd h h1
  · rename_i h1
    split at h
    · rename_i h2
      obtain ⟨h3, h4⟩ := is_zero (p := fun k => !stB k) (by simpa using h1)
      have hk : ¬ (HK wo wy a = 3 ∨ HK wo wy a = 4) := by
        unfold stB at h4
        simpa using h4
      exact ⟨h3, fun e => hk (.inr e), fun e => hk (.inl e), h2⟩
    · cases h
theorem hv_change {wo wy : List Int} {a k : Int} (h : HE wo wy a = 0) (hk : k = 3 ∨ k = 4) : hvB k (HC wo wy a) (HF wo wy a) = true := by
  have := hvB_iff.1 (hv_of h)
  rw [hvB_iff]
  omega
theorem ts_chg {wo wy : List Int} {a n : Int} (u : Int) (hw : wo.length ≤ 16777216) (h : tsE wo wy a n = 0) : Chg wo wy (tsM wo wy a n u).1 (tsM wo wy a n u).2 a 3 ∧ HK wo wy a ≠ 4 := by
  obtain ⟨h1, h2, _, _⟩ := ts_zero h
  unfold tsM
  rw [if_pos h]
  exact ⟨(wrM_chg hw h1 (hv_change h1 (.inl rfl))).1, h2⟩
theorem rr_chg {wo wy : List Int} {a n : Int} (u : Int) (hw : wo.length ≤ 16777216) (h : rrE wo wy a n = 0) : Chg wo wy (rrM wo wy a n u).1 (rrM wo wy a n u).2 a 3 ∧ HK wo wy a = 3 := by
  have h0 : sbE wo wy a = 0 := by
    unfold rrE at h
    split at h
    · rename_i h1
      exact absurd h h1
    · rename_i h1
      simpa using h1
  obtain ⟨h1, h2⟩ := is_zero (p := fun k => k == 3) h0
  have h2 : HK wo wy a = 3 := by simpa using h2
  obtain ⟨b0, b1, b2, b3, b4, b5, _⟩ := HE_hd hw h1
  have hc := Chg.refl hw h1
  rw [h2] at hc
  unfold rrM
  rw [if_pos h]
  exact ⟨(hc.store hw (Int.le_refl _) (by omega)).store hw (by omega) (by omega), h2⟩
theorem tf_zero {wo wy : List Int} {a t : Int} (h : tfE wo wy a t = 0) : HE wo wy a = 0 ∧ HK wo wy a ≠ 4 ∧ RE wo wy t = 0 ∧ RA wo wy t ≠ a := by
  unfold tfE at h
  split at h
  · rename_i h1
    exact absurd h h1
  · rename_i h1
    split at h
    · cases h
    · rename_i h2
      obtain ⟨h3, h4⟩ := is_zero (p := fun k => k != 4) (by simpa using h1)
      have h5 : ¬ (RE wo wy t ≠ 0 ∨ RA wo wy t = a) := by
        unfold tfB at h2
        simpa using h2
      exact ⟨h3, by simpa using h4, Decidable.byContradiction fun e => h5 (.inl e), fun e => h5 (.inr e)⟩
theorem tf_chg {wo wy : List Int} {a t : Int} (hw : wo.length ≤ 16777216) (h : tfE wo wy a t = 0) : Chg wo wy (tfM wo wy a t).1 (tfM wo wy a t).2 a 4 ∧ LD (tfM wo wy a t).1 (tfM wo wy a t).2 (a + 2) = faW t := by
  obtain ⟨h1, h2, _, _⟩ := tf_zero h
  obtain ⟨b0, b1, b2, b3, b4, b5, _⟩ := HE_hd hw h1
  unfold tfM
  rw [if_pos h]
  obtain ⟨k1, k2⟩ := wrM_chg (pl := [faW t]) hw h1 (hv_change h1 (.inr rfl))
  refine ⟨k1, ?_⟩
  have := k2 0 (by omega)
  simpa using this
theorem RE_HE {wo wy : List Int} {t : Int} (h : RE wo wy t = 0) : HE wo wy t = 0 := by
  unfold RE at h
  split at h
  · unfold rsv at h
    split at h
    · cases h
    · rename_i h1
      simpa using h1
  · rename_i h1
    exact absurd h h1
theorem Inv7.grow {x : S7} {wo' wy' : List Int} {a k c f m s : Int} (h : Inv7 x) (hlo' : wo'.length ≤ 16777216) (hly' : wy'.length ≤ 16777216) (h1 : x.wo.length ≤ wo'.length) (h2 : x.wy.length ≤ wy'.length) (hk : k ≠ 4) (hv : hvB k c f = true) (hid : idB m s = true)
    (hold : ∀ y, LE x.wo x.wy y = 0 → LD wo' wy' y = LD x.wo x.wy y) (hb0 : bsA a ≤ a) (hb1 : a + wordsI f ≤ bsA a + (wsA wo' wy' a).length) (hw0 : LD wo' wy' a = encI k c f) (hw1 : LD wo' wy' (a + 1) = idI m s)
    (hap : ∀ b ∈ x.l, b + wordsI (HF x.wo x.wy b) ≤ a ∨ a + wordsI f ≤ b) (hz : wo' ≠ [] → x.wo = [] → a = 0) : Inv7 ⟨wo', wy', x.l ++ [a]⟩ := by
  obtain ⟨d1, d2⟩ := did_id hid
  obtain ⟨s1, s2, s3, s4⟩ := hd_HE hlo' hb0 hb1 hv hw0 (by rw [hw1]; unfold didB; rw [d1, d2]; exact hid)
  have ho : ∀ b ∈ x.l, HE wo' wy' b = 0 ∧ HK wo' wy' b = HK x.wo x.wy b ∧ HF wo' wy' b = HF x.wo x.wy b ∧ LD wo' wy' (b + 2) = LD x.wo x.wy (b + 2) := fun b hb => by
    have hh := h.hd b hb
    obtain ⟨b0, b1, b2, b3, b4, b5, _⟩ := HE_hd h.lo hh
    obtain ⟨e1, e2, e3, e4⟩ := hd_same (wo' := wo') (wy' := wy') h.lo hlo' h1 h2 hh (hold _ (span_LE h.lo hh (by omega) (by omega))) (hold _ (span_LE h.lo hh (by omega) (by omega)))
    exact ⟨e1, e2, e4, hold _ (span_LE h.lo hh (by omega) (by omega))⟩
  have hcase : ∀ b ∈ x.l ++ [a], b ∈ x.l ∨ b = a := fun b hb => by
    rcases List.mem_append.1 hb with e | e
    · exact .inl e
    · exact .inr (List.mem_singleton.1 e)
  refine ⟨hlo', hly', fun b hb => ?_, fun b hb d hd => ?_, fun e => ?_, fun b hb e => ?_, fun b hb => ?_⟩
  · rcases hcase b hb with e | e
    · exact (ho b e).1
    · rw [e]; exact s1
  · show b = d ∨ b + wordsI (HF wo' wy' b) ≤ d ∨ d + wordsI (HF wo' wy' d) ≤ b
    rcases hcase b hb with e | e <;> rcases hcase d hd with e' | e'
    · rw [(ho b e).2.2.1, (ho d e').2.2.1]
      exact h.dj b e d e'
    · rw [(ho b e).2.2.1, e', s4]
      exact .inr (hap b e)
    · rw [(ho d e').2.2.1, e, s4]
      exact .inr (hap d e').symm
    · exact .inl (e.trans e'.symm)
  · show (0 : Int) ∈ x.l ++ [a]
    by_cases e0 : x.wo = []
    · rw [hz e e0]; simp
    · exact List.mem_append.2 (.inl (h.zr e0))
  · show adB (LD wo' wy' (b + 2)) = true ∧ adA (LD wo' wy' (b + 2)) ∈ x.l ++ [a]
    rcases hcase b hb with e' | e'
    · obtain ⟨_, o2, _, o4⟩ := ho b e'
      rw [o4]
      obtain ⟨g1, g2⟩ := h.fw b e' (o2.symm.trans e)
      exact ⟨g1, List.mem_append.2 (.inl g2)⟩
    · subst e'
      exact absurd (s2.symm.trans e) hk
  · show ∃ n r, rsv wo' wy' n b = (r, 0)
    rcases hcase b hb with e' | e'
    · obtain ⟨n, r, hr⟩ := h.rs b e'
      refine ⟨n, r, ?_⟩
      rw [← hr]
      exact rsv_sim (l := x.l) (fun c hc => ⟨h.hd c hc, fun e => (h.fw c hc e).2⟩) (fun c hc => ⟨(ho c hc).1, by rw [(ho c hc).2.1], fun _ => (ho c hc).2.2.2⟩) n b e'
    · subst e'
      exact ⟨1, b, rsv_end s1 (by rw [s2]; exact hk) 0⟩
theorem ld_app {bs : Int} {ws no : List Int} {z : Int} (h : inB bs ws.length z = true) : ldW bs (ws ++ no) z = ldW bs ws z := by
  obtain ⟨h0, h1⟩ := inB_iff.1 h
  have h' : inB bs (ws ++ no).length z = true := inB_iff.2 ⟨h0, by rw [List.length_append]; omega⟩
  rw [ld_in h, ld_in h']
  simp only [List.getD, List.getElem?_append_left (show (z - bs).toNat < ws.length by omega)]
theorem ld_new {bs : Int} {ws no : List Int} {j : Nat} (h : j < no.length) : ldW bs (ws ++ no) (bs + ws.length + j) = no.getD j 0 := by
  have h' : inB bs (ws ++ no).length (bs + ws.length + j) = true := inB_iff.2 ⟨by omega, by rw [List.length_append]; omega⟩
  rw [ld_in h', show (bs + ws.length + (j : Int) - bs).toNat = ws.length + j by omega]
  simp only [List.getD, List.getElem?_append_right (show ws.length ≤ ws.length + j by omega), show ws.length + j - ws.length = j by omega]
theorem al_zero {bs lm : Int} {ws : List Int} {k c f m s : Int} (h : alE bs lm ws k c f m s = 0) : hvB k c f = true ∧ idB m s = true ∧ bs + ws.length + wordsI f ≤ lm := by
  unfold alE at h
  split at h
  · rename_i h1
    split at h
    · rename_i h2
      simp only [Bool.and_eq_true] at h1
      exact ⟨h1.1, h1.2, h2⟩
    · cases h
  · cases h
/-- An allocation. -/
theorem Inv7.alloc {x : S7} {lo ly k c f m s : Int} {y : Bool} (h : Inv7 x) (hlo : lo ≤ 16777216) (hly : ly ≤ 33554432) (he : amE lo ly x.wo x.wy y k c f m s = 0) (hk : k ≠ 4) : Inv7 ⟨amO lo x.wo y k c f m s, amY ly x.wy y k c f m s, x.l ++ [amA lo ly x.wo x.wy y k c f m s]⟩ := by
  unfold amE at he
  unfold amO amY amA
  cases y
  · simp only [Bool.false_eq_true, if_false] at he ⊢
    obtain ⟨hv, hid, hf⟩ := al_zero he
    have hn := newObj_len (m := m) (s := s) hv
    have hq := wordsI_bd hv
    unfold alW alA
    rw [if_pos he, if_pos he]
    have hb : bsA (0 + (x.wo.length : Int)) = 0 := by unfold bsA; rw [if_neg (by omega)]
    have hb' : bsA (0 + (x.wo.length : Int) + 1) = 0 := by unfold bsA; rw [if_neg (by omega)]
    have hws : ∀ q : Int, q < 16777216 → ∀ A B : List Int, wsA A B q = A := fun q hq A B => by unfold wsA; rw [if_neg (by omega)]
    refine h.grow (k := k) (c := c) (f := f) (m := m) (s := s) ?_ h.ly ?_ (Nat.le_refl _) hk hv hid (fun z hz => ?_) ?_ ?_ ?_ ?_ (fun b hb => ?_) (fun _ e => ?_)
    · rw [List.length_append]; omega
    · rw [List.length_append]; omega
    · have hz := LE_iff.1 hz
      unfold LD bsA wsA at *
      by_cases g : 16777216 ≤ z
      · simp only [if_pos g]
      · simp only [if_neg g] at hz ⊢
        exact ld_app (inB_iff.2 hz)
    · rw [hb]; omega
    · rw [hb, hws _ (by omega), List.length_append]; omega
    · unfold LD
      rw [hb, hws _ (by omega)]
      have := ld_new (bs := 0) (ws := x.wo) (no := newObj k c f m s) (j := 0) (by omega)
      rw [show ((0 : Nat) : Int) = 0 from rfl, Int.add_zero] at this
      exact this
    · unfold LD
      rw [hb', hws _ (by omega)]
      have := ld_new (bs := 0) (ws := x.wo) (no := newObj k c f m s) (j := 1) (by omega)
      exact this
    · obtain ⟨b0, b1, _⟩ := HE_hd h.lo (h.hd b hb)
      unfold bsA at b0 b1
      unfold wsA at b1
      by_cases g : 16777216 ≤ b
      · exact .inr (by omega)
      · simp only [if_neg g] at b0 b1
        exact .inl b1
    · rw [e]; rfl
  · simp only [if_true] at he ⊢
    obtain ⟨hv, hid, hf⟩ := al_zero he
    have hn := newObj_len (m := m) (s := s) hv
    have hq := wordsI_bd hv
    unfold alW alA
    rw [if_pos he, if_pos he]
    have hb : bsA (16777216 + (x.wy.length : Int)) = 16777216 := by unfold bsA; rw [if_pos (by omega)]
    have hb' : bsA (16777216 + (x.wy.length : Int) + 1) = 16777216 := by unfold bsA; rw [if_pos (by omega)]
    have hws : ∀ q : Int, 16777216 ≤ q → ∀ A B : List Int, wsA A B q = B := fun q hq A B => by unfold wsA; rw [if_pos hq]
    refine h.grow (k := k) (c := c) (f := f) (m := m) (s := s) h.lo ?_ (Nat.le_refl _) ?_ hk hv hid (fun z hz => ?_) ?_ ?_ ?_ ?_ (fun b hb => ?_) (fun e e' => ?_)
    · rw [List.length_append]; omega
    · rw [List.length_append]; omega
    · have hz := LE_iff.1 hz
      unfold LD bsA wsA at *
      by_cases g : 16777216 ≤ z
      · simp only [if_pos g] at hz ⊢
        exact ld_app (inB_iff.2 hz)
      · simp only [if_neg g]
    · rw [hb]; omega
    · rw [hb, hws _ (by omega), List.length_append]; omega
    · unfold LD
      rw [hb, hws _ (by omega)]
      have := ld_new (bs := 16777216) (ws := x.wy) (no := newObj k c f m s) (j := 0) (by omega)
      rw [show ((0 : Nat) : Int) = 0 from rfl, Int.add_zero] at this
      exact this
    · unfold LD
      rw [hb', hws _ (by omega)]
      have := ld_new (bs := 16777216) (ws := x.wy) (no := newObj k c f m s) (j := 1) (by omega)
      exact this
    · obtain ⟨b0, b1, _⟩ := HE_hd h.lo (h.hd b hb)
      have e1 := h.lo
      unfold bsA at b0 b1
      unfold wsA at b1
      by_cases g : 16777216 ≤ b
      · simp only [if_pos g] at b0 b1
        exact .inl b1
      · simp only [if_neg g] at b0 b1
        exact .inl (by omega)
    · exact absurd e' e
theorem Inv7.step {x : S7} (h : Inv7 x) (o : Op7) (hs : skip7 false o = false) : Inv7 (step7 200 16777416 x o) := by
  obtain ⟨kd, k, c, f, m, s, a, b, i, u, raw⟩ := o
  unfold skip7 at hs
  simp only [Bool.not_false, Bool.true_and, Bool.or_eq_false_iff, beq_eq_false_iff_ne, Bool.and_eq_false_iff] at hs
  obtain ⟨⟨hr, h6⟩, hk⟩ := hs
  subst hr
  unfold step7
  simp only
  by_cases c0 : kd = 0 ∨ kd = 1
  · rw [if_pos c0]
    have hk4 : k ≠ 4 := by
      rcases hk with hk | hk
      · have := of_decide_eq_false hk; omega
      · exact hk
    by_cases he : amE 200 16777416 x.wo x.wy (kd == 1) k c f m s = 0
    · rw [if_pos he]
      exact h.alloc (by omega) (by omega) he hk4
    · rw [if_neg he]
      have e : amO 200 x.wo (kd == 1) k c f m s = x.wo ∧ amY 16777416 x.wy (kd == 1) k c f m s = x.wy := by
        unfold amE at he
        unfold amO amY alW
        clear c0
        generalize (kd == 1) = yy at *
        cases yy
        · simp only [Bool.false_eq_true, if_false] at he ⊢
          rw [if_neg he]
          simp
        · simp only [if_true] at he ⊢
          rw [if_neg he]
          simp
      rw [e.1, e.2]
      exact h
  rw [if_neg c0]
  by_cases c2 : kd = 2
  · rw [if_pos c2]
    by_cases hf : fdE x.wo x.wy (atW false x.l a) i = 0
    · obtain ⟨g1, g2, g3, _⟩ := sf_chg u h.lo hf
      exact h.chg (h.at_mem (fd_zero hf).1) g1 g2 g2
    · obtain ⟨g1, g2⟩ := sf_no u hf
      rw [g1, g2]
      exact h
  rw [if_neg c2]
  by_cases c3 : kd = 3
  · rw [if_pos c3]
    by_cases hf : tsE x.wo x.wy (atW false x.l a) i = 0
    · obtain ⟨g1, g2⟩ := ts_chg u h.lo hf
      exact h.chg (h.at_mem (ts_zero hf).1) g1 g2 (by omega)
    · unfold tsM
      rw [if_neg hf]
      exact h
  rw [if_neg c3]
  by_cases c4 : kd = 4
  · rw [if_pos c4]
    by_cases hf : rrE x.wo x.wy (atW false x.l a) i = 0
    · obtain ⟨g1, g2⟩ := rr_chg u h.lo hf
      exact h.chg (h.at_mem g1.hd) g1 (by omega) (by omega)
    · unfold rrM
      rw [if_neg hf]
      exact h
  rw [if_neg c4]
  by_cases c5 : kd = 5
  · rw [if_pos c5]
    by_cases hf : tfE x.wo x.wy (atW false x.l a) (atW false x.l b) = 0
    · obtain ⟨g1, g2⟩ := tf_chg h.lo hf
      obtain ⟨z1, z2, z3, z4⟩ := tf_zero hf
      exact (h.fwd (h.at_mem z1) (h.at_mem (RE_HE z3)) g1 g2 z2 z4).1
    · unfold tfM
      rw [if_neg hf]
      exact h
  rw [if_neg c5, if_neg h6]
  exact h
theorem inv_run (ops : List Op7) : ∀ x : S7, Inv7 x → Inv7 (run7 200 16777416 false x ops) := by
  induction ops with
  | nil => intro x h; exact h
  | cons o ops ih =>
    intro x h
    show Inv7 (run7 200 16777416 false (if skip7 false o then x else step7 200 16777416 x o) ops)
    apply ih
    cases hs : skip7 false o
    · exact h.step o hs
    · exact h
/-- The object that a small number chooses. -/
theorem lst_pick {w : World} {n0 : Nat} {A : Option Addr} {lc : Nat} {l : List Int} {n m : Nat} (h : w.ownsRow n0 3 1 (.slice A l.length lc) l.length (l.map (Value.int .i64))) (hm : l.length = m + 1) : ∃ G y, A = some ⟨G, 0, none⟩ ∧ y ∈ l ∧ w.cell? ⟨G, n % (m + 1), none⟩ = some (.int .i64 y) := by
  obtain ⟨A', c', e, hL, _, _⟩ := lst_of_row h
  cases e
  have hlt : n % (m + 1) < l.length := by rw [hm]; exact Nat.mod_lt _ (by omega)
  obtain ⟨G, hG, hc⟩ := hL _ _ (List.getElem?_eq_getElem hlt)
  exact ⟨G, _, hG, List.getElem_mem hlt, hc⟩
end Go.Proofs.Ytcmhgjkijegpnaa
namespace Go.Proofs.Ytcmhgjkijegpnaa
open Go.RowKit
set_option linter.unusedSimpArgs false
set_option linter.unusedVariables false

set_option maxRecDepth 100000 in
set_option maxHeartbeats 2000000 in
theorem words7_row {w : World} {bO bY : Nat} {lo ly : Int} {wo wy : List Int} {gO gY : Option Nat} (hm : MemAt w bO bY lo ly wo wy gO gY) :
    Calls Try.prog 19 #[.agg #[.pointer (some ⟨bO, 0, none⟩), .pointer (some ⟨bY, 0, none⟩)]] w fun e w' => ∃ v, e = .returned v ∧ w'.ownsRow w.heap.size 56 1 v (wo ++ wy).length ((wo ++ wy).map (Value.int .u64)) ∧ Below w.heap.size w w' := by
  obtain ⟨i0, hi, hz0, hz1, hz2⟩ := info_parts u64_info'
  have hml : maxLen = 9223372036854775807 := rfl
  have hbo := fun W (H : Below w.heap.size w W) => base_any (hm.below H).old
  have hby := fun W (H : Below w.heap.size w W) => base_any (hm.below H).yng
  have hto := fun W (H : Below w.heap.size w W) => top_any (hm.below H).old hm.okO
  have hty := fun W (H : Below w.heap.size w W) => top_any (hm.below H).yng hm.okY
  have hld := fun W (H : Below w.heap.size w W) (a : Int) => mload_any (hm.below H) a
  have l1 := hm.okO.top
  have l2 := hm.lim
  have l3 := hm.okY.top
  have l4 := hm.okY.lm1
  have l5 := hm.okO.lm1
  clear hm
  go_enter Try.func19, Try.ntmps19
  go_wp2_with fail
  have hr0 := World.ownsRow_made (w.alloc (.cells #[.pointer (some ⟨bO, 0, none⟩), .pointer (some ⟨bY, 0, none⟩)] 29)) (base := w.heap.size + 1) (e := 56) (size := 1) #[] 0 (by simp) (Nat.zero_le _) rfl
  rw [World.size_alloc] at hr0
  refine (hbo _ (by (repeat (first | exact Below.refl _ _ | assumption | refine Below.drew ?_ | refine below_drewN ?_ _ | refine balloc ?_ _ | refine Below.setCell ?_ (by first | (simp; done) | (simp; omega) | omega) _ | refine bchain (by assumption) ?_)))).mono ?_
  rintro e w1 ⟨rfl, hb1⟩
  have hr1 := row_below7 hr0 hb1
  have hB1 : Below w.heap.size w w1 := by (repeat (first | exact Below.refl _ _ | assumption | refine Below.drew ?_ | refine below_drewN ?_ _ | refine balloc ?_ _ | refine Below.setCell ?_ (by first | (simp; done) | (simp; omega) | omega) _ | refine bchain (by assumption) ?_))
  have k0 : w1.heap[w.heap.size]? = some (.cells #[.pointer (some ⟨bO, 0, none⟩), .pointer (some ⟨bY, 0, none⟩)] 29 (0, 0)) := bblock hb1 (by repeat (first | exact alloc_at _ (by simp) | refine alloc_lt _ ?_))
  clear hr0 hb1 hbo
  go_wp2_with fail
  go_loopw [3, 4] (fun p q wr => ∃ t : Nat, t ≤ wo.length ∧ q = .int .i64 (t : Int) ∧ wr.ownsRow (w.heap.size + 1) 56 1 p t ((wo.take t).map (Value.int .u64)) ∧ wr.heap[w.heap.size]? = some (.cells #[.pointer (some ⟨bO, 0, none⟩), .pointer (some ⟨bY, 0, none⟩)] 29 (0, 0)) ∧ Below w.heap.size w wr) (fun p q wr => 0 + wo.length - (intOf q).toNat)
  case atStart => exact ⟨0, Nat.zero_le _, rfl, by simpa using hr1, k0, hB1⟩
  case round =>
    clear hr1 hB1
    clear k0
    obtain ⟨t, ht, rfl, hown, k0, hbr⟩ := hrel
    have k0_0 : wr.cell? ⟨w.heap.size, 0, none⟩ = some (.pointer (some ⟨bO, 0, none⟩)) := by rw [cell_of_block k0]; rfl
    have k0_1 : wr.cell? ⟨w.heap.size, 1, none⟩ = some (.pointer (some ⟨bY, 0, none⟩)) := by rw [cell_of_block k0]; rfl
    go_wp2_with fail
    refine (hto _ hbr).mono ?_
    rintro e w2 ⟨rfl, hb2⟩
    have k0 := bblock hb2 k0
    have hown := row_below7 hown hb2
    have hB2 := bchain hb2 hbr
    clear k0_0 k0_1 hbr hb2
    have k0_0 : w2.cell? ⟨w.heap.size, 0, none⟩ = some (.pointer (some ⟨bO, 0, none⟩)) := by rw [cell_of_block k0]; rfl
    have k0_1 : w2.cell? ⟨w.heap.size, 1, none⟩ = some (.pointer (some ⟨bY, 0, none⟩)) := by rw [cell_of_block k0]; rfl
    by_cases hlt : t < wo.length
    · have hd : decide ((t : Int) < 0 + (wo.length : Int)) = true := by simpa using hlt
      have hl := hld w2 hB2 ((t : Int))
      rw [LD_old hlt (by omega)] at hl
      have hz_k0 : w.heap.size < w2.heap.size := (Array.getElem?_eq_some_iff.1 k0).1
      generalize hx : wo.getD t 0 = x at *
      have HX := Lib.hid hx
      clear hx
      have hw64 : IntKind.i64.wrap ((t : Int) + 1) = ((t + 1 : Nat) : Int) := by rw [show ((t : Int)) + 1 = ((t + 1 : Nat) : Int) by omega]; exact IntWalk.i64_in _ (by omega)
      go_wp2_with fail
      refine hl.mono ?_
      rintro e w3 ⟨rfl, hb3⟩
      have k0 := bblock hb3 k0
      have hown := row_below7 hown hb3
      have hB3 := bchain hb3 hB2
      clear k0_0 k0_1 hl hb3 hB2 hz_k0
      have k0_0 : w3.cell? ⟨w.heap.size, 0, none⟩ = some (.pointer (some ⟨bO, 0, none⟩)) := by rw [cell_of_block k0]; rfl
      have k0_1 : w3.cell? ⟨w.heap.size, 1, none⟩ = some (.pointer (some ⟨bY, 0, none⟩)) := by rw [cell_of_block k0]; rfl
      have hz_k0 : w.heap.size < w3.heap.size := (Array.getElem?_eq_some_iff.1 k0).1
      go_wp2_with (at_builtin; refine wpList_append_own _ rfl _ _ 31 rfl (w.heap.size + 1) 56 i0 (.int .u64 0) 1 8 Try.underlying31 hi hz0 hz1 hz2 rfl (by decide) _ _ _ rfl (hown.alloc _) ⟨w3.heap.size, 0, none⟩ 1 1 [.int .u64 x] rfl rfl (cell_one_new _ _ _) (by simp [Value.oneCell']) (by omega) (by omega) (by simp; omega) ?_; intro v' w4 hown' hgrow _)
      have hB4 : Below w.heap.size w w4 := (hB3.alloc (Nat.le_trans hB3.size (Nat.le_refl _)) _).grown hgrow (by simp; omega) (fun k e => by have := (hown.lt k e).1; omega)
      have k0 : w4.heap[w.heap.size]? = some (.cells #[.pointer (some ⟨bO, 0, none⟩), .pointer (some ⟨bY, 0, none⟩)] 29 (0, 0)) := (hgrow.block _ (by simp; omega) (fun e => by have := (hown.lt _ e.symm).1; omega)).trans (alloc_lt _ k0)
      go_wp2
      go_roundw
      case rel => exact ⟨t + 1, by omega, by go_num, by rw [take_snoc hlt, HX.out]; simpa only [List.map_append, List.map_cons, List.map_nil, List.append_assoc, Nat.add_assoc] using hown', k0, hB4⟩
      case measure => simp [intOf, hw64]; omega
    · have htl : t = wo.length := by omega
      subst htl
      have hd : decide ((wo.length : Int) < 0 + (wo.length : Int)) = false := by simp
      clear hlt
      rw [List.take_length] at hown
      have hz_k0 : w.heap.size < w2.heap.size := (Array.getElem?_eq_some_iff.1 k0).1
      go_wp2_with fail
      refine (hby _ hB2).mono ?_
      rintro e w5 ⟨rfl, hb5⟩
      have k0 := bblock hb5 k0
      have hr5 := row_below7 hown hb5
      have hB5 := bchain hb5 hB2
      clear k0_0 k0_1 hown hB2 hb5 hz_k0 hd hto hby
      go_wp2_with fail
      go_loopw [3, 7] (fun p q wr => ∃ t : Nat, t ≤ wy.length ∧ q = .int .i64 (16777216 + (t : Int)) ∧ wr.ownsRow (w.heap.size + 1) 56 1 p (wo.length + t) ((wo ++ wy.take t).map (Value.int .u64)) ∧ wr.heap[w.heap.size]? = some (.cells #[.pointer (some ⟨bO, 0, none⟩), .pointer (some ⟨bY, 0, none⟩)] 29 (0, 0)) ∧ Below w.heap.size w wr) (fun p q wr => 16777216 + wy.length - (intOf q).toNat)
      case atStart => exact ⟨0, Nat.zero_le _, by simp, by simpa using hr5, k0, hB5⟩
      case round =>
        clear hr5 hB5
        clear k0
        obtain ⟨t, ht, rfl, hown, k0, hbr⟩ := hrel
        have k0_0 : wr.cell? ⟨w.heap.size, 0, none⟩ = some (.pointer (some ⟨bO, 0, none⟩)) := by rw [cell_of_block k0]; rfl
        have k0_1 : wr.cell? ⟨w.heap.size, 1, none⟩ = some (.pointer (some ⟨bY, 0, none⟩)) := by rw [cell_of_block k0]; rfl
        go_wp2_with fail
        refine (hty _ hbr).mono ?_
        rintro e w2 ⟨rfl, hb2⟩
        have k0 := bblock hb2 k0
        have hown := row_below7 hown hb2
        have hB2 := bchain hb2 hbr
        clear k0_0 k0_1 hbr hb2
        have k0_0 : w2.cell? ⟨w.heap.size, 0, none⟩ = some (.pointer (some ⟨bO, 0, none⟩)) := by rw [cell_of_block k0]; rfl
        have k0_1 : w2.cell? ⟨w.heap.size, 1, none⟩ = some (.pointer (some ⟨bY, 0, none⟩)) := by rw [cell_of_block k0]; rfl
        by_cases hlt : t < wy.length
        · have hd : decide (16777216 + (t : Int) < 16777216 + (wy.length : Int)) = true := by simpa using hlt
          have hl := hld w2 hB2 (16777216 + (t : Int))
          rw [LD_yng hlt] at hl
          have hz_k0 : w.heap.size < w2.heap.size := (Array.getElem?_eq_some_iff.1 k0).1
          generalize hx : wy.getD t 0 = x at *
          have HX := Lib.hid hx
          clear hx
          have hw64 : IntKind.i64.wrap (16777216 + (t : Int) + 1) = 16777216 + ((t + 1 : Nat) : Int) := by rw [show (16777216 + (t : Int)) + 1 = 16777216 + ((t + 1 : Nat) : Int) by omega]; exact IntWalk.i64_in _ (by omega)
          go_wp2_with fail
          refine hl.mono ?_
          rintro e w3 ⟨rfl, hb3⟩
          have k0 := bblock hb3 k0
          have hown := row_below7 hown hb3
          have hB3 := bchain hb3 hB2
          clear k0_0 k0_1 hl hb3 hB2 hz_k0
          have k0_0 : w3.cell? ⟨w.heap.size, 0, none⟩ = some (.pointer (some ⟨bO, 0, none⟩)) := by rw [cell_of_block k0]; rfl
          have k0_1 : w3.cell? ⟨w.heap.size, 1, none⟩ = some (.pointer (some ⟨bY, 0, none⟩)) := by rw [cell_of_block k0]; rfl
          have hz_k0 : w.heap.size < w3.heap.size := (Array.getElem?_eq_some_iff.1 k0).1
          go_wp2_with (at_builtin; refine wpList_append_own _ rfl _ _ 31 rfl (w.heap.size + 1) 56 i0 (.int .u64 0) 1 8 Try.underlying31 hi hz0 hz1 hz2 rfl (by decide) _ _ _ rfl (hown.alloc _) ⟨w3.heap.size, 0, none⟩ 1 1 [.int .u64 x] rfl rfl (cell_one_new _ _ _) (by simp [Value.oneCell']) (by omega) (by omega) (by simp; omega) ?_; intro v' w4 hown' hgrow _)
          have hB4 : Below w.heap.size w w4 := (hB3.alloc (Nat.le_trans hB3.size (Nat.le_refl _)) _).grown hgrow (by simp; omega) (fun k e => by have := (hown.lt k e).1; omega)
          have k0 : w4.heap[w.heap.size]? = some (.cells #[.pointer (some ⟨bO, 0, none⟩), .pointer (some ⟨bY, 0, none⟩)] 29 (0, 0)) := (hgrow.block _ (by simp; omega) (fun e => by have := (hown.lt _ e.symm).1; omega)).trans (alloc_lt _ k0)
          go_wp2
          go_roundw
          case rel => exact ⟨t + 1, by omega, by go_num, by rw [take_snoc hlt, HX.out]; simpa only [List.map_append, List.map_cons, List.map_nil, List.append_assoc, Nat.add_assoc] using hown', k0, hB4⟩
          case measure => simp [intOf, hw64]; omega
        · have htl : t = wy.length := by omega
          subst htl
          have hd : decide (16777216 + (wy.length : Int) < 16777216 + (wy.length : Int)) = false := by simp
          clear hlt
          rw [List.take_length] at hown
          have hfin : w2.ownsRow w.heap.size 56 1 _ (wo ++ wy).length ((wo ++ wy).map (Value.int .u64)) := row_base7 (by simpa using hown) (Nat.le_succ _)
          go_wp2
          go_ret
          exact ⟨_, rfl, hfin, hB2⟩
end Go.Proofs.Ytcmhgjkijegpnaa
namespace Go.Proofs.Ytcmhgjkijegpnaa
open Go.RowKit
set_option linter.unusedSimpArgs false
set_option linter.unusedVariables false

theorem stW_back {bs : Int} {ws : List Int} {x u : Int} (hx : inB bs ws.length x = true) : stW bs (stW bs ws x u) x (ldW bs ws x) = ws := by
  obtain ⟨h0, h1⟩ := inB_iff.1 hx
  have e : stW bs ws x u = ws.set (x - bs).toNat u := by unfold stW; rw [if_pos hx]
  rw [e]
  unfold stW
  rw [List.length_set, if_pos hx, List.set_set, ld_in hx]
  have hi : (x - bs).toNat < ws.length := by omega
  rw [List.getD_eq_getElem?_getD, List.getElem?_eq_getElem hi, Option.getD_some]
  exact List.set_getElem_self hi
theorem st_back {wo wy : List Int} {x : Int} (hx : LE wo wy x = 0) (u : Int) : stO (stO wo x u) x (LD wo wy x) = wo ∧ stY (stY wy x u) x (LD wo wy x) = wy := by
  have hx := inB_iff.2 (LE_iff.1 hx)
  unfold stO stY LD bsA wsA at *
  by_cases h : 16777216 ≤ x
  · simp only [if_pos h] at hx ⊢
    exact ⟨trivial, stW_back hx⟩
  · simp only [if_neg h] at hx ⊢
    exact ⟨stW_back hx, trivial⟩
theorem ix_word {wo wy : List Int} {x : Int} (hw : wo.length ≤ 16777216) (hx : LE wo wy x = 0) : 0 ≤ ixA wo x ∧ ixA wo x < ((wo ++ wy).length : Int) ∧ (wo ++ wy)[(ixA wo x).toNat]? = some (LD wo wy x) := by
  have hx := LE_iff.1 hx
  have hb := inB_iff.2 hx
  unfold ixA LD bsA wsA at *
  rw [List.length_append]
  by_cases h : 16777216 ≤ x
  · simp only [if_pos h] at hx hb ⊢
    refine ⟨by omega, by omega, ?_⟩
    rw [ld_in hb, List.getElem?_append_right (by omega), show ((wo.length : Int) + x - 16777216).toNat - wo.length = (x - 16777216).toNat by omega]
    have hi : (x - 16777216).toNat < wy.length := by omega
    rw [List.getD_eq_getElem?_getD, List.getElem?_eq_getElem hi, Option.getD_some]
  · simp only [if_neg h] at hx hb ⊢
    refine ⟨by omega, by omega, ?_⟩
    have hi : x.toNat < wo.length := by omega
    rw [ld_in hb, List.getElem?_append_left hi, show (x - 0).toNat = x.toNat by omega, List.getD_eq_getElem?_getD, List.getElem?_eq_getElem hi, Option.getD_some]
/-- Everything that the law asks of a field. -/
theorem field_law {x : S7} (h : Inv7 x) {a : Int} (ha : a ∈ x.l) (i u : Int) :
    HE x.wo x.wy a = 0 ∧ (0 ≤ a ∧ a + 2 + HF x.wo x.wy a ≤ 33554432) ∧
    (HK x.wo x.wy a = 3 ∨ HK x.wo x.wy a = 4 → sfE x.wo x.wy a i = 7 ∧ sfO x.wo x.wy a i u = x.wo ∧ sfY x.wo x.wy a i u = x.wy) ∧
    (¬ (HK x.wo x.wy a = 3 ∨ HK x.wo x.wy a = 4) → (i < 0 ∨ HF x.wo x.wy a ≤ i) → sfE x.wo x.wy a i = 2 ∧ sfO x.wo x.wy a i u = x.wo ∧ sfY x.wo x.wy a i u = x.wy) ∧
    (¬ (HK x.wo x.wy a = 3 ∨ HK x.wo x.wy a = 4) → ¬ (i < 0 ∨ HF x.wo x.wy a ≤ i) → sfE x.wo x.wy a i = 0 ∧ FV (sfO x.wo x.wy a i u) (sfY x.wo x.wy a i u) a i = u ∧ (∀ k, 0 ≤ k → k < HF x.wo x.wy a → FE (sfO x.wo x.wy a i u) (sfY x.wo x.wy a i u) a k = 0) ∧
      (sfO x.wo x.wy a i u).length = x.wo.length ∧
      LE (sfO x.wo x.wy a i u) (sfY x.wo x.wy a i u) (a + 2 + i) = 0 ∧ 0 ≤ ixA x.wo (a + 2 + i) ∧ ixA x.wo (a + 2 + i) < ((x.wo ++ x.wy).length : Int) ∧ (x.wo ++ x.wy)[(ixA x.wo (a + 2 + i)).toNat]? = some (LD x.wo x.wy (a + 2 + i)) ∧
      stO (sfO x.wo x.wy a i u) (a + 2 + i) (LD x.wo x.wy (a + 2 + i)) = x.wo ∧ stY (sfY x.wo x.wy a i u) (a + 2 + i) (LD x.wo x.wy (a + 2 + i)) = x.wy) := by
  have hh := h.hd a ha
  have hlo := h.lo
  have hly := h.ly
  obtain ⟨b0, b1, b2, b3, b4, b5, _⟩ := HE_hd hlo hh
  have hbd : 0 ≤ a ∧ a + 2 + HF x.wo x.wy a ≤ 33554432 := by
    unfold bsA at b0 b1
    unfold wsA at b1
    by_cases g : 16777216 ≤ a
    · simp only [if_pos g] at b0 b1
      omega
    · simp only [if_neg g] at b0 b1
      omega
  have hst : ∀ {q : Prop}, (HK x.wo x.wy a = 3 ∨ HK x.wo x.wy a = 4) → stB (HK x.wo x.wy a) = true := fun e => by unfold stB; simpa using e
  refine ⟨hh, hbd, fun e => ?_, fun e e' => ?_, fun e e' => ?_⟩
  · have hf : fdE x.wo x.wy a i = 7 := by
      unfold fdE
      rw [if_neg (by simpa using hh), if_pos (hst (q := True) e)]
    obtain ⟨g1, g2⟩ := sf_no u (show fdE x.wo x.wy a i ≠ 0 by omega)
    refine ⟨?_, g1, g2⟩
    unfold sfE
    rw [hf]
    rfl
  · have hst' : stB (HK x.wo x.wy a) = false := by unfold stB; simpa using e
    have hf : fdE x.wo x.wy a i = 2 := by
      unfold fdE
      rw [if_neg (by simpa using hh), hst', if_neg (by simp), if_pos e']
    obtain ⟨g1, g2⟩ := sf_no u (show fdE x.wo x.wy a i ≠ 0 by omega)
    refine ⟨?_, g1, g2⟩
    unfold sfE
    rw [hf]
    rfl
  · have hst' : stB (HK x.wo x.wy a) = false := by unfold stB; simpa using e
    have hf : fdE x.wo x.wy a i = 0 := by
      unfold fdE
      rw [if_neg (by simpa using hh), hst', if_neg (by simp), if_neg e']
    obtain ⟨g1, g2, g3, g4, g5⟩ := sf_chg u hlo hf
    obtain ⟨s1, s2, s3, s4, _⟩ := g1.self hlo
    have hl := span_LE hlo hh (show a ≤ a + 2 + i by omega) (by omega)
    have hfd : ∀ k, 0 ≤ k → k < HF x.wo x.wy a → fdE (sfO x.wo x.wy a i u) (sfY x.wo x.wy a i u) a k = 0 := fun k k0 k1 => by
      unfold fdE
      rw [if_neg (by simpa using s1), s2, hst', if_neg (by simp), s4, if_neg (by omega)]
    have hfa : ∀ k, 0 ≤ k → k < HF x.wo x.wy a → fdA (sfO x.wo x.wy a i u) (sfY x.wo x.wy a i u) a k = a + 2 + k := fun k k0 k1 => by
      unfold fdA
      rw [if_pos (hfd k k0 k1)]
    have hll : LE (sfO x.wo x.wy a i u) (sfY x.wo x.wy a i u) (a + 2 + i) = 0 := by rw [LE_same g1.lo g1.ly]; exact hl
    obtain ⟨i1, i2, i3⟩ := ix_word hlo hl
    have hso : sfO x.wo x.wy a i u = stO x.wo (a + 2 + i) u ∧ sfY x.wo x.wy a i u = stY x.wy (a + 2 + i) u := by
      unfold sfO sfY
      rw [if_pos hf, if_pos hf, (fd_zero hf).2.2.2.2]
      exact ⟨rfl, rfl⟩
    obtain ⟨k1, k2⟩ := st_back hl u
    refine ⟨g4, ?_, fun k k0 k1 => ?_, g1.lo, hll, i1, i2, i3, ?_, ?_⟩
    · unfold FV
      rw [if_pos (hfd i (by omega) (by omega)), hfa i (by omega) (by omega), g5, if_pos rfl]
    · unfold FE
      rw [if_pos (hfd k k0 k1), hfa k k0 k1, LE_same g1.lo g1.ly]
      exact span_LE hlo hh (by omega) (by omega)
    · rw [hso.1]; exact k1
    · rw [hso.2]; exact k2
end Go.Proofs.Ytcmhgjkijegpnaa
namespace Go.Proofs.Ytcmhgjkijegpnaa
open Go.RowKit
set_option linter.unusedSimpArgs false
set_option linter.unusedVariables false

/-- What an operation on objects does: nothing, or a write into the object that it concerns. -/
theorem step_chg {x : S7} (h : Inv7 x) {o : Op7} (hr : o.raw = false) (h2 : 2 ≤ o.kd) (h5 : o.kd ≤ 5) :
    (step7 200 16777416 x o).l = x.l ∧ ((step7 200 16777416 x o = x) ∨ (atW false x.l o.a ∈ x.l ∧ ∃ k, Chg x.wo x.wy (step7 200 16777416 x o).wo (step7 200 16777416 x o).wy (atW false x.l o.a) k ∧
      (o.kd = 2 → ∃ z, ∀ y, y ≠ z → LD (step7 200 16777416 x o).wo (step7 200 16777416 x o).wy y = LD x.wo x.wy y))) := by
  obtain ⟨kd, k, c, f, m, s, a, b, i, u, raw⟩ := o
  simp only at hr h2 h5
  subst hr
  unfold step7
  simp only
  rw [if_neg (by omega)]
  by_cases c2 : kd = 2
  · rw [if_pos c2]
    by_cases hf : fdE x.wo x.wy (atW false x.l a) i = 0
    · obtain ⟨g1, g2, g3, g4, g5⟩ := sf_chg u h.lo hf
      exact ⟨rfl, .inr ⟨h.at_mem g1.hd, _, g1, fun _ => ⟨_, fun y hy => by rw [g5, if_neg hy]⟩⟩⟩
    · obtain ⟨g1, g2⟩ := sf_no u hf
      rw [g1, g2]
      exact ⟨rfl, .inl rfl⟩
  rw [if_neg c2]
  by_cases c3 : kd = 3
  · rw [if_pos c3]
    by_cases hf : tsE x.wo x.wy (atW false x.l a) i = 0
    · obtain ⟨g1, g2⟩ := ts_chg u h.lo hf
      exact ⟨rfl, .inr ⟨h.at_mem g1.hd, _, g1, fun e => absurd e c2⟩⟩
    · unfold tsM
      rw [if_neg hf]
      exact ⟨rfl, .inl rfl⟩
  rw [if_neg c3]
  by_cases c4 : kd = 4
  · rw [if_pos c4]
    by_cases hf : rrE x.wo x.wy (atW false x.l a) i = 0
    · obtain ⟨g1, g2⟩ := rr_chg u h.lo hf
      exact ⟨rfl, .inr ⟨h.at_mem g1.hd, _, g1, fun e => absurd e c2⟩⟩
    · unfold rrM
      rw [if_neg hf]
      exact ⟨rfl, .inl rfl⟩
  rw [if_neg c4]
  by_cases c5 : kd = 5
  · rw [if_pos c5]
    by_cases hf : tfE x.wo x.wy (atW false x.l a) (atW false x.l b) = 0
    · obtain ⟨g1, g2⟩ := tf_chg h.lo hf
      exact ⟨rfl, .inr ⟨h.at_mem g1.hd, _, g1, fun e => absurd e c2⟩⟩
    · unfold tfM
      rw [if_neg hf]
      exact ⟨rfl, .inl rfl⟩
  · omega
/-- The address of a word. -/
def adW (wo : List Int) (i : Nat) : Int := if i < wo.length then (i : Int) else 16777216 + ((i - wo.length : Nat) : Int)
theorem adW_LD {wo wy : List Int} {i : Nat} (hw : wo.length ≤ 16777216) (h : i < (wo ++ wy).length) : (wo ++ wy)[i]? = some (LD wo wy (adW wo i)) := by
  rw [List.length_append] at h
  unfold adW
  by_cases hi : i < wo.length
  · rw [if_pos hi, List.getElem?_append_left hi]
    have e : inB 0 wo.length (i : Int) = true := inB_iff.2 ⟨by omega, by omega⟩
    unfold LD bsA wsA
    rw [if_neg (by omega), if_neg (by omega), ld_in e, show ((i : Int) - 0).toNat = i by omega, List.getD_eq_getElem?_getD, List.getElem?_eq_getElem hi, Option.getD_some]
  · rw [if_neg hi, List.getElem?_append_right (by omega)]
    have e : inB 16777216 wy.length (16777216 + ((i - wo.length : Nat) : Int)) = true := inB_iff.2 ⟨by omega, by omega⟩
    have hj : i - wo.length < wy.length := by omega
    unfold LD bsA wsA
    rw [if_pos (by omega), if_pos (by omega), ld_in e, show (16777216 + ((i - wo.length : Nat) : Int) - 16777216).toNat = i - wo.length by omega, List.getD_eq_getElem?_getD, List.getElem?_eq_getElem hj, Option.getD_some]
/-- The number of words that differ among the first t. -/
def difs (xs ys : List Int) (t : Nat) : Nat := ((List.range t).filter (fun i => xs[i]? != ys[i]?)).length
theorem difs_succ (xs ys : List Int) (t : Nat) : difs xs ys (t + 1) = difs xs ys t + (if xs[t]? != ys[t]? then 1 else 0) := by
  unfold difs
  rw [List.range_succ, List.filter_append, List.length_append]
  cases h : (xs[t]? != ys[t]?) <;> simp [h]
theorem difs_le (xs ys : List Int) (t : Nat) : difs xs ys t ≤ t := by
  unfold difs
  have := List.length_filter_le (fun i => xs[i]? != ys[i]?) (List.range t)
  simpa using this
theorem difs_one {xs ys : List Int} {j : Nat} (h : ∀ i, i ≠ j → xs[i]? = ys[i]?) : ∀ t, difs xs ys t ≤ if j < t then 1 else 0 := by
  intro t
  induction t with
  | zero => simp [difs]
  | succ t ih =>
    rw [difs_succ]
    by_cases e : t = j
    · subst e
      rw [if_neg (show ¬ t < t by omega)] at ih
      rw [if_pos (show t < t + 1 by omega)]
      split <;> omega
    · rw [h t e]
      simp only [bne_self_eq_false, Bool.false_eq_true, if_false]
      by_cases hj : j < t
      · rw [if_pos hj] at ih
        rw [if_pos (show j < t + 1 by omega)]
        omega
      · rw [if_neg hj] at ih
        rw [if_neg (show ¬ j < t + 1 by omega)]
        omega
/-- The size that the law gives an object. -/
def szK (wo wy : List Int) (a : Int) : Int := if HE wo wy a = 0 then 2 + max 2 (HF wo wy a) else 0
/-- Everything that the law asks of an operation. -/
theorem keeps_law {x : S7} (h : Inv7 x) {o : Op7} (hr : o.raw = false) (h2 : 2 ≤ o.kd) (h5 : o.kd ≤ 5) {y : S7} (hy : y = step7 200 16777416 x o) {a : Int} (ha : a = atW false x.l o.a) :
    y.l = x.l ∧ y.wo.length = x.wo.length ∧ y.wy.length = x.wy.length ∧ (x.wo.length ≤ 16777216 ∧ x.wy.length ≤ 16777216) ∧
    (∀ b ∈ x.l, HE x.wo x.wy b = 0 ∧ HE y.wo y.wy b = 0 ∧ OM y.wo y.wy b = OM x.wo x.wy b ∧ OS y.wo y.wy b = OS x.wo x.wy b ∧ HC y.wo y.wy b = HC x.wo x.wy b ∧ HF y.wo y.wy b = HF x.wo x.wy b ∧ (b ≠ a → HK y.wo y.wy b = HK x.wo x.wy b)) ∧
    (a = 0 ∨ a ∈ x.l) ∧
    (HE y.wo y.wy a = 0 → 0 ≤ HF y.wo y.wy a ∧ HF y.wo y.wy a ≤ 30) ∧
    (∀ i : Nat, i < (x.wo ++ x.wy).length → (x.wo ++ x.wy)[i]? ≠ (y.wo ++ y.wy)[i]? → ixA x.wo a ≤ (i : Int) ∧ (i : Int) < ixA x.wo a + szK y.wo y.wy a) ∧
    (o.kd = 2 → ∀ t, difs (x.wo ++ x.wy) (y.wo ++ y.wy) t ≤ 1) := by
  obtain ⟨e1, e2⟩ := step_chg h hr h2 h5
  rw [← hy] at e1 e2
  rw [← ha] at e2
  have ham : a = 0 ∨ a ∈ x.l := by
    rw [ha]
    unfold atW
    rw [if_neg (by simp)]
    by_cases hc : x.l = [] ∨ o.a < 0
    · rw [if_pos hc]; exact .inl rfl
    · rw [if_neg hc]
      have hp : 0 < x.l.length := List.length_pos_iff.2 (fun e => hc (.inl e))
      have hlt := Nat.mod_lt o.a.toNat hp
      rw [List.getD_eq_getElem?_getD, List.getElem?_eq_getElem hlt]
      exact .inr (List.getElem_mem hlt)
  have hbd : ∀ q : S7, HE q.wo q.wy a = 0 → 0 ≤ HF q.wo q.wy a ∧ HF q.wo q.wy a ≤ 30 := fun q e => ⟨(HE_bd e).2.1, (HE_bd e).2.2.1⟩
  rcases e2 with e2 | ⟨hm, k, hc, h1⟩
  · rw [e2]
    refine ⟨rfl, rfl, rfl, ⟨h.lo, h.ly⟩, fun b hb => ⟨h.hd b hb, h.hd b hb, rfl, rfl, rfl, rfl, fun _ => rfl⟩, ham, hbd x, fun i _ hn => absurd rfl hn, fun _ t => ?_⟩
    have : difs (x.wo ++ x.wy) (x.wo ++ x.wy) t ≤ if t < t then 1 else 0 := difs_one (j := t) (fun _ _ => rfl) t
    rw [if_neg (Nat.lt_irrefl t)] at this
    exact Nat.le_trans this (Nat.zero_le _)
  · obtain ⟨s1, s2, s3, s4, s5, s6⟩ := hc.self h.lo
    have hll : (y.wo ++ y.wy).length = (x.wo ++ x.wy).length := by rw [List.length_append, List.length_append, hc.lo, hc.ly]
    have hwd : ∀ i : Nat, (x.wo ++ x.wy)[i]? ≠ (y.wo ++ y.wy)[i]? → i < (x.wo ++ x.wy).length ∧ LD y.wo y.wy (adW x.wo i) ≠ LD x.wo x.wy (adW x.wo i) := fun i hn => by
      by_cases hi : i < (x.wo ++ x.wy).length
      · refine ⟨hi, fun e => hn ?_⟩
        have e3 : adW y.wo i = adW x.wo i := by unfold adW; rw [hc.lo]
        rw [adW_LD h.lo hi, adW_LD (by rw [hc.lo]; exact h.lo) (by omega), e3, e]
      · exact absurd ((List.getElem?_eq_none (by omega)).trans (List.getElem?_eq_none (by omega)).symm) hn
    have hfar : ∀ i : Nat, (x.wo ++ x.wy)[i]? ≠ (y.wo ++ y.wy)[i]? → i < (x.wo ++ x.wy).length ∧ a ≤ adW x.wo i ∧ adW x.wo i < a + wordsI (HF x.wo x.wy a) := fun i hn => by
      obtain ⟨n1, n2⟩ := hwd i hn
      refine ⟨n1, Decidable.byContradiction fun q => n2 ?_, Decidable.byContradiction fun q => n2 ?_⟩
      · exact hc.far _ (.inl (by omega))
      · exact hc.far _ (.inr (by omega))
    obtain ⟨b0, b1, b2, b3, b4, b5, _⟩ := HE_hd h.lo hc.hd
    refine ⟨e1, hc.lo, hc.ly, ⟨h.lo, h.ly⟩, fun b hb => ?_, ham, hbd y, fun i hi hn => ?_, fun e t => ?_⟩
    · by_cases e : b = a
      · subst e
        exact ⟨hc.hd, s1, s5, s6, s3, s4, fun q => absurd rfl q⟩
      · obtain ⟨o1, o2, o3, o4, o5, o6, _⟩ := hc.other h.lo (h.hd b hb) ((h.dj a hm b hb).resolve_left (Ne.symm e))
        exact ⟨h.hd b hb, o1, o5, o6, o3, o4, fun _ => o2⟩
    · obtain ⟨_, n1, n2⟩ := hfar i hn
      have hz : szK y.wo y.wy a = wordsI (HF x.wo x.wy a) := by
        unfold szK
        rw [if_pos s1, s4]
        unfold wordsI
        have := (HE_bd hc.hd).2.1
        split <;> omega
      rw [hz]
      have hlo := h.lo
      unfold adW at n1 n2
      unfold bsA at b0 b1
      unfold wsA at b1
      unfold ixA
      rw [List.length_append] at hi
      by_cases g : 16777216 ≤ a
      · simp only [if_pos g] at b0 b1 ⊢
        by_cases hi2 : i < x.wo.length
        · rw [if_pos hi2] at n1 n2
          omega
        · rw [if_neg hi2] at n1 n2
          omega
      · simp only [if_neg g] at b0 b1 ⊢
        by_cases hi2 : i < x.wo.length
        · rw [if_pos hi2] at n1 n2
          omega
        · rw [if_neg hi2] at n1 n2
          omega
    · obtain ⟨z, hz⟩ := h1 e
      by_cases hq : ∃ j : Nat, (x.wo ++ x.wy)[j]? ≠ (y.wo ++ y.wy)[j]?
      · obtain ⟨j, hj⟩ := hq
        have ej : adW x.wo j = z := Decidable.byContradiction fun q => (hwd j hj).2 (hz _ q)
        have := difs_one (xs := x.wo ++ x.wy) (ys := y.wo ++ y.wy) (j := j) (fun i hi => Decidable.byContradiction fun q => by
          have ei : adW x.wo i = z := Decidable.byContradiction fun q' => (hwd i q).2 (hz _ q')
          have hlo := h.lo
          have := (hwd i q).1
          have := (hwd j hj).1
          apply hi
          rw [← ej] at ei
          unfold adW at ei
          split at ei <;> split at ei <;> omega) t
        exact Nat.le_trans this (by split <;> omega)
      · have := difs_one (xs := x.wo ++ x.wy) (ys := y.wo ++ y.wy) (j := 0) (fun i _ => Decidable.byContradiction fun q => hq ⟨i, q⟩) t
        exact Nat.le_trans this (by split <;> omega)
end Go.Proofs.Ytcmhgjkijegpnaa
