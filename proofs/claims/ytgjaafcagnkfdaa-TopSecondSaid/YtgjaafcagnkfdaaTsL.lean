/-
  nursery.Collect: place into a clone and into the old space.
-/
import Derived.Test.YtgjaafcagnkfdaaTsK
namespace Go.Proofs.Ytgjaafcagnkfdaa
open Go.RowKit Go.Maps
set_option linter.unusedSimpArgs false
set_option linter.unusedVariables false

theorem mem_oldg {w : World} {bO bY : Nat} {lo ly : Int} {wo wy : List Int} {gO gY : Option Nat} (hm : MemAt w bO bY lo ly wo wy gO gY) {w' : World} {wo' : List Int} {g' : Option Nat} (hs : SpAt w' bO 0 lo wo' g') (hM : Mods (SpS bO gO) w w') (hg : ∀ G, g' = some G → gO = some G ∨ w.heap.size ≤ G) (hk : SpOk 0 lo wo') : MemAt w' bO bY lo ly wo' wy g' gY := by
  have l1 := hm.yng.lt
  have l2 := hm.yng.glt
  refine ⟨hs, hm.yng.mods hM (not_sps (Ne.symm hm.bb) (fun G e => fun h => hm.gb (by rw [e, h]))) (fun G e => not_sps (fun h => hm.bg (by rw [e, h])) (fun G' e' h => hm.gg G' e' (by rw [e, h]))), hk, hm.okY, hm.lim, hm.bb, fun e => ?_, hm.bg, fun G e e' => ?_⟩
  · rcases hg _ e with h | h
    · exact hm.gb h
    · omega
  · rcases hg _ e with h | h
    · exact hm.gg G h e'
    · have := l2 G e'; omega
theorem OM_y {wo wo' wy : List Int} {a : Int} (h : 16777216 ≤ a) : OM wo wy a = OM wo' wy a ∧ OS wo wy a = OS wo' wy a := by
  unfold OM OS
  rw [(HE_y (wo := wo) (wo' := wo') (wy := wy) h).1, LD_y (wo := wo) (wo' := wo') (wy := wy) (show 16777216 ≤ a + 1 by omega)]
  exact ⟨rfl, rfl⟩
theorem id_of {wo wy : List Int} {a : Int} (hl : (wo.length : Int) ≤ 16777216) (h : HE wo wy a = 0) : idB (OM wo wy a) (OS wo wy a) = true := by
  have h0 : hdE (bsA a) (wsA wo wy a) a = 0 := h
  obtain ⟨h1, h2, h3, h4⟩ := hd_bd h0
  obtain ⟨o1, o2, o3, o4⟩ := obB_iff.1 h2
  have hw := wordsI_bd h3
  have h6 := inB_iff.1 h1
  have hb : bsA (a + 1) = bsA a ∧ wsA wo wy (a + 1) = wsA wo wy a := by
    by_cases hc : 16777216 ≤ a
    · unfold bsA wsA
      rw [if_pos (by omega), if_pos hc, if_pos (by omega), if_pos hc]
      exact ⟨rfl, rfl⟩
    · have e0 : bsA a = 0 := by unfold bsA; rw [if_neg hc]
      have e1 : wsA wo wy a = wo := by unfold wsA; rw [if_neg hc]
      rw [e0, e1] at h4 hw
      rw [e0, e1]
      unfold bsA wsA
      rw [if_neg (by omega), if_neg (by omega)]
      exact ⟨rfl, rfl⟩
  have hd : didB (LD wo wy (a + 1)) = true := by
    unfold LD
    rw [hb.1, hb.2, ld_in (inB_iff.2 ⟨by omega, by omega⟩), show (a + 1 - bsA a).toNat = (a - bsA a).toNat + 1 by omega]
    exact o3
  unfold OM OS iM iS
  rw [if_pos h, if_pos h, hd, if_pos rfl, if_pos rfl]
  unfold didB at hd
  exact hd
/-- The words of an object's copy, as place lays it. -/
def nWd (wo wy : List Int) (a : Int) : List Int := newObj 0 (HC wo wy a) (HF wo wy a) (OM wo wy a) (OS wo wy a)
theorem nWd_len {wo wy : List Int} {a : Int} (h : YO wo wy a) : ((nWd wo wy a).length : Int) = wordsI (HF wo wy a) := newObj_len (by have := hv_of h.2.1; rw [h.2.2] at this; exact this)
theorem plW_mono (nW : Int → List Int) : ∀ (l ws : List Int), ws.length ≤ (plW nW ws l).length := by
  intro l
  induction l with
  | nil => intro ws; exact Nat.le_refl _
  | cons a l ih =>
    intro ws
    have h1 := ih (ws ++ nW a)
    rw [List.length_append] at h1
    have e : plW nW ws (a :: l) = plW nW (ws ++ nW a) l := rfl
    rw [e]
    omega
theorem plW_take (nW : Int → List Int) (l ws : List Int) (t : Nat) : (plW nW ws (l.take t)).length ≤ (plW nW ws l).length := by
  have h := plW_mono nW (l.drop t) (plW nW ws (l.take t))
  have e : plW nW ws l = plW nW (plW nW ws (l.take t)) (l.drop t) := by
    conv => lhs; rw [← List.take_append_drop t l]
    unfold plW
    rw [List.foldl_append]
  rw [e]
  exact h
theorem al_room {wo wy ws : List Int} {lo : Int} {a : Int} (hl : (wo.length : Int) ≤ 16777216) (h : YO wo wy a) (hr : ((ws ++ nWd wo wy a).length : Int) ≤ lo) : alE 0 lo ws 0 (HC wo wy a) (HF wo wy a) (OM wo wy a) (OS wo wy a) = 0 ∧ alA 0 lo ws 0 (HC wo wy a) (HF wo wy a) (OM wo wy a) (OS wo wy a) = ws.length ∧ alW 0 lo ws 0 (HC wo wy a) (HF wo wy a) (OM wo wy a) (OS wo wy a) = ws ++ nWd wo wy a := by
  have h1 := nWd_len h
  rw [List.length_append] at hr
  have hv := hv_of h.2.1
  rw [h.2.2] at hv
  have e : alE 0 lo ws 0 (HC wo wy a) (HF wo wy a) (OM wo wy a) (OS wo wy a) = 0 := by
    unfold alE
    rw [hv, id_of hl h.2.1]
    simp
    omega
  refine ⟨e, ?_, ?_⟩
  · unfold alA; rw [if_pos e]; omega
  · unfold alW; rw [if_pos e]; rfl
/-- place in a clone of the old space. -/
theorem plr_clone {w : World} {bO bY : Nat} {lo ly : Int} {wo wy : List Int} {gO gY : Option Nat} (hm : MemAt w bO bY lo ly wo wy gO gY) {sp wC : Nat} (hms : ∀ k, MS bO bY gO gY k → k < wC) (hsp : wC ≤ sp ∧ sp < w.heap.size) (hwC : wC ≤ w.heap.size) {l : List Int} (hyo : ∀ a ∈ l, YO wo wy a) (hroom : ((plW (nWd wo wy) wo l).length : Int) ≤ lo) :
    PlR w bO bY sp l wo (nWd wo wy) (HC wo wy) (HF wo wy) (OM wo wy) (OS wo wy) (fun ws g W => MemAt W bO bY lo ly wo wy gO gY ∧ SpAt W sp 0 lo ws g ∧ SpOk 0 lo ws ∧ ∀ G, g = some G → wC ≤ G) := by
  have hlen : (wo.length : Int) ≤ 16777216 := by have := hm.okO.top; have := hm.lim; omega
  have hlim := hm.lim
  refine ⟨fun ws g W W' S0 h hM hS => ⟨h.1.mods hM (fun k hk hs => by have := hms k hk; have := (hS k hs).1; omega), h.2.1.mods hM (fun hs => by have := (hS sp hs).1; omega) (fun G e hs => (hS G hs).2 e), h.2.2⟩, fun ws g W a ha h => ?_, fun ws g W a ha h => ?_, fun t g W a ha h => ?_, fun t => ?_⟩
  · have := mhdr_any h.1 a
    rw [(hyo a ha).2.1, (hyo a ha).2.2] at this
    exact this
  · have := mid_any h.1 a
    rw [(hyo a ha).2.1] at this
    exact this
  · have hya := hyo a (List.mem_of_getElem? ha)
    have hr : ((plW (nWd wo wy) wo (l.take t) ++ nWd wo wy a).length : Int) ≤ lo := by
      rw [← plW_snoc, ← take_snoc7 ha]
      have := plW_take (nWd wo wy) l wo (t + 1)
      omega
    obtain ⟨e1, e2, e3⟩ := al_room hlen hya hr
    have hA := alloc_any h.2.1 h.2.2.1 0 (HC wo wy a) (HF wo wy a) (OM wo wy a) (OS wo wy a)
    have hk := alOk h.2.2.1 0 (HC wo wy a) (HF wo wy a) (OM wo wy a) (OS wo wy a)
    rw [e1, e2, e3] at hA
    rw [e3] at hk
    refine hA.mono ?_
    rintro e W' ⟨rfl, g', h1, h2, h3⟩
    have hz := h2.size
    have hlt := h.2.1.lt
    exact ⟨rfl, g', ⟨h.1.mods h2 (fun k hk hs => by
      have := hms k hk
      rcases hs with e | e
      · omega
      · have := h.2.2.2 k e; omega), h1, hk, fun G e => (h3 G e).elim (h.2.2.2 G) (fun h => by omega)⟩, h2, h3⟩
  · have := plW_take (nWd wo wy) l wo t
    omega
/-- place in the old space itself. -/
theorem plr_old {w : World} {bO bY : Nat} {lo ly : Int} {wo wy : List Int} {gO gY : Option Nat} (hm : MemAt w bO bY lo ly wo wy gO gY) {l : List Int} (hyo : ∀ a ∈ l, YO wo wy a) (hroom : ((plW (nWd wo wy) wo l).length : Int) ≤ lo) :
    PlR w bO bY bO l wo (nWd wo wy) (HC wo wy) (HF wo wy) (OM wo wy) (OS wo wy) (fun ws g W => MemAt W bO bY lo ly ws wy g gY) := by
  have hlen : (wo.length : Int) ≤ 16777216 := by have := hm.okO.top; have := hm.lim; omega
  have hlim := hm.lim
  have l1 := hm.old.lt
  have l2 := hm.yng.lt
  have l3 := hm.yng.glt
  refine ⟨fun ws g W W' S0 h hM hS => h.mods hM (fun k hk hs => ?_), fun ws g W a ha h => ?_, fun ws g W a ha h => ?_, fun t g W a ha h => ?_, fun t => ?_⟩
  · have h1 := hS k hs
    rcases hk with (e | e) | (e | e)
    · omega
    · exact h1.2 e
    · omega
    · have := l3 k e; omega
  · have hya := hyo a ha
    have := mhdr_any h a
    obtain ⟨e1, e2, e3, e4⟩ := HE_y (wo := ws) (wo' := wo) (wy := wy) hya.1
    rw [e1, e2, e3, e4, hya.2.1, hya.2.2] at this
    exact this
  · have hya := hyo a ha
    have := mid_any h a
    obtain ⟨e1, _⟩ := HE_y (wo := ws) (wo' := wo) (wy := wy) hya.1
    obtain ⟨e2, e3⟩ := OM_y (wo := ws) (wo' := wo) (wy := wy) hya.1
    rw [e1, e2, e3, hya.2.1] at this
    exact this
  · have hya := hyo a (List.mem_of_getElem? ha)
    have hr : ((plW (nWd wo wy) wo (l.take t) ++ nWd wo wy a).length : Int) ≤ lo := by
      rw [← plW_snoc, ← take_snoc7 ha]
      have := plW_take (nWd wo wy) l wo (t + 1)
      omega
    obtain ⟨e1, e2, e3⟩ := al_room hlen hya hr
    have hA := alloc_any h.old h.okO 0 (HC wo wy a) (HF wo wy a) (OM wo wy a) (OS wo wy a)
    have hk := alOk h.okO 0 (HC wo wy a) (HF wo wy a) (OM wo wy a) (OS wo wy a)
    rw [e1, e2, e3] at hA
    rw [e3] at hk
    refine hA.mono ?_
    rintro e W' ⟨rfl, g', h1, h2, h3⟩
    exact ⟨rfl, g', mem_oldg h h1 h2 h3 hk, h2, h3⟩
  · have := plW_take (nWd wo wy) l wo t
    omega
theorem okT_base {bs : Int} {ws : List Int} (h : Sound ws) : okT bs ws bs := by
  cases hz : szB ws 0
  · have h0 : stopAt ws 0 = ws.length := h
    rw [stopAt_no hz] at h0
    exact ⟨(bs + ((0 : Nat) : Int), false), by rw [seqL_no hz]; simp, by show bs + ((0 : Nat) : Int) = bs; omega, .inr (by omega)⟩
  · exact ⟨(bs + ((0 : Nat) : Int), true), by rw [seqL_yes hz]; simp, by show bs + ((0 : Nat) : Int) = bs; omega, .inl rfl⟩
theorem trW_base {bs : Int} {ws : List Int} (h : Sound ws) : trW bs ws bs = [] := by
  unfold trW
  rw [if_pos (okT_base h)]
  simp
/-- The remembered slots, moved. -/
def rmW (S : List (Int × Int)) (ws : List Int) (l : List Int) : List Int := l.foldl (fun ws q => ws.set q.toNat (mvS S (ws.getD q.toNat 0))) ws
theorem rmW_snoc (S : List (Int × Int)) (ws l : List Int) (q : Int) : rmW S ws (l ++ [q]) = (rmW S ws l).set q.toNat (mvS S ((rmW S ws l).getD q.toNat 0)) := by unfold rmW; rw [List.foldl_append]; rfl
/-- The objects, copied. -/
def coW (wo wy : List Int) (S : List (Int × Int)) (ws : List Int) (l : List Int) : List Int := l.foldl (fun ws a => cpW wy S a (HF wo wy a) ((toF S a).getD 0).toNat ws ((wordsI (HF wo wy a)).toNat - 2)) ws
theorem coW_snoc (wo wy : List Int) (S : List (Int × Int)) (ws l : List Int) (a : Int) : coW wo wy S ws (l ++ [a]) = cpW wy S a (HF wo wy a) ((toF S a).getD 0).toNat (coW wo wy S ws l) ((wordsI (HF wo wy a)).toNat - 2) := by unfold coW; rw [List.foldl_append]; rfl
theorem rmW_len (S : List (Int × Int)) : ∀ (l ws : List Int), (rmW S ws l).length = ws.length := by
  intro l
  induction l with
  | nil => intro ws; rfl
  | cons q l ih =>
    intro ws
    have e : rmW S ws (q :: l) = rmW S (ws.set q.toNat (mvS S (ws.getD q.toNat 0))) l := rfl
    rw [e, ih, List.length_set]
theorem coW_len (wo wy : List Int) (S : List (Int × Int)) : ∀ (l ws : List Int), (coW wo wy S ws l).length = ws.length := by
  intro l
  induction l with
  | nil => intro ws; rfl
  | cons a l ih =>
    intro ws
    have e : coW wo wy S ws (a :: l) = coW wo wy S (cpW wy S a (HF wo wy a) ((toF S a).getD 0).toNat ws ((wordsI (HF wo wy a)).toNat - 2)) l := rfl
    rw [e, ih, cpW_len]
end Go.Proofs.Ytgjaafcagnkfdaa
