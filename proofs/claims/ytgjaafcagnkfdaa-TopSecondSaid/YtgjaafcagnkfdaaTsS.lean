/-
  TopSecond: the memory that operations make, in plain Lean.
-/
import Derived.Test.YtgjaafcagnkfdaaTsW
namespace Go.Proofs.Ytgjaafcagnkfdaa
open Go.RowKit Go.Maps
set_option linter.unusedSimpArgs false
set_option linter.unusedVariables false

structure Op6 where
  kd : Int
  k : Int
  c : Int
  f : Int
  m : Int
  s : Int
  a : Int
  u : Int
def szO (o : Op6) : Nat := (wordsI o.f).toNat
def okO (o : Op6) : Prop := hvB o.k o.c o.f = true ∧ idB o.m o.s = true
/-- How many words they take. -/
def tot : List Op6 → Nat
  | [] => 0
  | o :: l => szO o + tot l
/-- The objects lie from place p to the end. -/
def MadeFrom (ws : List Int) : List Op6 → Nat → Prop
  | [], p => p = ws.length
  | o :: l, p => okO o ∧ ws.getD p 0 = encI o.k o.c o.f ∧ ws.getD (p + 1) 0 = idI o.m o.s ∧ MadeFrom ws l (p + szO o)
/-- Their places. -/
def plc : List Op6 → Nat → List Nat
  | [], _ => []
  | o :: l, p => p :: plc l (p + szO o)
theorem szO_bd {o : Op6} (h : okO o) : 4 ≤ szO o ∧ szO o ≤ 32 ∧ (szO o : Int) = wordsI o.f := by
  have := wordsI_bd h.1
  unfold szO
  omega
theorem made_len {ws : List Int} : ∀ (l : List Op6) (p : Nat), MadeFrom ws l p → p + tot l = ws.length := by
  intro l
  induction l with
  | nil => intro p h; exact h
  | cons o l ih =>
    intro p h
    have := ih _ h.2.2.2
    simp only [tot]
    omega
theorem made_app {ws : List Int} {o : Op6} (ho : okO o) : ∀ (l : List Op6) (p : Nat), MadeFrom ws l p → MadeFrom (ws ++ newObj o.k o.c o.f o.m o.s) (l ++ [o]) p := by
  intro l
  induction l with
  | nil =>
    intro p h
    have h : p = ws.length := h
    subst h
    have hz := newObj_len (m := o.m) (s := o.s) ho.1
    have hs := szO_bd ho
    refine ⟨ho, ?_, ?_, ?_⟩
    · rw [List.getD_eq_getElem?_getD, List.getElem?_append_right (by omega), Nat.sub_self]
      rfl
    · rw [List.getD_eq_getElem?_getD, List.getElem?_append_right (by omega), Nat.add_sub_cancel_left]
      rfl
    · show ws.length + szO o = (ws ++ newObj o.k o.c o.f o.m o.s).length
      rw [List.length_append]
      omega
  | cons x l ih =>
    intro p h
    have hl := made_len _ _ h
    have hs := szO_bd h.1
    simp only [tot] at hl
    refine ⟨h.1, ?_, ?_, ih _ h.2.2.2⟩
    · rw [getD_app (by omega)]; exact h.2.1
    · rw [getD_app (by omega)]; exact h.2.2.1
theorem made_set {ws : List Int} {q : Nat} {u : Int} : ∀ (l : List Op6) (p : Nat), MadeFrom ws l p → (∀ p' ∈ plc l p, q ≠ p' ∧ q ≠ p' + 1) → MadeFrom (ws.set q u) l p := by
  intro l
  induction l with
  | nil => intro p h _; show p = (ws.set q u).length; rw [List.length_set]; exact h
  | cons o l ih =>
    intro p h hq
    have h0 := hq p (by simp [plc])
    refine ⟨h.1, ?_, ?_, ih _ h.2.2.2 (fun p' hp => hq p' (by simp [plc, hp]))⟩
    · rw [List.getD_eq_getElem?_getD, List.getElem?_set_ne h0.1, ← List.getD_eq_getElem?_getD]; exact h.2.1
    · rw [List.getD_eq_getElem?_getD, List.getElem?_set_ne h0.2, ← List.getD_eq_getElem?_getD]; exact h.2.2.1
theorem made_objs {ws : List Int} : ∀ (l : List Op6) (p : Nat), MadeFrom ws l p → objs ws p = plc l p ∧ stopAt ws p = ws.length := by
  intro l
  induction l with
  | nil =>
    intro p h
    have h : p = ws.length := h
    have hz : szB ws p = false := szB_end (by omega)
    rw [objs_no hz, stopAt_no hz]
    exact ⟨rfl, h⟩
  | cons o l ih =>
    intro p h
    have hl := made_len _ _ h
    have hs := szO_bd h.1
    simp only [tot] at hl
    obtain ⟨d0, d1, d2⟩ := dec_enc h.1.1
    obtain ⟨i0, i1⟩ := did_id h.1.2
    have hz : szB ws p = true := by
      refine szB_iff.2 ⟨by omega, ?_, ?_, ?_⟩
      · rw [h.2.1]; exact decB_enc h.1.1
      · rw [h.2.2.1]; unfold didB; rw [i0, i1]; exact h.1.2
      · rw [h.2.1, d2]; have : (wordsI o.f).toNat = szO o := rfl; omega
    have hn : szN ws p = szO o := by rw [szN_yes hz, h.2.1, d2]; rfl
    obtain ⟨e1, e2⟩ := ih _ h.2.2.2
    rw [objs_yes hz, stopAt_yes hz, hn, e1, e2]
    exact ⟨rfl, rfl⟩
theorem plc_app (o : Op6) : ∀ (l : List Op6) (p : Nat), plc (l ++ [o]) p = plc l p ++ [p + tot l] := by
  intro l
  induction l with
  | nil => intro p; rfl
  | cons x l ih =>
    intro p
    simp only [List.cons_append, plc, ih, tot]
    rw [Nat.add_assoc]
theorem tot_app (o : Op6) : ∀ l : List Op6, tot (l ++ [o]) = tot l + szO o := by
  intro l
  induction l with
  | nil => simp [tot]
  | cons x l ih => simp only [List.cons_append, tot, ih]; omega
theorem plc_len : ∀ (l : List Op6) (p : Nat), (plc l p).length = l.length := by
  intro l
  induction l with
  | nil => intro p; rfl
  | cons o l ih => intro p; simp [plc, ih]
theorem plc_get : ∀ (l : List Op6) (p i : Nat) (o : Op6), l[i]? = some o → (plc l p)[i]? = some (p + tot (l.take i)) := by
  intro l
  induction l with
  | nil => intro p i o h; simp at h
  | cons x l ih =>
    intro p i o h
    cases i with
    | zero => simp [plc, tot]
    | succ i =>
      simp only [List.getElem?_cons_succ] at h
      simp only [plc, List.getElem?_cons_succ, List.take_succ_cons, tot]
      rw [ih _ _ _ h, Nat.add_assoc]
theorem tot_succ : ∀ (l : List Op6) (i : Nat) (o : Op6), l[i]? = some o → tot (l.take (i + 1)) = tot (l.take i) + szO o := by
  intro l
  induction l with
  | nil => intro i o h; simp at h
  | cons x l ih =>
    intro i o h
    cases i with
    | zero => simp at h; subst h; simp [tot]
    | succ i =>
      simp only [List.getElem?_cons_succ] at h
      simp only [List.take_succ_cons, tot]
      rw [ih _ _ h, Nat.add_assoc]
theorem made_get {ws : List Int} : ∀ (l : List Op6) (p i : Nat) (o : Op6), MadeFrom ws l p → l[i]? = some o →
    okO o ∧ ws.getD (p + tot (l.take i)) 0 = encI o.k o.c o.f ∧ ws.getD (p + tot (l.take i) + 1) 0 = idI o.m o.s ∧ p + tot (l.take i) + szO o ≤ ws.length := by
  intro l
  induction l with
  | nil => intro p i o _ h; simp at h
  | cons x l ih =>
    intro p i o hm h
    cases i with
    | zero =>
      simp at h
      subst h
      have hl := made_len _ _ hm
      simp only [tot] at hl
      simp only [List.take_zero, tot, Nat.add_zero]
      exact ⟨hm.1, hm.2.1, hm.2.2.1, by omega⟩
    | succ i =>
      simp only [List.getElem?_cons_succ] at h
      simp only [List.take_succ_cons, tot]
      have := ih _ i o hm.2.2.2 h
      rw [← Nat.add_assoc]
      exact this
theorem tot_mono (l : List Op6) : ∀ {i j : Nat}, i ≤ j → tot (l.take i) ≤ tot (l.take j) := by
  intro i j h
  induction l generalizing i j with
  | nil => simp [tot]
  | cons x l ih =>
    cases i with
    | zero => simp [tot]
    | succ i =>
      cases j with
      | zero => omega
      | succ j =>
        simp only [List.take_succ_cons, tot]
        have := ih (show i ≤ j by omega)
        omega
/-- A field of the i-th object is no header and no identity. -/
theorem field_free {l : List Op6} {i q : Nat} {o : Op6} (ho : l[i]? = some o) (h1 : tot (l.take i) + 2 ≤ q) (h2 : q < tot (l.take (i + 1))) : ∀ p' ∈ plc l 0, q ≠ p' ∧ q ≠ p' + 1 := by
  intro p' hp
  obtain ⟨j, hj, e⟩ := List.getElem_of_mem hp
  rw [plc_len] at hj
  have hg := plc_get l 0 j l[j] (List.getElem?_eq_getElem hj)
  rw [List.getElem?_eq_getElem (by rw [plc_len]; exact hj), e, Nat.zero_add] at hg
  have hg := Option.some.inj hg
  by_cases hji : j ≤ i
  · have := tot_mono l hji
    omega
  · have := tot_mono l (show i + 1 ≤ j by omega)
    omega
/-- Their addresses. -/
def adr (bs : Int) (l : List Op6) : List Int := (plc l 0).map (fun (j : Nat) => bs + (j : Int))
theorem made_adr {bs : Int} {ws : List Int} {l : List Op6} (h : MadeFrom ws l 0) : objA bs ws = adr bs l ∧ Sound ws := by
  obtain ⟨h1, h2⟩ := made_objs l 0 h
  unfold objA adr
  rw [h1]
  exact ⟨rfl, h2⟩
theorem adr_app (bs : Int) (l : List Op6) (o : Op6) : adr bs (l ++ [o]) = adr bs l ++ [bs + (tot l : Nat)] := by
  unfold adr
  rw [plc_app]
  simp
theorem adr_len (bs : Int) (l : List Op6) : (adr bs l).length = l.length := by unfold adr; rw [List.length_map, plc_len]
theorem adr_get (bs : Int) {l : List Op6} {i : Nat} {o : Op6} (h : l[i]? = some o) : (adr bs l)[i]? = some (bs + (tot (l.take i) : Nat)) := by
  unfold adr
  rw [List.getElem?_map, plc_get l 0 i o h, Nat.zero_add]
  rfl
theorem tot_all {ws : List Int} {ks : List Op6} (h : MadeFrom ws ks 0) : tot ks = ws.length := by have := made_len ks 0 h; omega
/-- The header of the i-th object. -/
theorem made_hd {bs : Int} {ws : List Int} {ks : List Op6} (h : MadeFrom ws ks 0) {i : Nat} {o : Op6} (ho : ks[i]? = some o) : hdE bs ws (bs + (tot (ks.take i) : Nat)) = 0 ∧ hdK bs ws (bs + (tot (ks.take i) : Nat)) = o.k ∧ hdF bs ws (bs + (tot (ks.take i) : Nat)) = o.f := by
  obtain ⟨h1, h2, h3, h4⟩ := made_get ks 0 i o h ho
  have hs := szO_bd h1
  rw [Nat.zero_add] at h2 h3 h4
  obtain ⟨d0, d1, d2⟩ := dec_enc h1.1
  obtain ⟨i0, i1⟩ := did_id h1.2
  have hin : inB bs ws.length (bs + (tot (ks.take i) : Nat)) = true := inB_iff.2 ⟨by omega, by omega⟩
  have e : (bs + ((tot (ks.take i) : Nat) : Int) - bs).toNat = tot (ks.take i) := by omega
  have hob : obB ws (bs + ((tot (ks.take i) : Nat) : Int) - bs).toNat = true := by
    rw [e]
    refine obB_iff.2 ⟨by omega, ?_, ?_, ?_⟩
    · rw [h2]; exact decB_enc h1.1
    · rw [h3]; unfold didB; rw [i0, i1]; exact h1.2
    · rw [h2, d2]; have : (wordsI o.f).toNat = szO o := rfl; omega
  obtain ⟨e1, e2, _, e4⟩ := hd_ok hin hob
  rw [e, h2] at e2 e4
  exact ⟨e1, by rw [e2, d0], by rw [e4, d2]⟩
theorem hd_old {wo wy : List Int} {a : Int} (h : a < 16777216) : HE wo wy a = hdE 0 wo a ∧ HK wo wy a = hdK 0 wo a ∧ HF wo wy a = hdF 0 wo a := by
  unfold HE HK HF bsA wsA
  rw [if_neg (by omega), if_neg (by omega)]
  exact ⟨rfl, rfl, rfl⟩
theorem hd_yng {wo wy : List Int} {a : Int} (h : 16777216 ≤ a) : HE wo wy a = hdE 16777216 wy a ∧ HK wo wy a = hdK 16777216 wy a ∧ HF wo wy a = hdF 16777216 wy a := by
  unfold HE HK HF bsA wsA
  rw [if_pos h, if_pos h]
  exact ⟨rfl, rfl, rfl⟩
theorem adr_mem {bs a : Int} {ks : List Op6} (h : a ∈ adr bs ks) : ∃ i o, ks[i]? = some o ∧ a = bs + (tot (ks.take i) : Nat) := by
  obtain ⟨i, hi, e⟩ := List.getElem_of_mem h
  rw [adr_len] at hi
  have hg := adr_get bs (List.getElem?_eq_getElem hi)
  rw [List.getElem?_eq_getElem (by rw [adr_len]; exact hi), e] at hg
  exact ⟨i, ks[i], List.getElem?_eq_getElem hi, Option.some.inj hg⟩
theorem tot_le : ∀ ks : List Op6, (∀ o ∈ ks, o.f ≤ 4) → tot ks ≤ 6 * ks.length := by
  intro ks
  induction ks with
  | nil => intro _; simp [tot]
  | cons o l ih =>
    intro h
    have h1 := ih (fun x hx => h x (by simp [hx]))
    have h2 := h o (by simp)
    have h3 : szO o ≤ 6 := by unfold szO wordsI; split <;> omega
    simp only [tot, List.length_cons]
    omega
structure Inv (s : MmS) (ko ky : List Op6) (n : Nat) : Prop where
  mo : MadeFrom s.wo ko 0
  my : MadeFrom s.wy ky 0
  ro : ∀ o ∈ ko, o.k = 0 ∧ o.f ≤ 4
  ry : ∀ o ∈ ky, o.k = 0 ∧ o.f ≤ 4
  cn : ko.length + ky.length ≤ n
  al : ∀ a ∈ s.l, (∃ i o, ko[i]? = some o ∧ a = 0 + ((tot (ko.take i) : Nat) : Int)) ∨ (∃ i o, ky[i]? = some o ∧ a = 16777216 + ((tot (ky.take i) : Nat) : Int))
  gd : ∀ x, (x ∈ s.wo ∨ x ∈ s.wy ∨ x ∈ s.rt) → ldY x = true → adA x ∈ s.l
  ru : ∀ x ∈ s.rt, U64 x
theorem ldY_ref {y : Int} (h0 : 0 ≤ y) (h1 : y ≤ 16779216) : adA (y * 4 + 2) = y := by
  unfold adA
  rw [if_pos (adB_iff.2 ⟨by omega, by omega⟩)]
  omega
theorem ldY_no4 {x : Int} (h : x % 4 ≠ 2 ∨ 17179869184 ≤ x) : ldY x = false := by
  unfold ldY
  have : adB x = false := by
    cases hb : adB x
    · rfl
    · have := adB_iff.1 hb; omega
  rw [this]; rfl
theorem newObj_no {f s x : Int} (hf : 0 ≤ f) (hs : 0 ≤ s) (h : x ∈ newObj 0 1 f 1 s) : ldY x = false := by
  unfold newObj at h
  rcases List.mem_cons.1 h with rfl | h
  · refine ldY_no4 (.inl ?_); unfold encI; omega
  · rcases List.mem_cons.1 h with rfl | h
    · refine ldY_no4 (.inr ?_); unfold idI; omega
    · rw [List.eq_of_mem_replicate h]; exact ldY_no4 (.inl (by decide))
theorem mem_set_or {ws : List Int} {i : Nat} {u x : Int} (h : x ∈ ws.set i u) : x = u ∨ x ∈ ws := (List.mem_or_eq_of_mem_set h).symm
theorem stY_yng {wo wy : List Int} {p : Nat} (h : p < wy.length) (u : Int) : stO wo (16777216 + (p : Int)) u = wo ∧ stY wy (16777216 + (p : Int)) u = wy.set p u := by
  have h0 : 16777216 ≤ 16777216 + (p : Int) := by omega
  unfold stO stY stW
  rw [if_pos h0, if_pos h0, inB_iff.2 ⟨by omega, by omega⟩, if_pos rfl]
  refine ⟨rfl, ?_⟩
  congr 1
  omega
theorem take_app_le {α : Type} {l x : List α} {i : Nat} (h : i ≤ l.length) : (l ++ x).take i = l.take i := List.take_append_of_le_length h
theorem Inv.alloc {s : MmS} {ko ky : List Op6} {n : Nat} (h : Inv s ko ky n) (hn : n ≤ 60) (y : Bool) (f : Int) (hf : 0 ≤ f ∧ f < 5) : ∃ ko' ky', Inv (mAl s y f) ko' ky' (n + 1) := by
  have hup : Inv s ko ky (n + 1) := ⟨h.mo, h.my, h.ro, h.ry, by have := h.cn; omega, h.al, h.gd, h.ru⟩
  cases y
  · by_cases hE : alE 0 2000 s.wo 0 1 f 1 (1 + s.l.length) = 0
    · have h' := hE
      unfold alE at h'
      cases h1 : hvB 0 1 f <;> cases h2 : idB 1 (1 + (s.l.length : Int)) <;> rw [h1, h2] at h' <;> simp at h'
      have hok : okO ⟨0, 0, 1, f, 1, 1 + s.l.length, 0, 0⟩ := ⟨h1, h2⟩
      have hma := made_app hok ko 0 h.mo
      have e1 : mAl s false f = ⟨s.wo ++ newObj 0 1 f 1 (1 + s.l.length), s.wy, s.l ++ [0 + (s.wo.length : Int)], s.ca, s.rt⟩ := by
        unfold mAl alW alA
        simp only [hE, if_true]
      rw [e1]
      refine ⟨ko ++ [⟨0, 0, 1, f, 1, 1 + s.l.length, 0, 0⟩], ky, hma, h.my, fun o ho => ?_, h.ry, by have := h.cn; simp; omega, fun a ha => ?_, fun x hx hy => ?_, h.ru⟩
      · rcases List.mem_append.1 ho with e | e
        · exact h.ro o e
        · rw [List.mem_singleton.1 e]; exact ⟨rfl, by dsimp only; omega⟩
      · rcases List.mem_append.1 ha with e | e
        · rcases h.al a e with ⟨i, o, hi, ea⟩ | hh
          · have hlt := (List.getElem?_eq_some_iff.1 hi).1
            exact .inl ⟨i, o, by rw [List.getElem?_append_left hlt]; exact hi, by rw [take_app_le (by omega)]; exact ea⟩
          · exact .inr hh
        · rw [List.mem_singleton.1 e]
          exact .inl ⟨ko.length, _, by rw [List.getElem?_append_right (by omega), Nat.sub_self]; rfl, by rw [take_app_le (by omega), List.take_length, tot_all h.mo]⟩
      · have : adA x ∈ s.l := by
          rcases hx with e | e | e
          · rcases List.mem_append.1 e with e | e
            · exact h.gd x (.inl e) hy
            · rw [newObj_no hf.1 (by omega) e] at hy; cases hy
          · exact h.gd x (.inr (.inl e)) hy
          · exact h.gd x (.inr (.inr e)) hy
        exact List.mem_append_left _ this
    · have e1 : mAl s false f = s := by unfold mAl alW; simp only [if_neg hE]
      rw [e1]
      exact ⟨ko, ky, hup⟩
  · by_cases hE : alE 16777216 16779216 s.wy 0 1 f 1 (1 + s.l.length) = 0
    · have h' := hE
      unfold alE at h'
      cases h1 : hvB 0 1 f <;> cases h2 : idB 1 (1 + (s.l.length : Int)) <;> rw [h1, h2] at h' <;> simp at h'
      have hok : okO ⟨0, 0, 1, f, 1, 1 + s.l.length, 0, 0⟩ := ⟨h1, h2⟩
      have hma := made_app hok ky 0 h.my
      have e1 : mAl s true f = ⟨s.wo, s.wy ++ newObj 0 1 f 1 (1 + s.l.length), s.l ++ [16777216 + (s.wy.length : Int)], s.ca, s.rt⟩ := by
        unfold mAl alW alA
        simp only [hE, if_true]
      rw [e1]
      refine ⟨ko, ky ++ [⟨0, 0, 1, f, 1, 1 + s.l.length, 0, 0⟩], h.mo, hma, h.ro, fun o ho => ?_, by have := h.cn; simp; omega, fun a ha => ?_, fun x hx hy => ?_, h.ru⟩
      · rcases List.mem_append.1 ho with e | e
        · exact h.ry o e
        · rw [List.mem_singleton.1 e]; exact ⟨rfl, by dsimp only; omega⟩
      · rcases List.mem_append.1 ha with e | e
        · rcases h.al a e with hh | ⟨i, o, hi, ea⟩
          · exact .inl hh
          · have hlt := (List.getElem?_eq_some_iff.1 hi).1
            exact .inr ⟨i, o, by rw [List.getElem?_append_left hlt]; exact hi, by rw [take_app_le (by omega)]; exact ea⟩
        · rw [List.mem_singleton.1 e]
          exact .inr ⟨ky.length, _, by rw [List.getElem?_append_right (by omega), Nat.sub_self]; rfl, by rw [take_app_le (by omega), List.take_length, tot_all h.my]⟩
      · have : adA x ∈ s.l := by
          rcases hx with e | e | e
          · exact h.gd x (.inl e) hy
          · rcases List.mem_append.1 e with e | e
            · exact h.gd x (.inr (.inl e)) hy
            · rw [newObj_no hf.1 (by omega) e] at hy; cases hy
          · exact h.gd x (.inr (.inr e)) hy
        exact List.mem_append_left _ this
    · have e1 : mAl s true f = s := by unfold mAl alW; simp only [if_neg hE]
      rw [e1]
      exact ⟨ko, ky, hup⟩
theorem Inv.lens {s : MmS} {ko ky : List Op6} {n : Nat} (h : Inv s ko ky n) (hn : n ≤ 60) : s.wo.length + s.wy.length ≤ 360 := by
  have h1 := tot_le ko (fun o ho => (h.ro o ho).2)
  have h2 := tot_le ky (fun o ho => (h.ry o ho).2)
  rw [tot_all h.mo] at h1
  rw [tot_all h.my] at h2
  have := h.cn
  omega
theorem Inv.store {s : MmS} {ko ky : List Op6} {n : Nat} (h : Inv s ko ky n) (hn : n ≤ 60) {a i u : Int} (ha : a ∈ s.l) (hu : ldY u = true → adA u ∈ s.l) : Inv (mSt s a i u) ko ky (n + 1) := by
  have hln := h.lens hn
  have hup : Inv s ko ky (n + 1) := ⟨h.mo, h.my, h.ro, h.ry, by have := h.cn; omega, h.al, h.gd, h.ru⟩
  by_cases hf : fdE s.wo s.wy a i = 0
  · have hfd := hf
    unfold fdE at hfd
    have h0 : HE s.wo s.wy a = 0 := by
      by_cases h0 : HE s.wo s.wy a = 0
      · exact h0
      · rw [if_pos h0] at hfd; exact absurd hfd h0
    rw [if_neg (by simpa using h0)] at hfd
    have hii : 0 ≤ i ∧ i < HF s.wo s.wy a := by
      split at hfd
      · omega
      · split at hfd
        · omega
        · omega
    have hO : sfO s.wo s.wy a i u = stO s.wo (a + 2 + i) u := by unfold sfO fdA; rw [if_pos hf, if_pos hf]
    have hY : sfY s.wo s.wy a i u = stY s.wy (a + 2 + i) u := by unfold sfY fdA; rw [if_pos hf, if_pos hf]
    unfold mSt
    rw [hO, hY]
    rcases h.al a ha with ⟨j, o, hj, ea⟩ | ⟨j, o, hj, ea⟩
    · have hlt := (List.getElem?_eq_some_iff.1 hj).1
      have hmd := made_get ko 0 j o h.mo hj
      have hsz := szO_bd hmd.1
      have hwb := wordsI_bd hmd.1.1
      have hhd := made_hd (bs := 0) h.mo hj
      have hF : HF s.wo s.wy a = o.f := by rw [(hd_old (wo := s.wo) (wy := s.wy) (by omega : a < 16777216)).2.2, ea]; exact hhd.2.2
      rw [hF] at hii
      have hts := tot_succ ko j o hj
      have hq := stO_old (wo := s.wo) (wy := s.wy) (d := tot (ko.take j) + 2 + i.toNat) (by omega) (by omega) u
      rw [show ((tot (ko.take j) + 2 + i.toNat : Nat) : Int) = a + 2 + i by omega] at hq
      rw [hq.1, hq.2]
      refine ⟨made_set ko 0 h.mo (field_free hj (by omega) (by omega)), h.my, h.ro, h.ry, by have := h.cn; omega, h.al, fun x hx hy => ?_, h.ru⟩
      rcases hx with e | e | e
      · rcases mem_set_or e with rfl | e
        · exact hu hy
        · exact h.gd x (.inl e) hy
      · exact h.gd x (.inr (.inl e)) hy
      · exact h.gd x (.inr (.inr e)) hy
    · have hlt := (List.getElem?_eq_some_iff.1 hj).1
      have hmd := made_get ky 0 j o h.my hj
      have hsz := szO_bd hmd.1
      have hwb := wordsI_bd hmd.1.1
      have hhd := made_hd (bs := 16777216) h.my hj
      have hF : HF s.wo s.wy a = o.f := by rw [(hd_yng (wo := s.wo) (wy := s.wy) (by omega : 16777216 ≤ a)).2.2, ea]; exact hhd.2.2
      rw [hF] at hii
      have hts := tot_succ ky j o hj
      have hq := stY_yng (wo := s.wo) (wy := s.wy) (p := tot (ky.take j) + 2 + i.toNat) (by omega) u
      rw [show 16777216 + ((tot (ky.take j) + 2 + i.toNat : Nat) : Int) = a + 2 + i by omega] at hq
      rw [hq.1, hq.2]
      refine ⟨h.mo, made_set ky 0 h.my (field_free hj (by omega) (by omega)), h.ro, h.ry, by have := h.cn; omega, h.al, fun x hx hy => ?_, h.ru⟩
      rcases hx with e | e | e
      · exact h.gd x (.inl e) hy
      · rcases mem_set_or e with rfl | e
        · exact hu hy
        · exact h.gd x (.inr (.inl e)) hy
      · exact h.gd x (.inr (.inr e)) hy
  · have e1 : sfO s.wo s.wy a i u = s.wo := by unfold sfO; rw [if_neg hf]
    have e2 : sfY s.wo s.wy a i u = s.wy := by unfold sfY; rw [if_neg hf]
    unfold mSt
    rw [e1, e2]
    exact ⟨hup.mo, hup.my, hup.ro, hup.ry, hup.cn, hup.al, hup.gd, hup.ru⟩
theorem Inv.step {s : MmS} {ko ky : List Op6} {n : Nat} (h : Inv s ko ky n) (hn : n ≤ 60) (hb : MBd s n) {o : OpC} (ho : OpCk o) : ∃ ko' ky', Inv (mst s o) ko' ky' (n + 1) := by
  have hup : Inv s ko ky (n + 1) := ⟨h.mo, h.my, h.ro, h.ry, by have := h.cn; omega, h.al, h.gd, h.ru⟩
  obtain ⟨_, _, ⟨b0, b1⟩, f0, f1⟩ := ho
  unfold mst
  split
  · exact h.alloc hn _ _ (by omega)
  · split
    · exact ⟨ko, ky, hup⟩
    · rename_i hl0
      have hA := mPk_mem hl0 o.A
      have hB := mPk_mem hl0 o.B
      have hBd := hb.d _ hB
      have hr : ldY (mPk s.l o.B * 4 + 2) = true → adA (mPk s.l o.B * 4 + 2) ∈ s.l := fun _ => by rw [ldY_ref hBd.1 hBd.2]; exact hB
      split
      · exact ⟨ko, ky, h.store hn hA hr⟩
      · split
        · exact ⟨ko, ky, h.store hn hA (fun hy => by rw [ldY_no4 (.inl (by omega))] at hy; cases hy)⟩
        · split
          · refine ⟨ko, ky, h.mo, h.my, h.ro, h.ry, hup.cn, h.al, fun x hx hy => ?_, fun x hx => ?_⟩
            · rcases hx with e | e | e
              · exact h.gd x (.inl e) hy
              · exact h.gd x (.inr (.inl e)) hy
              · rcases List.mem_append.1 e with e | e
                · exact h.gd x (.inr (.inr e)) hy
                · rw [List.mem_singleton.1 e] at hy ⊢; exact hr hy
            · rcases List.mem_append.1 hx with e | e
              · exact h.ru x e
              · rw [List.mem_singleton.1 e]; exact U64.of (by omega) (by omega)
          · exact ⟨ko, ky, hup⟩
theorem inv_run (l : List OpC) (hl : l.length ≤ 60) (ho : ∀ o ∈ l, OpCk o) : ∃ ko ky, Inv (mrun l) ko ky l.length := by
  have key : ∀ t : Nat, t ≤ l.length → ∃ ko ky, Inv (mrun (l.take t)) ko ky t := by
    intro t
    induction t with
    | zero => intro _; exact ⟨[], [], rfl, rfl, fun o ho => (by cases ho), fun o ho => (by cases ho), Nat.le_refl _, fun a ha => (by cases ha), fun x hx _ => (by rcases hx with e | e | e <;> cases e), fun x hx => (by cases hx)⟩
    | succ t ih =>
      intro h
      obtain ⟨ko, ky, hI⟩ := ih (by omega)
      have hg := List.getElem?_eq_getElem (show t < l.length by omega)
      rw [take_snoc7 hg, mrun_snoc]
      exact hI.step (by omega) (mrun_bd l t (by omega)) (ho _ (List.mem_of_getElem? hg))
  have := key l.length (Nat.le_refl _)
  rwa [List.take_length] at this
end Go.Proofs.Ytgjaafcagnkfdaa
