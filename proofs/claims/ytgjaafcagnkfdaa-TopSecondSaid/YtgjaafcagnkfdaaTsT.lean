/-
  TopSecond: what Collect asks of the memory, and what it leaves.
-/
import Derived.Test.YtgjaafcagnkfdaaTsS
namespace Go.Proofs.Ytgjaafcagnkfdaa
open Go.RowKit Go.Maps
set_option linter.unusedSimpArgs false
set_option linter.unusedVariables false

theorem Inv.rec_old {s : MmS} {ko ky : List Op6} {n : Nat} (h : Inv s ko ky n) (hn : n ≤ 60) : ∀ a ∈ objA 0 s.wo, HE s.wo s.wy a = 0 ∧ HK s.wo s.wy a = 0 := by
  intro a ha
  rw [(made_adr (bs := 0) h.mo).1] at ha
  obtain ⟨i, o, ho, rfl⟩ := adr_mem ha
  have hln := h.lens hn
  have hg := made_get ko 0 i o h.mo ho
  obtain ⟨e1, e2, _⟩ := hd_old (wo := s.wo) (wy := s.wy) (a := 0 + ((tot (ko.take i) : Nat) : Int)) (by have := hg.2.2.2; omega)
  obtain ⟨h1, h2, _⟩ := made_hd (bs := 0) h.mo ho
  rw [e1, e2]
  exact ⟨h1, by rw [h2]; exact (h.ro o (List.mem_of_getElem? ho)).1⟩
theorem Inv.yng {s : MmS} {ko ky : List Op6} {n : Nat} (h : Inv s ko ky n) (hn : n ≤ 60) {a : Int} (ha : a ∈ s.l) (hy : 16777216 ≤ a) : YO s.wo s.wy a ∧ Re s.wy a := by
  have hln := h.lens hn
  rcases h.al a ha with ⟨i, o, ho, ea⟩ | ⟨i, o, ho, ea⟩
  · have := (made_get ko 0 i o h.mo ho).2.2.2
    omega
  · obtain ⟨e1, e2, _⟩ := hd_yng (wo := s.wo) (wy := s.wy) hy
    obtain ⟨h1, h2, _⟩ := made_hd (bs := 16777216) h.my ho
    refine ⟨⟨hy, by rw [e1, ea]; exact h1, by rw [e2, ea, h2]; exact (h.ry o (List.mem_of_getElem? ho)).1⟩, ?_⟩
    unfold Re
    rw [(made_adr (bs := 16777216) h.my).1, ea]
    exact List.mem_of_getElem? (adr_get 16777216 ho)
theorem Inv.gx {s : MmS} {ko ky : List Op6} {n : Nat} (h : Inv s ko ky n) (hn : n ≤ 60) {x : Int} (hu : U64 x) (hx : x ∈ s.wo ∨ x ∈ s.wy ∨ x ∈ s.rt ∨ x = 0) : Gx s.wo s.wy x := by
  refine ⟨hu, fun hy => ?_⟩
  have hm : adA x ∈ s.l := by
    rcases hx with e | e | e | e
    · exact h.gd x (.inl e) hy
    · exact h.gd x (.inr (.inl e)) hy
    · exact h.gd x (.inr (.inr e)) hy
    · rw [e, ldY_no4 (.inl (by decide))] at hy; cases hy
  exact h.yng hn hm (ldY_bd hy).1
theorem getD_mem (ws : List Int) (i : Nat) : ws.getD i 0 ∈ ws ∨ ws.getD i 0 = 0 := by
  rw [List.getD_eq_getElem?_getD]
  by_cases hi : i < ws.length
  · rw [List.getElem?_eq_getElem hi]; exact .inl (List.getElem_mem hi)
  · rw [List.getElem?_eq_none (by omega)]; exact .inr rfl
theorem LD_mem (wo wy : List Int) (a : Int) : LD wo wy a ∈ wo ∨ LD wo wy a ∈ wy ∨ LD wo wy a = 0 := by
  have hm : ∀ z, z ∈ wsA wo wy a → z ∈ wo ∨ z ∈ wy := by
    intro z hz
    unfold wsA at hz
    split at hz
    · exact .inr hz
    · exact .inl hz
  unfold LD ldW
  cases inB (bsA a) (wsA wo wy a).length a
  · exact .inr (.inr (by simp))
  · rw [if_pos rfl]
    rcases getD_mem (wsA wo wy a) (a - bsA a).toNat with e | e
    · exact (hm _ e).imp id .inl
    · exact .inr (.inr e)
theorem Inv.gxL {s : MmS} {ko ky : List Op6} {n : Nat} (h : Inv s ko ky n) (hn : n ≤ 60) (a : Int) (hu : U64 (LD s.wo s.wy a)) : Gx s.wo s.wy (LD s.wo s.wy a) := h.gx hn hu (by
  rcases LD_mem s.wo s.wy a with e | e | e
  · exact .inl e
  · exact .inr (.inl e)
  · exact .inr (.inr (.inr e)))
theorem Inv.f4 {s : MmS} {ko ky : List Op6} {n : Nat} (h : Inv s ko ky n) {a : Int} (hy : 16777216 ≤ a) (hr : Re s.wy a) : HF s.wo s.wy a ≤ 4 := by
  unfold Re at hr
  rw [(made_adr (bs := 16777216) h.my).1] at hr
  obtain ⟨i, o, ho, ea⟩ := adr_mem hr
  rw [(hd_yng (wo := s.wo) (wy := s.wy) hy).2.2, ea, (made_hd (bs := 16777216) h.my ho).2.2]
  exact (h.ry o (List.mem_of_getElem? ho)).2
theorem plW_bd (nW : Int → List Int) (c : Nat) : ∀ (l ws : List Int), (∀ a ∈ l, (nW a).length ≤ c) → (plW nW ws l).length ≤ ws.length + c * l.length := by
  intro l
  induction l with
  | nil => intro ws _; show ws.length ≤ _; simp
  | cons a l ih =>
    intro ws h
    have h1 := ih (ws ++ nW a) (fun b hb => h b (by simp [hb]))
    have h2 := h a (by simp)
    have e : plW nW ws (a :: l) = plW nW (ws ++ nW a) l := rfl
    rw [List.length_append] at h1
    rw [e, List.length_cons, Nat.mul_add]
    omega
theorem nodup_sub : ∀ {l m : List Int}, l.Nodup → (∀ a ∈ l, a ∈ m) → l.length ≤ m.length := by
  intro l
  induction l with
  | nil => intro m _ _; exact Nat.zero_le _
  | cons a l ih =>
    intro m hd h
    obtain ⟨h1, h2⟩ := List.nodup_cons.1 hd
    have ha := h a (by simp)
    have h3 := ih (m := m.erase a) h2 (fun b hb => (List.mem_erase_of_ne (fun e => h1 (by rw [← e]; exact hb))).2 (h b (by simp [hb])))
    rw [List.length_erase_of_mem ha] at h3
    have := List.length_pos_of_mem ha
    rw [List.length_cons]
    omega
theorem Inv.room {s : MmS} {ko ky : List Op6} {n : Nat} (h : Inv s ko ky n) (hn : n ≤ 60) : ∀ L : List Int, L.Nodup → (∀ a ∈ L, YO s.wo s.wy a) → (∀ a ∈ L, Re s.wy a) → ((plW (nWd s.wo s.wy) s.wo L).length : Int) ≤ 2000 := by
  intro L hd hyo hre
  have hln := h.lens hn
  have h1 : L.length ≤ ky.length := by
    have := nodup_sub hd (m := adr 16777216 ky) (fun a ha => by have := hre a ha; unfold Re at this; rwa [(made_adr (bs := 16777216) h.my).1] at this)
    rwa [adr_len] at this
  have h2 := plW_bd (nWd s.wo s.wy) 6 L s.wo (fun a ha => by
    have e := nWd_len (hyo a ha)
    have f := h.f4 (hyo a ha).1 (hre a ha)
    have : wordsI (HF s.wo s.wy a) ≤ 6 := by unfold wordsI; split <;> omega
    omega)
  have := h.cn
  omega
theorem YO_nil {wo : List Int} {a : Int} (h : YO wo [] a) : False := by
  have h1 := h.2.1
  rw [(hd_yng (wo := wo) (wy := []) h.1).1] at h1
  obtain ⟨h2, _⟩ := hd_bd h1
  have := inB_iff.1 h2
  simp at this
  omega
/-- The object that a copy becomes. -/
def mkO (wo wy : List Int) (a : Int) : Op6 := ⟨0, 0, HC wo wy a, HF wo wy a, OM wo wy a, OS wo wy a, 0, 0⟩
theorem made_pl {wo wy : List Int} (hl : (wo.length : Int) ≤ 16777216) : ∀ (L ws : List Int) (ks : List Op6), (∀ a ∈ L, YO wo wy a) → MadeFrom ws ks 0 → MadeFrom (plW (nWd wo wy) ws L) (ks ++ L.map (mkO wo wy)) 0 := by
  intro L
  induction L with
  | nil => intro ws ks _ h; show MadeFrom ws (ks ++ []) 0; rw [List.append_nil]; exact h
  | cons a L ih =>
    intro ws ks hy h
    have ha := hy a (by simp)
    have hv := hv_of ha.2.1
    rw [ha.2.2] at hv
    have := made_app (o := mkO wo wy a) ⟨hv, id_of hl ha.2.1⟩ ks 0 h
    have h2 := ih (ws ++ nWd wo wy a) (ks ++ [mkO wo wy a]) (fun b hb => hy b (by simp [hb])) this
    rw [List.append_assoc] at h2
    exact h2
theorem made_rm {S : List (Int × Int)} {ks : List Op6} : ∀ (R ws : List Int), (∀ q ∈ R, ∃ i o, ks[i]? = some o ∧ tot (ks.take i) + 2 ≤ q.toNat ∧ q.toNat < tot (ks.take (i + 1))) → MadeFrom ws ks 0 → MadeFrom (rmW S ws R) ks 0 := by
  intro R
  induction R with
  | nil => intro ws _ h; exact h
  | cons q R ih =>
    intro ws hq h
    obtain ⟨i, o, ho, h1, h2⟩ := hq q (by simp)
    exact ih _ (fun p hp => hq p (by simp [hp])) (made_set ks 0 h (field_free ho h1 h2))
theorem made_cp {wy : List Int} {S : List (Int × Int)} {a f : Int} {ks : List Op6} {i : Nat} {o : Op6} (ho : ks[i]? = some o) : ∀ (k : Nat) (ws : List Int), tot (ks.take i) + 2 + k ≤ tot (ks.take (i + 1)) → MadeFrom ws ks 0 → MadeFrom (cpW wy S a f (tot (ks.take i)) ws k) ks 0 := by
  intro k
  induction k with
  | zero => intro ws _ h; exact h
  | succ k ih =>
    intro ws hk h
    exact made_set ks 0 (ih ws (by omega) h) (field_free ho (by omega) (by omega))
theorem plM_pos {wo wy : List Int} : ∀ (L ws : List Int) (ks : List Op6) (p : Int × Int), (∀ a ∈ L, YO wo wy a) → tot ks = ws.length → p ∈ plM (nWd wo wy) ws L → ∃ i : Nat, (ks ++ L.map (mkO wo wy))[i]? = some (mkO wo wy p.1) ∧ p.2 = ((tot ((ks ++ L.map (mkO wo wy)).take i) : Nat) : Int) ∧ p.1 ∈ L := by
  intro L
  induction L with
  | nil => intro ws ks p _ _ h; cases h
  | cons a L ih =>
    intro ws ks p hy ht h
    rcases List.mem_cons.1 h with rfl | h
    · refine ⟨ks.length, ?_, ?_, by simp⟩
      · rw [List.getElem?_append_right (Nat.le_refl _), Nat.sub_self]; rfl
      · rw [take_app_le (Nat.le_refl _), List.take_length, ht]
    · have hlen := nWd_len (hy a (by simp))
      obtain ⟨i, h1, h2, h3⟩ := ih (ws ++ nWd wo wy a) (ks ++ [mkO wo wy a]) p (fun b hb => hy b (by simp [hb])) (by rw [tot_app, List.length_append, ht]; show _ + (wordsI (HF wo wy a)).toNat = _; omega) h
      rw [List.append_assoc] at h1 h2
      exact ⟨i, h1, h2, by simp [h3]⟩
/-- Behind a collection, the old objects are records still. -/
theorem clO_rec {s : MmS} {ko ky : List Op6} {n : Nat} (h : Inv s ko ky n) (hn : n ≤ 60) {L : List Int} (hd : L.Nodup) (hyo : ∀ a ∈ L, YO s.wo s.wy a) (hre : ∀ a ∈ L, Re s.wy a) : ∀ a ∈ objA 0 (clO s.wo s.wy s.ca L), HE (clO s.wo s.wy s.ca L) [] a = 0 ∧ HK (clO s.wo s.wy s.ca L) [] a = 0 := by
  have hln := h.lens hn
  have hroom := h.room hn L hd hyo hre
  have hl0 : (s.wo.length : Int) ≤ 16777216 := by omega
  have m1 := made_pl hl0 L s.wo ko hyo h.mo
  have m2 : MadeFrom (rmW (clS s.wo s.wy L) (plW (nWd s.wo s.wy) s.wo L) (pkQ s.ca (sqO s.wo s.wy))) (ko ++ L.map (mkO s.wo s.wy)) 0 := by
    refine made_rm _ _ (fun q hq => ?_) m1
    unfold pkQ at hq
    obtain ⟨x, hx, rfl⟩ := List.mem_map.1 hq
    obtain ⟨_, _, _, a, j, ha, j0, j1, e⟩ := sqO_mem hl0 (h.rec_old hn) (List.mem_filter.1 hx).1
    rw [(made_adr (bs := 0) h.mo).1] at ha
    obtain ⟨i, o, ho, ea⟩ := adr_mem ha
    have hlt := (List.getElem?_eq_some_iff.1 ho).1
    have hg := made_get ko 0 i o h.mo ho
    have hsz := szO_bd hg.1
    have hwb := wordsI_bd hg.1.1
    have hF : HF s.wo s.wy a = o.f := by rw [(hd_old (wo := s.wo) (wy := s.wy) (by have := hg.2.2.2; omega : a < 16777216)).2.2, ea]; exact (made_hd (bs := 0) h.mo ho).2.2
    have hts := tot_succ ko i o ho
    rw [hF] at j1
    exact ⟨i, o, by rw [List.getElem?_append_left hlt]; exact ho, by rw [take_app_le (by omega)]; omega, by rw [take_app_le (by omega)]; omega⟩
  have m3 : MadeFrom (clO s.wo s.wy s.ca L) (ko ++ L.map (mkO s.wo s.wy)) 0 := by
    unfold clO
    have key : ∀ (M : List Int) (ws : List Int), (∀ a ∈ M, a ∈ L) → MadeFrom ws (ko ++ L.map (mkO s.wo s.wy)) 0 → MadeFrom (coW s.wo s.wy (clS s.wo s.wy L) ws M) (ko ++ L.map (mkO s.wo s.wy)) 0 := by
      intro M
      induction M with
      | nil => intro ws _ h; exact h
      | cons a M ih =>
        intro ws hM hm
        refine ih _ (fun b hb => hM b (by simp [hb])) ?_
        have haL := hM a (by simp)
        obtain ⟨v, hv, hin⟩ := toF_some (S := clS s.wo s.wy L) (x := a) (by unfold clS; rw [plM_keys]; exact haL)
        obtain ⟨i, h1, h2, _⟩ := plM_pos L s.wo ko (a, v) hyo (tot_all h.mo) hin
        dsimp only at h1 h2
        show MadeFrom (cpW s.wy (clS s.wo s.wy L) a (HF s.wo s.wy a) ((toF (clS s.wo s.wy L) a).getD 0).toNat ws ((wordsI (HF s.wo s.wy a)).toNat - 2)) (ko ++ L.map (mkO s.wo s.wy)) 0
        rw [hv, Option.getD_some, h2, show (((tot ((ko ++ L.map (mkO s.wo s.wy)).take i) : Nat) : Int)).toNat = tot ((ko ++ L.map (mkO s.wo s.wy)).take i) by omega]
        have hts := tot_succ _ i _ h1
        have hsz : szO (mkO s.wo s.wy a) = (wordsI (HF s.wo s.wy a)).toNat := rfl
        have hwb := wordsI_bd (hv_of (hyo a haL).2.1)
        exact made_cp h1 _ ws (by omega) hm
    exact key L _ (fun a ha => ha) m2
  intro a ha
  rw [(made_adr (bs := 0) m3).1] at ha
  obtain ⟨i, o, ho, ea⟩ := adr_mem ha
  have hg := made_get _ 0 i o m3 ho
  have hlen : (clO s.wo s.wy s.ca L).length ≤ 2000 := by unfold clO; rw [coW_len, rmW_len]; omega
  obtain ⟨e1, e2, _⟩ := hd_old (wo := clO s.wo s.wy s.ca L) (wy := []) (a := a) (by have := hg.2.2.2; omega)
  obtain ⟨h1, h2, _⟩ := made_hd (bs := 0) m3 ho
  rw [e1, e2, ea]
  have h3 : o.k = 0 := by
    rcases List.mem_append.1 (List.mem_of_getElem? ho) with e | e
    · exact (h.ro o e).1
    · obtain ⟨b, _, rfl⟩ := List.mem_map.1 e; rfl
  exact ⟨h1, by rw [h2]; exact h3⟩
theorem clO_nil (wo : List Int) : clO wo [] [] [] = wo := by
  unfold clO pkQ
  have : (sqO wo []).filter (hitQ []) = [] := by
    rw [List.filter_eq_nil_iff]
    intro x _
    unfold hitQ
    simp
  rw [this]
  rfl
theorem pkQ_nil (s : List (Int × Int)) : pkQ [] s = [] := by
  unfold pkQ
  have : s.filter (hitQ []) = [] := by
    rw [List.filter_eq_nil_iff]
    intro x _
    unfold hitQ
    simp
  rw [this]
  rfl
theorem mv_again {wo wy L : List Int} {S : List (Int × Int)} {rl : List Int} (h : ∀ x ∈ rl, ldY x = false) : rl.map (mvS S) = rl := by
  induction rl with
  | nil => rfl
  | cons x rl ih => rw [List.map_cons, mvS_no (h x (by simp)), ih (fun y hy => h y (by simp [hy]))]
end Go.Proofs.Ytgjaafcagnkfdaa
