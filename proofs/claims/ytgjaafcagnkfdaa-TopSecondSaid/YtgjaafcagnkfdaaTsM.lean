/-
  nursery.Collect: what it holds between its loops.
-/
import Derived.Test.YtgjaafcagnkfdaaTsL
namespace Go.Proofs.Ytgjaafcagnkfdaa
open Go.RowKit Go.Maps
set_option linter.unusedSimpArgs false
set_option linter.unusedVariables false

def WrdN (w : World) (NS : Nat → Prop) (A : Option Addr) (l : List Int) : Prop := l = [] ∨ ∃ b off : Nat, A = some ⟨b, off, none⟩ ∧ b < w.heap.size ∧ ¬ NS b ∧ ∀ (i : Nat) (a : Int), l[i]? = some a → w.cell? ⟨b, off + i, none⟩ = some (.int .u64 a)
theorem RowN.mods {NS S0 : Nat → Prop} {w w' : World} {A : Option Addr} {l : List Int} (h : RowN w NS A l) (hM : Mods S0 w w') (hS : ∀ k, k < w.heap.size → S0 k → NS k) : RowN w' NS A l := by
  rcases h with h | ⟨b, off, e, h1, h2, h3⟩
  · exact .inl h
  · exact .inr ⟨b, off, e, Nat.lt_of_lt_of_le h1 hM.size, h2, fun i a ha => mcell hM (h3 i a ha) (fun e => h2 (hS b h1 e))⟩
theorem WrdN.mods {NS S0 : Nat → Prop} {w w' : World} {A : Option Addr} {l : List Int} (h : WrdN w NS A l) (hM : Mods S0 w w') (hS : ∀ k, k < w.heap.size → S0 k → NS k) : WrdN w' NS A l := by
  rcases h with h | ⟨b, off, e, h1, h2, h3⟩
  · exact .inl h
  · exact .inr ⟨b, off, e, Nat.lt_of_lt_of_le h1 hM.size, h2, fun i a ha => mcell hM (h3 i a ha) (fun e => h2 (hS b h1 e))⟩
theorem RowN.sub {NS NS' : Nat → Prop} {w : World} {A : Option Addr} {l : List Int} (h : RowN w NS A l) (hS : ∀ k, k < w.heap.size → NS' k → NS k) : RowN w NS' A l := by
  rcases h with h | ⟨b, off, e, h1, h2, h3⟩
  · exact .inl h
  · exact .inr ⟨b, off, e, h1, fun hk => h2 (hS b h1 hk), h3⟩
theorem WrdN.sub {NS NS' : Nat → Prop} {w : World} {A : Option Addr} {l : List Int} (h : WrdN w NS A l) (hS : ∀ k, k < w.heap.size → NS' k → NS k) : WrdN w NS' A l := by
  rcases h with h | ⟨b, off, e, h1, h2, h3⟩
  · exact .inl h
  · exact .inr ⟨b, off, e, h1, fun hk => h2 (hS b h1 hk), h3⟩
theorem rown_of {w1 : World} {N : Nat} {NS : Nat → Prop} {A : Option Addr} {al : List Int} {cap : Nat} (h : w1.ownsRow N 3 1 (.slice A al.length cap) al.length (al.map (Value.int .i64))) (hlt : ∀ k, NS k → k < N) : RowN w1 NS A al := by
  obtain ⟨_, h2⟩ := h
  rcases h2 with ⟨_, h2⟩ | ⟨G, cap', cur, e, hge, hh, hcc, hmm, hs, ht⟩
  · exact .inl (List.length_eq_zero_iff.1 h2)
  · simp only [Value.slice.injEq] at e
    obtain ⟨rfl, _, rfl⟩ := e
    refine .inr ⟨G, 0, rfl, (Array.getElem?_eq_some_iff.1 hh).1, fun hk => by have := hlt G hk; omega, fun i a ha => ?_⟩
    rw [cell_of_block hh, ← Array.getElem?_toList]
    have hi := (List.getElem?_eq_some_iff.1 ha).1
    have e : (cur.toList.take (al.length * 1))[i]? = (al.map (Value.int .i64))[i]? := by rw [ht]
    rw [List.getElem?_take_of_lt (by omega)] at e
    rw [Nat.zero_add, e, List.getElem?_map, ha]
    rfl
/-- What Collect holds once the copies have their places. -/
structure Cst (W : World) (NS : Nat → Prop) (n bt mb tb mb0 bO bY : Nat) (S : List (Int × Int)) (mk : List Int) (aL : Option Addr) (L : List Int) (aR : Option Addr) (R : List Int) (ra : Option Addr) (rl : List Int) : Prop where
  mv : MvAt W n bt mb bO bY S
  tab : TabAt W tb mb0 mk
  rL : RowN W NS aL L
  rR : RowN W NS aR R
  rt : WrdN W NS ra rl
  nn : ¬ NS n ∧ ¬ NS bt ∧ ¬ NS mb ∧ ¬ NS tb ∧ ¬ NS mb0
theorem Cst.mods {W W' : World} {NS : Nat → Prop} {n bt mb tb mb0 bO bY : Nat} {S : List (Int × Int)} {mk : List Int} {aL : Option Addr} {L : List Int} {aR : Option Addr} {R : List Int} {ra : Option Addr} {rl : List Int} (h : Cst W NS n bt mb tb mb0 bO bY S mk aL L aR R ra rl) (hM : Mods NS W W') : Cst W' NS n bt mb tb mb0 bO bY S mk aL L aR R ra rl :=
  ⟨h.mv.mods hM h.nn.1 h.nn.2.1 h.nn.2.2.1, h.tab.mods hM h.nn.2.2.2.1 h.nn.2.2.2.2, h.rL.mods hM (fun _ _ h => h), h.rR.mods hM (fun _ _ h => h), h.rt.mods hM (fun _ _ h => h), h.nn⟩
theorem Cst.below {W W' : World} {NS : Nat → Prop} {n bt mb tb mb0 bO bY : Nat} {S : List (Int × Int)} {mk : List Int} {aL : Option Addr} {L : List Int} {aR : Option Addr} {R : List Int} {ra : Option Addr} {rl : List Int} (h : Cst W NS n bt mb tb mb0 bO bY S mk aL L aR R ra rl) (hb : Below W.heap.size W W') : Cst W' NS n bt mb tb mb0 bO bY S mk aL L aR R ra rl := h.mods (Mods.of_below hb)
/-- The words of the old space behind a collection. -/
def clS (wo wy L : List Int) : List (Int × Int) := plM (nWd wo wy) wo L
def clO (wo wy mk L : List Int) : List Int := coW wo wy (clS wo wy L) (rmW (clS wo wy L) (plW (nWd wo wy) wo L) (pkQ mk (sqO wo wy))) L
theorem plM_bd (nW : Int → List Int) : ∀ (l ws : List Int) (p : Int × Int), p ∈ plM nW ws l → 0 ≤ p.2 ∧ p.2 + (nW p.1).length ≤ (plW nW ws l).length := by
  intro l
  induction l with
  | nil => intro ws p h; cases h
  | cons a l ih =>
    intro ws p h
    rcases List.mem_cons.1 h with rfl | h
    · have := plW_mono nW l (ws ++ nW a)
      rw [List.length_append] at this
      have e : plW nW ws (a :: l) = plW nW (ws ++ nW a) l := rfl
      rw [e]
      dsimp only
      omega
    · exact ih _ p h
theorem clS_get {wo wy L : List Int} {a : Int} (ha : a ∈ L) : ∃ d : Nat, toF (clS wo wy L) a = some (d : Int) ∧ d + (nWd wo wy a).length ≤ (plW (nWd wo wy) wo L).length := by
  obtain ⟨v, h1, h2⟩ := toF_some (S := clS wo wy L) (x := a) (by unfold clS; rw [plM_keys]; exact ha)
  obtain ⟨h3, h4⟩ := plM_bd (nWd wo wy) L wo _ h2
  dsimp only at h3 h4
  exact ⟨v.toNat, by rw [h1]; congr 1; omega, by omega⟩
theorem faW_old {d : Int} (h0 : 0 ≤ d) (h1 : d < 16777216) : ldY (faW d) = false := by
  unfold faW
  rw [if_pos ⟨h0, by omega⟩]
  unfold ldY
  have : adA (d * 4 + 2) < 16777216 := by
    unfold adA
    split
    · omega
    · omega
  simp
  omega
/-- What was moved is no young reference. -/
theorem mvS_old {wo wy wy0 wo0 L : List Int} {x : Int} (hl : ((plW (nWd wo wy) wo L).length : Int) ≤ 16777216) (hx : Mx wo0 wy0 (clS wo wy L) x) : ldY (mvS (clS wo wy L) x) = false := by
  cases hy : ldY x
  · rw [mvS_no hy]; exact hy
  · obtain ⟨h1, h2⟩ := hx.2 hy
    obtain ⟨v, hv⟩ := Option.isSome_iff_exists.1 h2
    have hin : adA x ∈ L := by
      by_cases hc : adA x ∈ L
      · exact hc
      · rw [show toF (clS wo wy L) (adA x) = none from toF_none (by unfold clS; rw [plM_keys]; exact hc)] at hv
        cases hv
    obtain ⟨d, e1, e2⟩ := clS_get (wo := wo) (wy := wy) hin
    have hn4 : 0 < (nWd wo wy (adA x)).length := by unfold nWd newObj; simp
    rw [mvS_yes hy, e1]
    exact faW_old (by simp) (by simp; omega)
theorem Mx_of_no {wo wy : List Int} {S : List (Int × Int)} {x : Int} (hx : U64 x) (hy : ldY x = false) : Mx wo wy S x := ⟨hx, fun h => by rw [hy] at h; cases h⟩
theorem getD_set_or (ws : List Int) (i j : Nat) (u : Int) : (ws.set i u).getD j 0 = u ∨ (ws.set i u).getD j 0 = ws.getD j 0 := by
  simp only [List.getD_eq_getElem?_getD, List.getElem?_set]
  split
  · split
    · exact .inl rfl
    · rename_i h1 h2
      subst h1
      right
      rw [List.getElem?_eq_none (by omega)]
  · exact .inr rfl
/-- Along the remembered slots, all of them hold what the closure can move. -/
theorem rmW_Mx {wo0 wy0 wo wy L : List Int} (hl : ((plW (nWd wo wy) wo L).length : Int) ≤ 16777216) : ∀ (l ws : List Int) (R : List Int), (∀ q ∈ l, q ∈ R) → (∀ q ∈ R, Mx wo0 wy0 (clS wo wy L) (ws.getD q.toNat 0)) → ∀ q ∈ R, Mx wo0 wy0 (clS wo wy L) ((rmW (clS wo wy L) ws l).getD q.toNat 0) := by
  intro l
  induction l with
  | nil => intro ws R _ h; exact h
  | cons p l ih =>
    intro ws R hs h
    refine ih (ws.set p.toNat (mvS (clS wo wy L) (ws.getD p.toNat 0))) R (fun q hq => hs q (by simp [hq])) (fun q hq => ?_)
    rcases getD_set_or ws p.toNat q.toNat (mvS (clS wo wy L) (ws.getD p.toNat 0)) with e | e
    · rw [e]
      have hp := h p (hs p (by simp))
      exact Mx_of_no (mvS_u hp.1) (mvS_old hl hp)
    · rw [e]; exact h q hq
theorem LD_o {wo wy : List Int} {q : Int} (h0 : 0 ≤ q) (h1 : q < wo.length) (hl : (wo.length : Int) ≤ 16777216) : LD wo wy q = wo.getD q.toNat 0 := by
  have := LD_old (wo := wo) (wy := wy) (t := q.toNat) (by omega) hl
  rwa [show ((q.toNat : Nat) : Int) = q by omega] at this
end Go.Proofs.Ytgjaafcagnkfdaa
