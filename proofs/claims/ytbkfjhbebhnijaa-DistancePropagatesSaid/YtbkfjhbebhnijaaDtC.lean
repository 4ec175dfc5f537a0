/-
  law 31: Suspects and its reference.
-/
import Derived.Test.YtbkfjhbebhnijaaDtB
namespace Go.Proofs.Ytbkfjhbebhnijaa
open Go.RowKit Go.Maps Go.WideElems Go.ChangeShapes Go.MapKept
set_option linter.unusedSimpArgs false
set_option linter.unusedVariables false

theorem stb_flat (p : Stb × Value) : (stbCells p).length = 5 := rfl
/-- A row of the call's own that holds summaries. -/
structure RowK (w : World) (N : Nat) (v : Value) (P : List (Stb × Value)) : Prop where
  own : w.ownsRow N 52 5 v P.length (P.flatMap stbCells)
  ins : ∀ p ∈ P, InsK w N p.2 p.1.ins
theorem RowK.nil (w : World) (N : Nat) : RowK w N (.slice none 0 0) [] := ⟨World.ownsRow_nil _ _ _ _, fun p hp => by cases hp⟩
theorem RowK.made (w : World) {N : Nat} (hN : N ≤ w.heap.size) : RowK (w.alloc (.cells #[] 52)) N (.slice (some ⟨w.heap.size, 0, none⟩) 0 0) [] := ⟨⟨rfl, .inr ⟨w.heap.size, 0, #[], rfl, hN, alloc_get _ _, Nat.le_refl _, by omega, rfl, rfl⟩⟩, fun p hp => by cases hp⟩
theorem RowK.below {w w' : World} {N : Nat} {v : Value} {P : List (Stb × Value)} (h : RowK w N v P) (hb : Below w.heap.size w w') : RowK w' N v P := ⟨row_below h.own hb, fun p hp => (h.ins p hp).below hb⟩
theorem RowK.form {w : World} {N : Nat} {v : Value} {P : List (Stb × Value)} (h : RowK w N v P) : ∃ a cap, v = .slice a P.length cap := by
  obtain ⟨_, h2⟩ := h.own
  rcases h2 with ⟨rfl, h0⟩ | ⟨g, cap, cur, rfl, _⟩
  · rw [h0]; exact ⟨_, _, rfl⟩
  · exact ⟨_, _, rfl⟩
theorem RowK.block {w : World} {N : Nat} {v : Value} {P : List (Stb × Value)} (h : RowK w N v P) : ∀ g, v.ownBlock = some g → N ≤ g ∧ ∃ cs, w.heap[g]? = some (.cells cs 52 (0, 0)) := by
  intro g hg
  obtain ⟨_, h2⟩ := h.own
  rcases h2 with ⟨rfl, h0⟩ | ⟨g', cap, cur, rfl, h3, h4, _⟩
  · simp [Value.ownBlock] at hg
  · simp [Value.ownBlock] at hg
    subst hg
    exact ⟨h3, _, h4⟩
theorem RowK.stb {w : World} {N : Nat} {v : Value} {P : List (Stb × Value)} (h : RowK w N v P) : StbV w v (P.map (·.1)) := by
  obtain ⟨⟨h1, h2⟩, hi⟩ := h
  rcases h2 with ⟨rfl, h0⟩ | ⟨g, cap, cur, rfl, _, hh, hn, hm, hs, ht⟩
  · have : P = [] := List.length_eq_zero_iff.1 h0
    subst this
    exact ⟨none, 0, rfl, Nat.le_refl _, by omega, fun _ => rfl, .inl rfl⟩
  · refine ⟨_, cap, by rw [List.length_map], by rw [List.length_map]; exact hn, hm, fun e => (by cases e), .inr ⟨g, 0, rfl, fun i x hx => ?_⟩⟩
    rw [List.getElem?_map] at hx
    obtain ⟨p, hp, rfl⟩ := Option.map_eq_some_iff.1 hx
    have hi' : i < P.length := (List.getElem?_eq_some_iff.1 hp).1
    have hc : ∀ r u, r < 5 → (stbCells p)[r]? = some u → w.cell? ⟨g, 0 + i * 5 + r, none⟩ = some u := fun r u hr hu => by
      rw [cell_of_block hh, ← Array.getElem?_toList, Nat.zero_add]
      have e : (cur.toList.take (P.length * 5))[i * 5 + r]? = (P.flatMap stbCells)[i * 5 + r]? := by rw [ht]
      rw [List.getElem?_take_of_lt (by omega), flat_get (f := stbCells) (k := 5) (fun _ => rfl) P i r hr, hp] at e
      rw [e]
      exact hu
    exact ⟨hc 0 _ (by omega) rfl, hc 1 _ (by omega) rfl, hc 2 _ (by omega) rfl, hc 3 _ (by omega) rfl, _, hc 4 _ (by omega) rfl, (hi p (List.mem_of_getElem? hp)).ins⟩
/-- One more summary at the row's end. -/
theorem wpList_append_stb {w : World} {ops : Array Oper} {rest : List Oper} {o : Oper} {a : Act} {Q : Exit → Act → World → Prop} (hgd : o.guard = none) (s x : Operand)
    (ho : o.op = .call { callee := .builtin .append, args := #[s, x], argTypes := #[40, 40] })
    {N : Nat} {P : List (Stb × Value)} {v : Value} (hs : a.eval s = v) (y : Stb) (iv : Value) (W0 : World) (hw : w = W0.alloc (.cells #[.int .i64 y.o, .int .u64 y.n, .bool y.r, .int .i64 y.d, iv] 52)) (hP : RowK W0 N v P) {g : Nat} (hx : a.eval x = .slice (some ⟨g, 0, none⟩) 1 1) (hg : W0.heap.size = g)
    (hN : N ≤ W0.heap.size) (hl : P.length ≤ 100000) (hi : InsK W0 N iv y.ins)
    (h : ∀ v' w', RowK w' N v' (P ++ [(y, iv)]) → Below N W0 w' → wpList Try.prog ops Q rest (a.put o.dst v') w') : wpList Try.prog ops Q (o :: rest) a w := by
  obtain ⟨i0, hi0, hz0, hz1, hz2⟩ := info_parts stb_info
  have hml : maxLen = 9223372036854775807 := rfl
  subst hw hg
  have hiv : iv.oneCell' = true := by obtain ⟨a', c', rfl, _⟩ := hi; rfl
  have hb0 : Below W0.heap.size W0 (W0.alloc (.cells #[.int .i64 y.o, .int .u64 y.n, .bool y.r, .int .i64 y.d, iv] 52)) := balloc (Below.refl _ _) _
  refine wpList_append_news hgd s x 40 ho N 52 i0 _ 5 56 Try.underlying40 hi0 hz0 hz1 hz2 rfl (by decide) v P.length _ hs (hP.below hb0).own _ 1 1 (stbCells (y, iv)) hx rfl (.inr ⟨_, rfl, fun j u hj => ?_⟩) (fun u hu => ?_) (by omega) (by omega) (by rw [World.size_alloc]; omega) fun v' w' h1 h2 _ => ?_
  · rw [Addr.add_lit, cell_of_block (alloc_get _ _)]
    simpa [stbCells] using hj
  · unfold stbCells at hu
    simp only [List.mem_cons, List.not_mem_nil, or_false] at hu
    rcases hu with rfl | rfl | rfl | rfl | rfl <;> first | rfl | exact hiv
  · have hblk := (hP.below hb0).block
    refine h v' w' ⟨by rw [List.length_append, List.flatMap_append]; simpa using h1, fun p hp => ?_⟩ ?_
    · rcases List.mem_append.1 hp with hp | hp
      · exact (((hP.below hb0).ins p hp)).kept h2 hblk
      · rw [List.mem_singleton.1 hp]
        exact (hi.below hb0).kept h2 hblk
    · exact (Below.alloc (Below.refl _ _) hN _ : Below N W0 _).grown h2 (by rw [World.size_alloc]; omega) (fun k e => (hblk k e).1)
def FewS (w : World) (l : List Stb) (m : Nat) (e : Ending) (w' : World) : Prop := ∃ b : Bool, e = .returned (.bool b) ∧ (b = true → l.length ≤ 20 ∧ m ≤ 20 ∧ ∀ (i : Nat) (x : Stb), l[i]? = some x → x.ins.length ≤ 20) ∧ Below w.heap.size w w'
set_option maxRecDepth 100000 in
set_option maxHeartbeats 8000000 in
theorem fewstubs_any {w : World} {v : Value} {l : List Stb} (h : StbV w v l) (a2 : Option Addr) (m c2 : Nat) :
    Calls Try.prog 23 #[v, .slice a2 m c2] w (FewS w l m) := by
  obtain ⟨a1, c1, rfl, n1, m1, _, r1⟩ := h
  have r1' := fun t (ht : t < l.length) => StbV.get r1 ht
  have R1 := Lib.hid r1'
  clear r1 r1'
  obtain ⟨n, hn⟩ : ∃ n, l.length = n := ⟨_, rfl⟩
  have HN := Lib.hid hn
  rw [hn] at R1 n1 ⊢
  clear hn
  go_enter Try.func23, Try.ntmps23
  go_wp2_with fail
  go_loopw [5] (fun i wr => ∃ t : Nat, t ≤ n ∧ i = .int .i64 t ∧ (∀ (j : Nat) (x : Stb), j < t → l[j]? = some x → x.ins.length ≤ 20) ∧ Below w.heap.size w wr) (fun i _ => n - (intOf i).toNat)
  case atStart => exact ⟨0, Nat.zero_le _, rfl, fun j x hj => by omega, Below.refl _ _⟩
  case round =>
    obtain ⟨t, ht, rfl, hp, hbr⟩ := hrel
    have HP := Lib.hid hp
    clear hp
    by_cases htn : t < n
    · obtain ⟨b1, f1, z, e1, hz, p0, p1, p2, p3, i1, p4, j1⟩ := R1.out t htn
      cases e1
      obtain ⟨ai, ci, rfl, _⟩ := j1
      have p4 := bcellv hbr p4
      have s1 : ((t : Int)).toNat = t := by omega
      have HZ := Lib.hid hz
      clear hz p0 p1 p2 p3
      obtain ⟨k, hk⟩ : ∃ k, z.ins.length = k := ⟨_, rfl⟩
      have HK := Lib.hid hk
      rw [hk] at p4
      clear hk
      by_cases h20 : 20 < k
      · have hd : decide ((20 : Int) < (k : Int)) = true := by simp; omega
        go_wp2
        go_ret
        exact ⟨false, rfl, (fun h => by cases h), by (repeat (first | exact Below.refl _ _ | assumption | refine Below.drew ?_ | refine below_drewN ?_ _ | refine balloc ?_ _ | refine Below.setCell ?_ (by first | (simp; done) | (simp; omega) | omega) _ | refine bchain (by assumption) ?_))⟩
      · have hd : decide ((20 : Int) < (k : Int)) = false := by simp; omega
        go_wp2
        go_roundw
        case rel =>
          refine ⟨t + 1, by omega, by go_num, fun j x hj hx => ?_, by (repeat (first | exact Below.refl _ _ | assumption | refine Below.drew ?_ | refine below_drewN ?_ _ | refine balloc ?_ _ | refine Below.setCell ?_ (by first | (simp; done) | (simp; omega) | omega) _ | refine bchain (by assumption) ?_))⟩
          by_cases hjt : j = t
          · subst hjt
            rw [HZ.out] at hx
            cases hx
            rw [HK.out]; omega
          · exact HP.out j x (by omega) hx
        case measure => simp [intOf]; omega
    · have htn' : t = n := by omega
      subst htn'
      have HA : ∀ (i : Nat) (x : Stb), l[i]? = some x → x.ins.length ≤ 20 := fun i x hx => HP.out i x (by have := (List.getElem?_eq_some_iff.1 hx).1; have := HN.out; omega) hx
      have HA := Lib.hid HA
      by_cases g1 : t ≤ 20
      · have d1 : decide ((t : Int) ≤ 20) = true := by simp; omega
        by_cases g2 : m ≤ 20
        · have d2 : decide ((m : Int) ≤ 20) = true := by simp; omega
          go_wp2
          go_ret
          exact ⟨true, by simp, fun _ => ⟨by rw [HN.out]; exact g1, g2, HA.out⟩, by (repeat (first | exact Below.refl _ _ | assumption | refine Below.drew ?_ | refine below_drewN ?_ _ | refine balloc ?_ _ | refine Below.setCell ?_ (by first | (simp; done) | (simp; omega) | omega) _ | refine bchain (by assumption) ?_))⟩
        · have d2 : decide ((m : Int) ≤ 20) = false := by simp; omega
          go_wp2
          go_ret
          exact ⟨false, by simp, (fun h => by cases h), by (repeat (first | exact Below.refl _ _ | assumption | refine Below.drew ?_ | refine below_drewN ?_ _ | refine balloc ?_ _ | refine Below.setCell ?_ (by first | (simp; done) | (simp; omega) | omega) _ | refine bchain (by assumption) ?_))⟩
      · have d1 : decide ((t : Int) ≤ 20) = false := by simp; omega
        go_wp2
        go_ret
        exact ⟨false, by simp, (fun h => by cases h), by (repeat (first | exact Below.refl _ _ | assumption | refine Below.drew ?_ | refine below_drewN ?_ _ | refine balloc ?_ _ | refine Below.setCell ?_ (by first | (simp; done) | (simp; omega) | omega) _ | refine bchain (by assumption) ?_))⟩
end Go.Proofs.Ytbkfjhbebhnijaa
