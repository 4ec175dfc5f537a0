/-
  The statement SpaceDamage: the walk.
-/
import Derived.Test.YtafailcjdkmdhaaAddr
namespace Go.Proofs.Ytafailcjdkmdhaa
open Go.RowKit
set_option linter.unusedSimpArgs false
set_option linter.unusedVariables false

/-- Where the words before o are as they were, the objects before o are. -/
theorem objs_agree {ws ws' : List Int} (hl : ws'.length = ws.length) : ∀ (pre : List Nat) (i o : Nat) (rest : List Nat), objs ws i = pre ++ o :: rest → (∀ j, j < o → ws'.getD j 0 = ws.getD j 0) → i ≤ ws.length → objs ws' i = pre ++ objs ws' o := by
  intro pre
  induction pre with
  | nil =>
    intro i o rest h _ _
    cases hz : szB ws i
    · rw [objs_no hz] at h; cases h
    · rw [objs_yes hz] at h
      simp only [List.nil_append, List.cons.injEq] at h
      rw [h.1]
      rfl
  | cons p pre ih =>
    intro i o rest h ha hi
    cases hz : szB ws i
    · rw [objs_no hz] at h; cases h
    · rw [objs_yes hz] at h
      simp only [List.cons_append, List.cons.injEq] at h
      obtain ⟨rfl, h⟩ := h
      have hb := szN_bd hz
      have hbd := (objs_bd (ws := ws) ws.length (i + szN ws i) (by omega) hb.2.2).1 o (by rw [h]; simp)
      obtain ⟨k0, k1, k2, k3⟩ := szB_iff.1 hz
      have hy := szN_yes hz
      have e0 : ws'.getD i 0 = ws.getD i 0 := ha i (by omega)
      have e1 : ws'.getD (i + 1) 0 = ws.getD (i + 1) 0 := ha (i + 1) (by omega)
      have h' : szB ws' i = true := szB_iff.2 ⟨by rw [hl]; exact k0, by rw [e0]; exact k1, by rw [e1]; exact k2, by rw [e0, hl]; exact k3⟩
      have hn : szN ws' i = szN ws i := by rw [szN_yes h', hy, e0]
      rw [objs_yes h', hn, ih _ o rest h ha hb.2.2]
      rfl
theorem objs_sz {ws : List Int} : ∀ (n i : Nat), ws.length - i ≤ n → i ≤ ws.length → ∀ o ∈ objs ws i, szB ws o = true := by
  intro n
  induction n with
  | zero =>
    intro i hn hi o ho
    cases hz : szB ws i
    · rw [objs_no hz] at ho; cases ho
    · have := szN_bd hz; omega
  | succ n ih =>
    intro i hn hi o ho
    cases hz : szB ws i
    · rw [objs_no hz] at ho; cases ho
    · have hb := szN_bd hz
      rw [objs_yes hz] at ho
      rcases List.mem_cons.1 ho with rfl | ho
      · exact hz
      · exact ih (i + szN ws i) (by omega) hb.2.2 o ho
/-- What is written into an object leaves the ones before it. -/
theorem objs_damage {ws : List Int} {k d : Nat} (hk : k < (objs ws 0).length) (hd : d ≤ 1) (u : Int) :
    (objs ws 0)[k]! + 1 < ws.length ∧ k ≤ (objs (ws.set ((objs ws 0)[k]! + d) u) 0).length ∧ (objs (ws.set ((objs ws 0)[k]! + d) u) 0).take k = (objs ws 0).take k := by
  have hsp : objs ws 0 = (objs ws 0).take k ++ (objs ws 0)[k]! :: (objs ws 0).drop (k + 1) := by
    rw [getElem!_pos (objs ws 0) k hk, ← List.drop_eq_getElem_cons hk, List.take_append_drop]
  have hag := objs_agree (ws := ws) (ws' := ws.set ((objs ws 0)[k]! + d) u) (by simp) _ 0 _ _ hsp (fun j hj => by
    simp only [List.getD_eq_getElem?_getD]
    rw [List.getElem?_set_ne (by omega)]) (by omega)
  refine ⟨?_, ?_, ?_⟩
  · have hz := objs_sz (ws := ws) ws.length 0 (by omega) (by omega) (objs ws 0)[k]! (by rw [getElem!_pos (objs ws 0) k hk]; exact List.getElem_mem _)
    have := szN_bd hz
    omega
  · rw [hag, List.length_append, List.length_take]
    omega
  · rw [hag, List.take_append_of_le_length (by rw [List.length_take]; omega), List.take_take, Nat.min_self]
theorem alloc_pair {w0 T B : Nat} {wr w6 w7 : World} {A : Option Addr} {n cap : Nat} {bs lm : Int} {ws ws1 : List Int} {g gm g1 gm1 : Option Nat} {v' : Value} (h : PairIn w0 T B wr A n cap bs lm ws g gm) (hs : SpAt w6 B bs lm ws1 g1) (hm6 : Mods (SpS B g) wr w6) (hg1 : ∀ G, g1 = some G → g = some G ∨ wr.heap.size ≤ G) (hk : SpOk bs lm ws1)
    (hm : MdAt w7 v' bs lm ws1 gm1) (hgm1 : ∀ G, gm1 = some G → gm = some G ∨ w6.heap.size ≤ G) (hb : Below w6.heap.size w6 w7) :
    PairAt w7 B v' bs lm ws1 g1 gm1 ∧ Mods (SpS B g) wr w7 ∧ ∀ G, gm1 = some G → gm = some G ∨ wr.heap.size ≤ G := by
  obtain ⟨l1, l2, l3, l4⟩ := h.lt
  have hz := hm6.size
  have g6 := hs.glt
  refine ⟨⟨hs.below hb, hm, hk, fun G e => ?_⟩, hm6.trans (Mods.of_below (S := fun _ => False) hb) (fun i hi => hi.elim), fun G e => (hgm1 G e).imp id (fun h => by omega)⟩
  rcases hgm1 G e with h' | h'
  · rintro (e' | e')
    · exact h.pair.ap G h' (.inl e')
    · rcases hg1 G e' with e2 | e2
      · exact h.pair.ap G h' (.inr e2)
      · have := l4 G h'; omega
  · exact not_sps (by omega) (fun G' e' => by have := g6 G' e'; omega)
theorem IntsV.cut {w : World} {A : Option Addr} {n cap : Nat} {xs : List Int} (h : IntsV w (.slice A n cap) xs) {k : Nat} (hk : k ≤ xs.length) : IntsV w (.slice A k cap) (xs.take k) := by
  obtain ⟨a, c, hv, h1, h2, h3⟩ := h
  simp only [Value.slice.injEq] at hv
  obtain ⟨rfl, hn, rfl⟩ := hv
  refine ⟨A, cap, by rw [List.length_take, Nat.min_eq_left hk], by rw [List.length_take]; omega, h2, ?_⟩
  rcases h3 with rfl | ⟨b, off, rfl, h3⟩
  · exact .inl (by simp)
  · refine .inr ⟨b, off, rfl, fun i x hx => h3 i x ?_⟩
    have hi := (List.getElem?_eq_some_iff.1 hx).1
    rw [List.length_take] at hi
    rwa [List.getElem?_take_of_lt (by omega)] at hx
theorem IntsV.mods2 {S : Nat → Prop} {w w' : World} {G n cap : Nat} {xs : List Int} (h : IntsV w (.slice (some ⟨G, 0, none⟩) n cap) xs) (hm : Mods S w w') (hG : ¬ S G) : IntsV w' (.slice (some ⟨G, 0, none⟩) n cap) xs := by
  obtain ⟨a, cap', hv, h1, h2, h3⟩ := h
  refine ⟨a, cap', hv, h1, h2, ?_⟩
  rcases h3 with h3 | ⟨b, off, ha, h3⟩
  · exact .inl h3
  · refine .inr ⟨b, off, ha, fun i x hx => mcell hm (h3 i x hx) ?_⟩
    cases hv
    cases ha
    exact hG
theorem objA_get {bs : Int} {ws : List Int} {kk : Nat} {y : Int} (hk : (objA bs ws)[kk]? = some y) : kk < (objs ws 0).length ∧ y = bs + ((objs ws 0)[kk]! : Nat) := by
  unfold objA at hk
  have h1 := (List.getElem?_eq_some_iff.1 hk).1
  rw [List.length_map] at h1
  refine ⟨h1, ?_⟩
  rw [List.getElem?_map, List.getElem?_eq_getElem h1] at hk
  rw [getElem!_pos (objs ws 0) kk h1]
  exact (Option.some.inj hk).symm
theorem damage_bd {bs : Int} {ws : List Int} {kk : Nat} {y : Int} (hk : (objA bs ws)[kk]? = some y) : bs ≤ y ∧ y + 1 < bs + ws.length := by
  obtain ⟨h1, rfl⟩ := objA_get hk
  obtain ⟨h2, _⟩ := objs_damage h1 (Nat.zero_le 1) 0
  omega
theorem damage_law {bs : Int} {ws : List Int} {kk : Nat} {y u d : Int} (hk : (objA bs ws)[kk]? = some y) (hd : d = 0 ∨ d = 1) :
    ioE bs ws (y + d) = 0 ∧ kk ≤ (objA bs (stW bs ws (y + d) u)).length ∧ (objA bs (stW bs ws (y + d) u)).take kk = (objA bs ws).take kk := by
  obtain ⟨h1, rfl⟩ := objA_get hk
  obtain ⟨e, rfl, he⟩ : ∃ e : Nat, d = (e : Int) ∧ e ≤ 1 := ⟨d.toNat, by omega, by omega⟩
  obtain ⟨h2, h3, h4⟩ := objs_damage h1 he u
  have hin : inB bs ws.length (bs + ((objs ws 0)[kk]! : Nat) + (e : Int)) = true := inB_iff.2 ⟨by omega, by omega⟩
  have hst : stW bs ws (bs + ((objs ws 0)[kk]! : Nat) + (e : Int)) u = ws.set ((objs ws 0)[kk]! + e) u := by
    unfold stW
    rw [hin, if_pos rfl]
    congr 1
    omega
  rw [hst]
  refine ⟨by unfold ioE; rw [hin]; rfl, ?_, ?_⟩
  · unfold objA; simpa using h3
  · unfold objA; rw [← List.map_take, ← List.map_take, h4]
theorem slice_int (A : Option Addr) (n cap k : Nat) (hk : k ≤ cap) (wx : World) : (Instr.slice 52 (.slice A n cap) none (some (.int .i64 (k : Int))) none).run Try.prog wx = .ok (.slice A k cap) wx := by
  rw [run_slice_h (t := 52) (a := A) (len := n) (cap := cap) (ht := Try.underlying52) (kh := .i64) (h := (k : Int)) (h0 := by omega) (h2 := by omega)]
  have hso : (sizeOf (Try.prog.elem 52)).run Try.prog wx = .ok 1 wx := by kernel_rfl
  rw [hso]
  show Result.ok (sliced A 0 k cap 1) wx = _
  unfold sliced
  have hA : A.map (fun x : Addr => x.add (0 * 1)) = A := by cases A <;> rfl
  split
  · simp
  · rw [hA]; simp

set_option maxRecDepth 100000 in
set_option maxHeartbeats 4000000 in
theorem damage_walk (a : Option Addr) (l : List Op6) (cap : Nat) (nn : Int) (hn0 : 0 ≤ nn) (hn1 : nn ≤ 255) (wd : Bool) (u : Int) (hu : U64 u) (hcap : l.length ≤ cap) (hc63 : cap ≤ 9223372036854775807) (w : World) (hl : Ops6 w a l) :
    Calls Try.prog 6 #[.slice a l.length cap, .int .u8 nn, .bool wd, .int .u64 u] w fun e w' => e = .returned (.bool true) ∧ Below w.heap.size w w' := by
  have h1 := fun W => wide_any a l.length cap (by omega) W
  by_cases hw : 30 < l.length
  · have hd : decide (30 < l.length) = true := by simpa using hw
    rw [hd] at h1
    clear hl hw hd
    generalize l.length = n at *
    go_enter Try.func6, Try.ntmps6
    go_wp2_with (first | (go_at_call 9; refine (awake6 _).mono ?_; rintro e wz ⟨rfl, hz⟩) | (go_at_call 10; refine (h1 _).mono ?_; rintro e wz ⟨rfl, hz⟩))
    go_ret
    exact ⟨rfl, by (repeat (first | exact Below.refl _ _ | assumption | refine Below.drew ?_ | refine below_drewN ?_ _ | refine balloc ?_ _ | refine Below.setCell ?_ (by first | (simp; done) | (simp; omega) | omega) _ | refine bchain (by assumption) ?_))⟩
  have hd : decide (30 < l.length) = false := by simpa using hw
  rw [hd] at h1
  have hn : l.length ≤ 30 := by omega
  have n1 := fun W => new_any 3 100000 W
  have n2 := fun W => rnew_any 3 100000 W
  rw [show max (3 : Int) 0 = 3 by decide, show newLm 3 100000 = 100000 by decide] at n1 n2
  have hk0 : SpOk 3 100000 [] := ⟨by omega, by simp, by omega, by simp⟩
  clear hd hw
  go_enter Try.func6, Try.ntmps6
  go_wp2_with fail
  refine (awake6 _).mono ?_
  rintro e w1 ⟨rfl, hb1'⟩
  go_wp2_with fail
  refine (h1 _).mono ?_
  rintro e w2 ⟨rfl, hb2'⟩
  go_wp2_with fail
  refine (n1 _).mono ?_
  rintro e w3 ⟨rfl, hw3⟩
  have hs3 := spNew w2 3 100000
  rw [hw3] at hs3
  have hb3' : Below w2.heap.size w2 w3 := by rw [← hw3]; exact balloc (Below.refl _ _) _
  go_wp2_with fail
  refine (n2 _).mono ?_
  rintro e w4 ⟨⟨v4, rfl, hm4⟩, hb4'⟩
  obtain ⟨A4, cap4, rfl, hr4⟩ := hm4
  have hm4 : MdAt w4 (.agg #[.int .i64 3, .int .i64 100000, .slice A4 0 cap4]) 3 100000 [] none := ⟨A4, cap4, rfl, hr4⟩
  have hs4 := hs3.below hb4'
  have hbw4 : Below w.heap.size w w4 := by (repeat (first | exact Below.refl _ _ | assumption | refine Below.drew ?_ | refine below_drewN ?_ _ | refine balloc ?_ _ | refine Below.setCell ?_ (by first | (simp; done) | (simp; omega) | omega) _ | refine bchain (by assumption) ?_))
  have hw2 : w.heap.size ≤ w2.heap.size := (by (repeat (first | exact Below.refl _ _ | assumption | refine Below.drew ?_ | refine below_drewN ?_ _ | refine balloc ?_ _ | refine Below.setCell ?_ (by first | (simp; done) | (simp; omega) | omega) _ | refine bchain (by assumption) ?_)) : Below w.heap.size w w2).size
  have hlt4 : w2.heap.size < w4.heap.size := hs4.lt
  have hP : PairIn w.heap.size w4.heap.size w2.heap.size (w4.alloc (.cells #[.int .i64 3, .int .i64 100000, .slice A4 0 cap4] 43)) A4 0 cap4 3 100000 [] none none :=
    ⟨rfl, ⟨hs4.below (balloc (Below.refl _ _) _), hm4.below (balloc (Below.refl _ _) _), hk0, fun G e => by cases e⟩, alloc_get _ _, fun G e => (by cases e), fun G e => (by cases e), hw2, by omega, by omega⟩
  have hbw5 : Below w.heap.size w (w4.alloc (.cells #[.int .i64 3, .int .i64 100000, .slice A4 0 cap4] 43)) := balloc hbw4 _
  clear hw3 n1 n2 h1 hb3' hb2' hb1' hb4' hs3 hs4 hm4 hr4 hk0 hbw4
  simp only [List.length_nil]
  generalize w2.heap.size = B at *
  go_wp2_with fail
  generalize w4.heap.size = T at *
  go_loopw [11] (fun i wr => ∃ (t : Nat) (A : Option Addr) (n cp : Nat) (ws : List Int) (g gm : Option Nat), t ≤ l.length ∧ i = .int .i64 t ∧ PairIn w.heap.size T B wr A n cp 3 100000 ws g gm ∧ Below w.heap.size w wr) (fun i _ => l.length - intOf i)
  case atStart => exact ⟨0, _, _, _, _, _, _, Nat.zero_le _, rfl, hP, hbw5⟩
  case round =>
    obtain ⟨t, A, n, cp, ws, g, gm, ht, rfl, hP, hbr⟩ := hrel
    clear hbw5
    by_cases hlt : t < l.length
    · have hl0 := hl
      obtain ⟨b, off, o, rfl, ho, hbl', hou, _, c1, c2, c3, c4, c5, _, _⟩ := (hl.below (B := 0) hbr).get hlt
      have hbl : b < w.heap.size := by
        rcases hl0 with h0 | ⟨b', off', e', hb', _⟩
        · rw [h0] at hlt; simp at hlt
        · cases e'; exact hb'
      obtain ⟨kd, k, c, f, m, s, oa, ou⟩ := o
      simp only at hou c1 c2 c3 c4 c5
      have c2 : wr.cell? ⟨b, off + t * 8 + 1 + 1, none⟩ = some (.int .i64 c) := c2
      have c3 : wr.cell? ⟨b, off + t * 8 + 1 + 2, none⟩ = some (.int .i64 f) := c3
      have c5 : wr.cell? ⟨b, off + t * 8 + 4 + 1, none⟩ = some (.int .i64 s) := c5
      have hPd := hP.drew
      have hA := alloc_any hPd.pair.sp hP.pair.ok k c f m s
      have hR := fun (W : World) (H : MdAt W (.agg #[.int .i64 3, .int .i64 100000, .slice A n cp]) 3 100000 ws gm) => ralloc_any H hP.pair.ok k c f m s
      have hk2 := alOk hP.pair.ok k c f m s
      have s1 : ((t : Int)).toNat = t := by omega
      have hbS : ¬ SpS B g b := not_sps (by have := hP.hB; omega) (fun G h => by have := (hP.gT G h).1; omega)
      have hbT : b ≠ T := by have := hP.hT; omega
      have hbT' : T ≠ b := by have := hP.hT; omega
      generalize alA 3 100000 ws k c f m s = ra at *
      generalize alE 3 100000 ws k c f m s = re at *
      generalize alW 3 100000 ws k c f m s = ws1 at *
      clear ho hl hl0
      go_wp2_with fail
      go_region_held3 (fun w' => w'.cell? ⟨b, off + t * 8 + 1, none⟩ = some (.int .i64 k) ∧ w'.cell? ⟨b, off + t * 8 + 1 + 1, none⟩ = some (.int .i64 c) ∧ w'.cell? ⟨b, off + t * 8 + 1 + 2, none⟩ = some (.int .i64 f) ∧ w'.cell? ⟨b, off + t * 8 + 4, none⟩ = some (.int .i64 m) ∧ w'.cell? ⟨b, off + t * 8 + 4 + 1, none⟩ = some (.int .i64 s)) (exact ⟨c1, c2, c3, c4, c5⟩) (first | (go_at_call 15; refine hA.mono ?_; rintro e w6 ⟨rfl, g1, hs6, hm6, hg1⟩; have c1 := mcell hm6 (show wr.drew.cell? _ = _ from c1) hbS; have c2 := mcell hm6 (show wr.drew.cell? _ = _ from c2) hbS; have c3 := mcell hm6 (show wr.drew.cell? _ = _ from c3) hbS; have c4 := mcell hm6 (show wr.drew.cell? _ = _ from c4) hbS; have c5 := mcell hm6 (show wr.drew.cell? _ = _ from c5) hbS))
      have hmd6 := hPd.pair.md.mods hm6 hP.pair.ap
      have tb := mblock hm6 (show wr.drew.heap[T]? = _ from hP.box) hP.nT
      have hR := hR w6.drew hmd6
      have t0 : w6.cell? ⟨T, 0, none⟩ = some (.int .i64 3) := by rw [cell_of_block tb]; rfl
      have t1 : w6.cell? ⟨T, 1, none⟩ = some (.int .i64 100000) := by rw [cell_of_block tb]; rfl
      have t2 : w6.cell? ⟨T, 2, none⟩ = some (.slice A n cp) := by rw [cell_of_block tb]; rfl
      clear hA hmd6
      go_wp2_with fail
      go_region_with (first | (go_at_call 26; refine hR.mono ?_; rintro e w7 ⟨v', rfl, gm1, hmd7, hgm1, hb7⟩; obtain ⟨A', cap', rfl, hr7⟩ := id hmd7; clear hr7; have c1 := bcellv hb7 (show w6.drew.cell? _ = _ from c1); have c2 := bcellv hb7 (show w6.drew.cell? _ = _ from c2); have c3 := bcellv hb7 (show w6.drew.cell? _ = _ from c3); have c4 := bcellv hb7 (show w6.drew.cell? _ = _ from c4); have c5 := bcellv hb7 (show w6.drew.cell? _ = _ from c5); have tb := bblock hb7 (show w6.drew.heap[T]? = _ from tb); have u0 : w7.cell? ⟨T, 0, none⟩ = some (.int .i64 3) := (by rw [cell_of_block tb]; rfl); have u1 : w7.cell? ⟨T, 1, none⟩ = some (.int .i64 100000) := (by rw [cell_of_block tb]; rfl); have u2 : w7.cell? ⟨T, 2, none⟩ = some (.slice A n cp) := (by rw [cell_of_block tb]; rfl); have u3 : ∀ i, w7.frozen? ⟨T, i, none⟩ = false := frozen_of_block tb; clear t0 t1 t2))
      all_goals
        obtain ⟨p1, p2, p3⟩ := alloc_pair hPd (show SpAt w6.drew B 3 100000 ws1 g1 from hs6) hm6.drew hg1 hk2 hmd7 hgm1 hb7
        obtain ⟨q1, q2⟩ := hPd.stepped rfl p1 p2 hg1 p3
        have hbn := (hbr.drew).trans (q2.below hbr.size (TS_ge hP.hT hP.hB (fun G e => (hP.gT G e).1)))
        clear u0 u1 u2 u3 c1 c2 c3 c4 c5 q2 p1 p2 hR tb hb7 hm6
        go_wp2
        go_roundw
        case rel => exact ⟨t + 1, _, _, _, _, _, _, by omega, by go_num, q1, hbn⟩
        case measure => simp [intOf]; omega
    · clear hl
      have hk := hP.pair.ok
      have hO := objects_any hP.pair.sp hk
      have hzl := objs_len (ws := ws) ws.length 0 (by omega) (by omega)
      have hxl : (objA 3 ws).length = (objs ws 0).length := by unfold objA; simp
      have hMb : (objA 3 ws).length ≤ 100000 := by have := hk.top; omega
      clear hzl hxl
      go_wp2_with fail
      refine hO.mono ?_
      rintro e w8 ⟨v8, rfl, hrow, hb8⟩
      have hP8 := hP.below hb8
      have hb8w := bchain hb8 hbr
      clear hO
      rcases hM : (objA 3 ws).length with _ | m
      · obtain ⟨a2, c2, rfl, _⟩ := IntsV.of_row hrow
        rw [hM]
        clear hrow hM hP hP8 hbr hMb
        go_wp2
        go_ret
        exact ⟨rfl, by (repeat (first | exact Below.refl _ _ | assumption | refine Below.drew ?_ | refine below_drewN ?_ _ | refine balloc ?_ _ | refine Below.setCell ?_ (by first | (simp; done) | (simp; omega) | omega) _ | refine bchain (by assumption) ?_))⟩
      · have iv := IntsV.of_row hrow
        rw [hM] at hrow hMb
        obtain ⟨G, c2, rfl⟩ := ownsRow_succ hrow
        have hG := (hrow.lt G rfl).1
        obtain ⟨l1, l2, l3, l4⟩ := hP.lt
        have hGT : ¬ TS T B g G := by
          rintro (h | h | h)
          · omega
          · omega
          · have := l3 G h; omega
        obtain ⟨_, _, hv, z1, z2, _⟩ := id iv
        simp only [Value.slice.injEq] at hv
        have hc2 : m + 1 ≤ c2 ∧ c2 ≤ 9223372036854775807 := by
          obtain ⟨_, h5, h6⟩ := hv
          subst h6
          omega
        clear hv z1 z2 l1 l2 l3 l4
        have r0 := Int.emod_nonneg nn (show ((m + 1 : Nat) : Int) ≠ 0 by omega)
        have r1 := Int.emod_lt_of_pos nn (show (0 : Int) < ((m + 1 : Nat) : Int) by omega)
        obtain ⟨kk, hkk⟩ : ∃ kk : Nat, nn % ((m + 1 : Nat) : Int) = (kk : Int) := ⟨(nn % ((m + 1 : Nat) : Int)).toNat, by omega⟩
        rw [hkk] at r0 r1
        obtain ⟨y, hy⟩ : ∃ y, (objA 3 ws)[kk]? = some y := ⟨_, List.getElem?_eq_getElem (by omega)⟩
        have qk : w8.cell? ⟨G, kk, none⟩ = some (.int .i64 y) := by
          have := hrow.cells rfl kk _ (by rw [List.getElem?_map, hy]; rfl)
          rw [Addr.add_lit, Nat.zero_add] at this
          exact this
        have hyb := damage_bd hy
        have hq0 := hk.top
        have s1 : ((kk : Int)).toNat = kk := by omega
        have HM := Lib.hid hM
        clear hrow hM hP hbr hb8
        have s2 : (kk : Int) < ((m + 1 : Nat) : Int) := by omega
        have hkk2 : nn % ((m : Int) + 1) = (kk : Int) := by rw [← hkk]; congr 1
        have s3 : (kk : Int) < (m : Int) + 1 := by omega
        cases wd
        · have hdm := damage_law (bs := 3) (ws := ws) (kk := kk) (y := y) (u := u) (d := 0) hy (by omega)
          rw [Int.add_zero] at hdm
          obtain ⟨f1, f2, f3⟩ := hdm
          have cS := store_any hP8.pair.sp hk (y) u
          have cR := fun (W : World) (H : MdAt W (.agg #[.int .i64 3, .int .i64 100000, .slice A n cp]) 3 100000 ws gm) => rstore_any H hk (y) u
          have hk2 := stOk hk (y) hu
          rw [f1] at cS cR
          generalize stW 3 ws (y) u = ws1 at *
          clear f1 hy
          go_wp2_with fail
          refine cS.mono ?_
          rintro e w9 ⟨rfl, g1, hs9, hm9, hg1⟩
          have hmd9 := hP8.pair.md.mods hm9 hP8.pair.ap
          have tb := mblock hm9 hP8.box hP8.nT
          have t0 : w9.cell? ⟨T, 0, none⟩ = some (.int .i64 3) := by rw [cell_of_block tb]; rfl
          have t1 : w9.cell? ⟨T, 1, none⟩ = some (.int .i64 100000) := by rw [cell_of_block tb]; rfl
          have t2 : w9.cell? ⟨T, 2, none⟩ = some (.slice A n cp) := by rw [cell_of_block tb]; rfl
          clear cS qk
          go_wp2_with fail
          refine (cR _ hmd9).mono ?_
          rintro e w10 ⟨v', rfl, gm1, hmd10, hgm1, hb10⟩
          obtain ⟨A', cap', rfl, hr10⟩ := id hmd10
          clear hr10 t0 t1 t2
          have tb := bblock hb10 tb
          have u0 : w10.cell? ⟨T, 0, none⟩ = some (.int .i64 3) := by rw [cell_of_block tb]; rfl
          have u1 : w10.cell? ⟨T, 1, none⟩ = some (.int .i64 100000) := by rw [cell_of_block tb]; rfl
          have u2 : w10.cell? ⟨T, 2, none⟩ = some (.slice A n cp) := by rw [cell_of_block tb]; rfl
          have u3 : ∀ i, w10.frozen? ⟨T, i, none⟩ = false := frozen_of_block tb
          obtain ⟨p1, p2, p3⟩ := alloc_pair hP8 hs9 hm9 hg1 hk2 hmd10 hgm1 hb10
          obtain ⟨q1, q2⟩ := hP8.stepped rfl p1 p2 hg1 p3
          have hbn := hb8w.trans (q2.below hb8w.size (TS_ge hP8.hT hP8.hB (fun G e => (hP8.gT G e).1)))
          have iv11 := iv.mods2 q2 hGT
          have c11 := objects_any q1.pair.sp hk2
          have hzl := objs_len (ws := ws1) ws1.length 0 (by omega) (by omega)
          have hxl : (objA 3 ws1).length = (objs ws1 0).length := by unfold objA; simp
          have hM1 : (objA 3 ws1).length ≤ 100000 := by have := hk2.top; omega
          clear p1 p2 q2 tb hmd9 hmd10 hs9 hm9 hb10 cR hP8 iv hzl hxl
          go_wp2_with fail
          obtain ⟨w11, hw11⟩ : ∃ w11, (((w10.setCell ⟨T, 0, none⟩ (.int .i64 3)).setCell ⟨T, 1, none⟩ (.int .i64 100000)).setCell ⟨T, 2, none⟩ (.slice A' ws1.length cap')) = w11 := ⟨_, rfl⟩
          rw [hw11] at q1 hbn iv11 c11 ⊢
          clear u0 u1 u2 u3 hw11
          refine c11.mono ?_
          rintro e w12 ⟨v12, rfl, hrow12, hb12⟩
          have q1 := q1.below hb12
          have iv11 := iv11.below hb12
          have iv12 := IntsV.of_row hrow12
          have hbn := bchain hb12 hbn
          obtain ⟨A12, c12, rfl, z1, z2, z3⟩ := id iv12
          have f4 : (kk : Int) ≤ (((objA 3 ws1).length : Nat) : Int) := by omega
          have y1 := fun wx => slice_int A12 (objA 3 ws1).length c12 kk (by omega) wx
          have y2 := fun wx => slice_int (some ⟨G, 0, none⟩) (m + 1) c2 kk (by omega) wx
          have j1 := iv12.cut f2
          have j2 := iv11.cut (k := kk) (by have := HM.out; omega)
          rw [f3] at j1
          have hsm := same_any (show SpAt w12.drew B 3 100000 ws1 g1 from q1.pair.sp) (show MdAt w12.drew _ 3 100000 ws1 gm1 from q1.pair.md) hk2
          obtain ⟨t0, t1, t2, t3⟩ := q1.cells
          generalize (objA 3 ws).take kk = pre at *
          generalize hM12 : (objA 3 ws1).length = M1 at *
          generalize hL1 : ws1.length = L1 at *
          clear hM12 hL1 z1 z3 f2 f3 hrow12 iv11 iv12 c11 hb12
          go_wp2_with fail
          go_region_held3 (fun w' => w'.cell? ⟨T, 0, none⟩ = some (.int .i64 3) ∧ w'.cell? ⟨T, 1, none⟩ = some (.int .i64 100000) ∧ w'.cell? ⟨T, 2, none⟩ = some (.slice A' L1 cap')) (exact ⟨t0, t1, t2⟩) (first
            | (go_at_call 28; refine hsm.mono ?_; rintro e w13 ⟨rfl, hb13⟩; have t0 := bcellv hb13 (show w12.drew.cell? _ = _ from t0); have t1 := bcellv hb13 (show w12.drew.cell? _ = _ from t1); have t2 := bcellv hb13 (show w12.drew.cell? _ = _ from t2); have j1 := (show IntsV w12.drew _ _ from j1).below hb13; have j2 := (show IntsV w12.drew _ _ from j2).below hb13)
            | (go_at_call 21; refine (ints_any j1 j2).mono ?_; rintro e w14 ⟨rfl, hb14⟩; have t0 := bcellv hb14 t0; have t1 := bcellv hb14 t1; have t2 := bcellv hb14 t2))
          go_wp2
          go_ret
          exact ⟨by simp, by (repeat (first | exact Below.refl _ _ | assumption | refine Below.drew ?_ | refine below_drewN ?_ _ | refine balloc ?_ _ | refine Below.setCell ?_ (by first | (simp; done) | (simp; omega) | omega) _ | refine bchain (by assumption) ?_))⟩
        · have hdm := damage_law (bs := 3) (ws := ws) (kk := kk) (y := y) (u := u) (d := 1) hy (by omega)
          obtain ⟨f1, f2, f3⟩ := hdm
          have cS := store_any hP8.pair.sp hk (y + 1) u
          have cR := fun (W : World) (H : MdAt W (.agg #[.int .i64 3, .int .i64 100000, .slice A n cp]) 3 100000 ws gm) => rstore_any H hk (y + 1) u
          have hk2 := stOk hk (y + 1) hu
          rw [f1] at cS cR
          generalize stW 3 ws (y + 1) u = ws1 at *
          clear f1 hy
          go_wp2_with fail
          refine cS.mono ?_
          rintro e w9 ⟨rfl, g1, hs9, hm9, hg1⟩
          have hmd9 := hP8.pair.md.mods hm9 hP8.pair.ap
          have tb := mblock hm9 hP8.box hP8.nT
          have t0 : w9.cell? ⟨T, 0, none⟩ = some (.int .i64 3) := by rw [cell_of_block tb]; rfl
          have t1 : w9.cell? ⟨T, 1, none⟩ = some (.int .i64 100000) := by rw [cell_of_block tb]; rfl
          have t2 : w9.cell? ⟨T, 2, none⟩ = some (.slice A n cp) := by rw [cell_of_block tb]; rfl
          clear cS qk
          go_wp2_with fail
          refine (cR _ hmd9).mono ?_
          rintro e w10 ⟨v', rfl, gm1, hmd10, hgm1, hb10⟩
          obtain ⟨A', cap', rfl, hr10⟩ := id hmd10
          clear hr10 t0 t1 t2
          have tb := bblock hb10 tb
          have u0 : w10.cell? ⟨T, 0, none⟩ = some (.int .i64 3) := by rw [cell_of_block tb]; rfl
          have u1 : w10.cell? ⟨T, 1, none⟩ = some (.int .i64 100000) := by rw [cell_of_block tb]; rfl
          have u2 : w10.cell? ⟨T, 2, none⟩ = some (.slice A n cp) := by rw [cell_of_block tb]; rfl
          have u3 : ∀ i, w10.frozen? ⟨T, i, none⟩ = false := frozen_of_block tb
          obtain ⟨p1, p2, p3⟩ := alloc_pair hP8 hs9 hm9 hg1 hk2 hmd10 hgm1 hb10
          obtain ⟨q1, q2⟩ := hP8.stepped rfl p1 p2 hg1 p3
          have hbn := hb8w.trans (q2.below hb8w.size (TS_ge hP8.hT hP8.hB (fun G e => (hP8.gT G e).1)))
          have iv11 := iv.mods2 q2 hGT
          have c11 := objects_any q1.pair.sp hk2
          have hzl := objs_len (ws := ws1) ws1.length 0 (by omega) (by omega)
          have hxl : (objA 3 ws1).length = (objs ws1 0).length := by unfold objA; simp
          have hM1 : (objA 3 ws1).length ≤ 100000 := by have := hk2.top; omega
          clear p1 p2 q2 tb hmd9 hmd10 hs9 hm9 hb10 cR hP8 iv hzl hxl
          go_wp2_with fail
          obtain ⟨w11, hw11⟩ : ∃ w11, (((w10.setCell ⟨T, 0, none⟩ (.int .i64 3)).setCell ⟨T, 1, none⟩ (.int .i64 100000)).setCell ⟨T, 2, none⟩ (.slice A' ws1.length cap')) = w11 := ⟨_, rfl⟩
          rw [hw11] at q1 hbn iv11 c11 ⊢
          clear u0 u1 u2 u3 hw11
          refine c11.mono ?_
          rintro e w12 ⟨v12, rfl, hrow12, hb12⟩
          have q1 := q1.below hb12
          have iv11 := iv11.below hb12
          have iv12 := IntsV.of_row hrow12
          have hbn := bchain hb12 hbn
          obtain ⟨A12, c12, rfl, z1, z2, z3⟩ := id iv12
          have f4 : (kk : Int) ≤ (((objA 3 ws1).length : Nat) : Int) := by omega
          have y1 := fun wx => slice_int A12 (objA 3 ws1).length c12 kk (by omega) wx
          have y2 := fun wx => slice_int (some ⟨G, 0, none⟩) (m + 1) c2 kk (by omega) wx
          have j1 := iv12.cut f2
          have j2 := iv11.cut (k := kk) (by have := HM.out; omega)
          rw [f3] at j1
          have hsm := same_any (show SpAt w12.drew B 3 100000 ws1 g1 from q1.pair.sp) (show MdAt w12.drew _ 3 100000 ws1 gm1 from q1.pair.md) hk2
          obtain ⟨t0, t1, t2, t3⟩ := q1.cells
          generalize (objA 3 ws).take kk = pre at *
          generalize hM12 : (objA 3 ws1).length = M1 at *
          generalize hL1 : ws1.length = L1 at *
          clear hM12 hL1 z1 z3 f2 f3 hrow12 iv11 iv12 c11 hb12
          go_wp2_with fail
          go_region_held3 (fun w' => w'.cell? ⟨T, 0, none⟩ = some (.int .i64 3) ∧ w'.cell? ⟨T, 1, none⟩ = some (.int .i64 100000) ∧ w'.cell? ⟨T, 2, none⟩ = some (.slice A' L1 cap')) (exact ⟨t0, t1, t2⟩) (first
            | (go_at_call 28; refine hsm.mono ?_; rintro e w13 ⟨rfl, hb13⟩; have t0 := bcellv hb13 (show w12.drew.cell? _ = _ from t0); have t1 := bcellv hb13 (show w12.drew.cell? _ = _ from t1); have t2 := bcellv hb13 (show w12.drew.cell? _ = _ from t2); have j1 := (show IntsV w12.drew _ _ from j1).below hb13; have j2 := (show IntsV w12.drew _ _ from j2).below hb13)
            | (go_at_call 21; refine (ints_any j1 j2).mono ?_; rintro e w14 ⟨rfl, hb14⟩; have t0 := bcellv hb14 t0; have t1 := bcellv hb14 t1; have t2 := bcellv hb14 t2))
          go_wp2
          go_ret
          exact ⟨by simp, by (repeat (first | exact Below.refl _ _ | assumption | refine Below.drew ?_ | refine below_drewN ?_ _ | refine balloc ?_ _ | refine Below.setCell ?_ (by first | (simp; done) | (simp; omega) | omega) _ | refine bchain (by assumption) ?_))⟩
end Go.Proofs.Ytafailcjdkmdhaa
