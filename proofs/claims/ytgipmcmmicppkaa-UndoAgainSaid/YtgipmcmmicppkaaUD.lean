/-
  refmeshref06.Ints: two slices of integers.
-/
import Derived.Test.YtgipmcmmicppkaaUB
import Derived.BigQuiet
import Derived.Test.YtgipmcmmicppkaaUC
import Derived.Maps.AppendAt
import Derived.RangeFuncBox
namespace Go.Proofs.Ytgipmcmmicppkaa
open Go.RowKit
set_option linter.unusedSimpArgs false
set_option linter.unusedVariables false

/-- A slice of integers: its cells. -/
def IntsV (w : World) (v : Value) (xs : List Int) : Prop :=
  ∃ (a : Option Addr) (cap : Nat), v = .slice a xs.length cap ∧ xs.length ≤ cap ∧ cap ≤ 9223372036854775807 ∧ (xs = [] ∨ ∃ b off : Nat, a = some ⟨b, off, none⟩ ∧ ∀ i x, xs[i]? = some x → w.cell? ⟨b, off + i, none⟩ = some (.int .i64 x))
theorem IntsV.below {w w' : World} {v : Value} {xs : List Int} (h : IntsV w v xs) (hb : Below w.heap.size w w') : IntsV w' v xs := by
  obtain ⟨a, cap, hv, h1, h2, h3⟩ := h
  refine ⟨a, cap, hv, h1, h2, ?_⟩
  rcases h3 with h3 | ⟨b, off, ha, h3⟩
  · exact .inl h3
  · exact .inr ⟨b, off, ha, fun i x hx => bcellv hb (h3 i x hx)⟩
theorem IntsV.of_row {w : World} {B : Nat} {v : Value} {xs : List Int} (h : w.ownsRow B 3 1 v xs.length (xs.map (Value.int .i64))) : IntsV w v xs := by
  obtain ⟨h1, h2⟩ := h
  rcases h2 with ⟨rfl, h0⟩ | ⟨g, cap, cur, rfl, _, hh, hn, hm, hs, ht⟩
  · have : xs = [] := List.length_eq_zero_iff.1 h0
    subst this
    exact ⟨none, 0, rfl, Nat.le_refl _, by omega, .inl rfl⟩
  · refine ⟨_, cap, rfl, hn, hm, .inr ⟨g, 0, rfl, fun i x hx => ?_⟩⟩
    rw [Nat.zero_add, cell_of_block hh]
    have hi : i < xs.length := (List.getElem?_eq_some_iff.1 hx).1
    have e : (cur.toList.take (xs.length * 1))[i]? = (xs.map (Value.int .i64))[i]? := by rw [ht]
    rw [List.getElem?_take_of_lt (by omega)] at e
    rw [← Array.getElem?_toList, e, List.getElem?_map, hx]
    rfl
end Go.Proofs.Ytgipmcmmicppkaa
namespace Go.Proofs.Ytgipmcmmicppkaa
open Go.RowKit
set_option linter.unusedSimpArgs false
set_option linter.unusedVariables false

/-- A space of the reference, as a value. -/
def MdAt (w : World) (v : Value) (bs lm : Int) (ws : List Int) (g : Option Nat) : Prop :=
  ∃ (a : Option Addr) (cap : Nat), v = .agg #[.int .i64 bs, .int .i64 lm, .slice a ws.length cap] ∧ RowAt w a cap ws g
theorem MdAt.below {w w' : World} {v : Value} {bs lm : Int} {ws : List Int} {g : Option Nat} (h : MdAt w v bs lm ws g) (hb : Below w.heap.size w w') : MdAt w' v bs lm ws g := by
  obtain ⟨a, cap, hv, hr⟩ := h
  exact ⟨a, cap, hv, hr.keep (fun _ _ _ => bblock hb)⟩
theorem MdAt.mods {S : Nat → Prop} {w w' : World} {v : Value} {bs lm : Int} {ws : List Int} {g : Option Nat} (h : MdAt w v bs lm ws g) (hb : Mods S w w') (hg : ∀ G, g = some G → ¬ S G) : MdAt w' v bs lm ws g := by
  obtain ⟨a, cap, hv, hr⟩ := h
  exact ⟨a, cap, hv, hr.keep (fun _ _ e ho => mblock hb ho (hg _ e))⟩
theorem rnew_any (bs lm : Int) (w : World) :
    Calls Try.prog 52 #[.int .i64 bs, .int .i64 lm] w fun e w' => (∃ v, e = .returned v ∧ MdAt w' v (max bs 0) (newLm bs lm) [] none) ∧ Below w.heap.size w w' := by
  have h0 : MdAt w (.agg #[.int .i64 (max bs 0), .int .i64 (newLm bs lm), .slice none 0 0]) (max bs 0) (newLm bs lm) [] none := ⟨none, 0, rfl, by simp, by omega, .inl ⟨rfl, rfl⟩⟩
  obtain ⟨B, hB⟩ : ∃ B, B = max bs 0 := ⟨_, rfl⟩
  obtain ⟨L, hL⟩ : ∃ L, L = newLm bs lm := ⟨_, rfl⟩
  rw [← hB, ← hL] at h0 ⊢
  have HB := Lib.hid hB
  have HL := Lib.hid hL
  clear hB hL
  go_enter Try.func52, Try.ntmps52
  go_wp2
  all_goals
    refine bodyPost_ret (v := .agg #[.int .i64 B, .int .i64 L, .slice none 0 0]) ?_ rfl ⟨⟨_, rfl, h0.below (by (repeat (first | exact Below.refl _ _ | assumption | refine Below.drew ?_ | refine below_drewN ?_ _ | refine balloc ?_ _ | refine Below.setCell ?_ (by first | (simp; done) | (simp; omega) | omega) _ | refine bchain (by assumption) ?_)))⟩, by (repeat (first | exact Below.refl _ _ | assumption | refine Below.drew ?_ | refine below_drewN ?_ _ | refine balloc ?_ _ | refine Below.setCell ?_ (by first | (simp; done) | (simp; omega) | omega) _ | refine bchain (by assumption) ?_))⟩
    have hB := HB.out
    have hL := HL.out
    unfold newLm at hL
    simp [results, Try.results52, go_sem]
    omega
theorem rtop_any {w : World} {v : Value} {bs lm : Int} {ws : List Int} {g : Option Nat} (h : MdAt w v bs lm ws g) (hk : SpOk bs lm ws) :
    Calls Try.prog 40 #[v] w fun e w' => e = .returned (.int .i64 (bs + ws.length)) ∧ Below w.heap.size w w' := by
  obtain ⟨a, cap, rfl, hr⟩ := h
  obtain ⟨b0, b1, b2, _⟩ := hk
  clear hr
  generalize ws.length = n at *
  go_enter Try.func40, Try.ntmps40
  go_wp2
  all_goals (try (go_quiet (fail); go_wp2))
  go_ret
  exact ⟨rfl, by (repeat (first | exact Below.refl _ _ | assumption | refine Below.drew ?_ | refine below_drewN ?_ _ | refine balloc ?_ _ | refine Below.setCell ?_ (by first | (simp; done) | (simp; omega) | omega) _ | refine bchain (by assumption) ?_))⟩
theorem rcontains_any {w : World} {v : Value} {bs lm : Int} {ws : List Int} {g : Option Nat} (h : MdAt w v bs lm ws g) (hk : SpOk bs lm ws) (x : Int) :
    Calls Try.prog 70 #[v, .int .i64 x] w fun e w' => e = .returned (.bool (inB bs ws.length x)) ∧ Below w.heap.size w w' := by
  have ht := fun (W : World) (H : MdAt W v bs lm ws g) => rtop_any H hk
  obtain ⟨a, cap, rfl, hr⟩ := h
  have h' : ∀ o, MdAt (w.alloc o) (.agg #[.int .i64 bs, .int .i64 lm, .slice a ws.length cap]) bs lm ws g := fun o => MdAt.below ⟨a, cap, rfl, hr⟩ (balloc (Below.refl _ _) _)
  go_enter Try.func70, Try.ntmps70
  go_wp2_with (go_at_call 40; refine (ht _ (h' _)).mono ?_; rintro e wz ⟨rfl, hz⟩)
  all_goals (go_ret; refine ⟨ret_bool ?_, by (repeat (first | exact Below.refl _ _ | assumption | refine Below.drew ?_ | refine below_drewN ?_ _ | refine balloc ?_ _ | refine Below.setCell ?_ (by first | (simp; done) | (simp; omega) | omega) _ | refine bchain (by assumption) ?_))⟩; unfold inB; rw [Bool.eq_iff_iff]; simp; try omega)
end Go.Proofs.Ytgipmcmmicppkaa
namespace Go.Proofs.Ytgipmcmmicppkaa
open Go.RowKit
set_option linter.unusedSimpArgs false
set_option linter.unusedVariables false

theorem szB_false {ws : List Int} {i : Nat} (h : ¬ (i + 2 ≤ ws.length ∧ decB (ws.getD i 0) = true ∧ didB (ws.getD (i + 1) 0) = true ∧ i + (wordsI (decF (ws.getD i 0))).toNat ≤ ws.length)) : szB ws i = false := by
  rw [Bool.eq_false_iff]
  exact fun hh => h (szB_iff.1 hh)
theorem two_ret {v v' : Value} {x y : Int} (h : v = v') (g : x = y) : Ending.returned (.tuple #[v, .int .i64 x]) = .returned (.tuple #[v', .int .i64 y]) := by rw [h, g]

theorem row_below {A B : World} {N : Nat} {e : TypeId} {sz : Nat} {v : Value} {n : Nat} {xs : List Value} (h : A.ownsRow N e sz v n xs) (hb : Below A.heap.size A B) : B.ownsRow N e sz v n xs := by
  refine h.kept (grown_of hb) ?_
  cases hvb : v.ownBlock with
  | none => exact .inl rfl
  | some x => exact .inr (by simp)
theorem row_base {A : World} {N B : Nat} {e : TypeId} {sz : Nat} {v : Value} {n : Nat} {xs : List Value} (h : A.ownsRow N e sz v n xs) (hB : B ≤ N) : A.ownsRow B e sz v n xs := by
  obtain ⟨h1, h2⟩ := h
  refine ⟨h1, ?_⟩
  rcases h2 with h2 | ⟨g, c, cur, hv, hg, h3⟩
  · exact .inl h2
  · exact .inr ⟨g, c, cur, hv, Nat.le_trans hB hg, h3⟩
set_option maxRecDepth 100000 in
set_option maxHeartbeats 2000000 in
theorem rwalk_any {w : World} {v : Value} {bs lm : Int} {ws : List Int} {g : Option Nat} (h : MdAt w v bs lm ws g) (hk : SpOk bs lm ws) :
    Calls Try.prog 72 #[v] w fun e w' => ∃ v', e = .returned (.tuple #[v', .int .i64 (bs + (stopAt ws 0 : Nat))]) ∧ w'.ownsRow w.heap.size 3 1 v' (objA bs ws).length ((objA bs ws).map (Value.int .i64)) ∧ Below w.heap.size w w' := by
  obtain ⟨i0, hi, hz0, hz1, hz2⟩ := info_parts int_info
  obtain ⟨a, cap, rfl, hr⟩ := h
  have b0 := hk.b0
  have b1 := hk.top
  have b2 := hk.lm1
  have hml : maxLen = 9223372036854775807 := rfl
  have hr0 := hr
  obtain ⟨n, hn⟩ : ∃ n, ws.length = n := ⟨_, rfl⟩
  rw [hn] at b1 ⊢
  have cp := hr.1
  rw [hn] at cp
  go_enter Try.func72, Try.ntmps72
  go_wp2_with fail
  go_loopw [4, 5] (fun p q wr => ∃ (i : Nat) (pre : List Nat), q = .int .i64 i ∧ i ≤ n ∧ pre.length ≤ i ∧ objs ws 0 = pre ++ objs ws i ∧ stopAt ws 0 = stopAt ws i ∧ wr.ownsRow (w.heap.size + 1) 3 1 p pre.length ((pre.map (fun j : Nat => bs + (j : Int))).map (Value.int .i64)) ∧ (∃ g' cap', p = .slice (some ⟨g', 0, none⟩) pre.length cap') ∧
      wr.cell? ⟨w.heap.size, 0, none⟩ = some (.int .i64 bs) ∧ wr.cell? ⟨w.heap.size, 2, none⟩ = some (.slice a n cap) ∧ Below w.heap.size w wr) (fun p q wr => n - natOf q)
  case atStart =>
    refine ⟨0, [], rfl, Nat.zero_le _, Nat.le_refl _, rfl, rfl, ?_, ⟨_, _, rfl⟩, by simp [go_sem], by simp [go_sem], by (repeat (first | exact Below.refl _ _ | assumption | refine Below.drew ?_ | refine below_drewN ?_ _ | refine balloc ?_ _ | refine Below.setCell ?_ (by first | (simp; done) | (simp; omega) | omega) _ | refine bchain (by assumption) ?_))⟩
    have := World.ownsRow_made (w.alloc (.cells #[.int .i64 bs, .int .i64 lm,   .slice a n cap] 33)) (base := w.heap.size + 1) (e := 3) (size := 1) #[] 0 (by simp) (Nat.zero_le _) rfl
    rw [World.size_alloc] at this
    exact this
  case round =>
    obtain ⟨i, pre, rfl, hin, hpi, hob, hst, hown, ⟨g', cap', rfl⟩, k0, k2, hbr⟩ := hrel
    have hrr : RowAt wr a cap ws g := hr0.keep (fun _ _ _ ho => (hbr.block _ (Array.getElem?_eq_some_iff.1 ho).1).trans ho)
    have hg' := (hown.lt g' rfl).1
    by_cases h0 : i + 1 < n
    · obtain ⟨G, rfl, rfl, q, _⟩ := hrr.word (i := i) (by omega)
      obtain ⟨G', e', e'', r, _⟩ := hrr.word (i := i + 1) (by omega)
      cases e'
      clear e''
      have hx := getD_u64 hk.u64 i
      have hy := getD_u64 hk.u64 (i + 1)
      have hzf := @szB_false ws i
      have hzt : (i + 2 ≤ ws.length ∧ decB (ws.getD i 0) = true ∧ didB (ws.getD (i + 1) 0) = true ∧ i + (wordsI (decF (ws.getD i 0))).toNat ≤ ws.length) → szB ws i = true := szB_iff.2
      have hzn := @szN_yes ws i
      generalize hxx : ws.getD i 0 = x at *
      generalize hyy : ws.getD (i + 1) 0 = y at *
      clear hxx hyy
      have s1 : ((i : Int)).toNat = i := by omega
      have s2 : IntKind.i64.wrap ((i : Int) + 1) = ((i + 1 : Nat) : Int) := by rw [show ((i + 1 : Nat) : Int) = (i : Int) + 1 by omega]; exact IntWalk.i64_in _ (by omega)
      have s2a : (((i + 1 : Nat) : Int)).toNat = i + 1 := by omega
      have s2b : (((i + 1 : Nat) : Int)) < (n : Int) := by omega
      have s2c : (0 : Int) ≤ (((i + 1 : Nat) : Int)) := by omega
      cases hd : decB x
      · have hz : szB ws i = false := hzf (fun hh => by rw [hd] at hh; exact absurd hh.2.1 (by simp))
        have d1 := fun W => rdecode_no x hx hd W
        have d2 := fun W => rwords_no 0 0 0 (by decide) W
        clear hzf hzt hzn hx hy hd
        go_wp2_with fail
        refine (d1 _).mono ?_
        rintro e w1 ⟨rfl, hb1⟩
        clear d1
        have k0 : w1.cell? ⟨w.heap.size, 0, none⟩ = some (.int .i64 bs) := bcellv hb1 (by first | assumption | exact bcellv (balloc (Below.refl _ _) _) k0)
        have k2 : w1.cell? ⟨w.heap.size, 2, none⟩ = some (.slice (some ⟨G, 0, none⟩) n cap) := bcellv hb1 (by first | assumption | exact bcellv (balloc (Below.refl _ _) _) k2)
        have q : w1.cell? ⟨G, i, none⟩ = some (.int .u64 x) := bcellv hb1 (by first | assumption | exact bcellv (balloc (Below.refl _ _) _) q)
        have r : w1.cell? ⟨G, i + 1, none⟩ = some (.int .u64 y) := bcellv hb1 (by first | assumption | exact bcellv (balloc (Below.refl _ _) _) r)
        have hown := row_below hown hb1
        have p0 : (w1.alloc (.cells #[.int .i64 0, .int .i64 0, .int .i64 0] 69)).cell? ⟨w1.heap.size, 0, none⟩ = some (.int .i64 0) := by simp
        have p1 : (w1.alloc (.cells #[.int .i64 0, .int .i64 0, .int .i64 0] 69)).cell? ⟨w1.heap.size, 1, none⟩ = some (.int .i64 0) := by simp
        have p2 : (w1.alloc (.cells #[.int .i64 0, .int .i64 0, .int .i64 0] 69)).cell? ⟨w1.heap.size, 2, none⟩ = some (.int .i64 0) := by simp
        go_wp2_with fail
        refine (d2 _).mono ?_
        rintro e w2 ⟨rfl, hb2⟩
        clear d2
        have k0 : w2.cell? ⟨w.heap.size, 0, none⟩ = some (.int .i64 bs) := bcellv hb2 (by first | assumption | exact bcellv (balloc (Below.refl _ _) _) k0)
        have k2 : w2.cell? ⟨w.heap.size, 2, none⟩ = some (.slice (some ⟨G, 0, none⟩) n cap) := bcellv hb2 (by first | assumption | exact bcellv (balloc (Below.refl _ _) _) k2)
        have q : w2.cell? ⟨G, i, none⟩ = some (.int .u64 x) := bcellv hb2 (by first | assumption | exact bcellv (balloc (Below.refl _ _) _) q)
        have r : w2.cell? ⟨G, i + 1, none⟩ = some (.int .u64 y) := bcellv hb2 (by first | assumption | exact bcellv (balloc (Below.refl _ _) _) r)
        have hown := row_below (hown.alloc _) hb2
        clear s1 s2 s2a s2b s2c
        rw [objs_no hz] at hob
        rw [stopAt_no hz] at hst
        have s7 : IntKind.i64.wrap (bs + (i : Int)) = bs + (i : Int) := IntWalk.i64_in _ (by omega)
        go_wp2_with fail
        go_quiet (fail)
        clear s7
        go_wp2
        go_ret2
        rw [hst]
        refine ⟨_, rfl, ?_, by (repeat (first | exact Below.refl _ _ | assumption | refine Below.drew ?_ | refine below_drewN ?_ _ | refine balloc ?_ _ | refine Below.setCell ?_ (by first | (simp; done) | (simp; omega) | omega) _ | refine bchain (by assumption) ?_))⟩
        rw [objA, hob]
        have hfin := row_base (B := w.heap.size) (row_below hown (show Below w2.heap.size w2 (w2.drewN nq) from below_drewN (Below.refl _ _) _)) (by omega)
        simpa using hfin
      · cases hdd : didB y
        · have hz : szB ws i = false := hzf (fun hh => by rw [hdd] at hh; exact absurd hh.2.2.1 (by simp))
          have d1 := fun W => rdecode_yes x hx hd W
          have d2 := fun W => rwords_yes _ _ _ (decB_iff.1 hd).1 W
          have d3 := fun W => rdecodeID_no y hy hdd W
          obtain ⟨y0, y1, y2⟩ := wordsI_bd (decB_iff.1 hd).1
          generalize decK x = kk at *
          generalize decC x = cc at *
          generalize decF x = ff at *
          generalize wordsI ff = m at *
          clear hzf hzt hzn hx hy hd hdd
          go_wp2_with fail
          refine (d1 _).mono ?_
          rintro e w1 ⟨rfl, hb1⟩
          clear d1
          have k0 : w1.cell? ⟨w.heap.size, 0, none⟩ = some (.int .i64 bs) := bcellv hb1 (by first | assumption | exact bcellv (balloc (Below.refl _ _) _) k0)
          have k2 : w1.cell? ⟨w.heap.size, 2, none⟩ = some (.slice (some ⟨G, 0, none⟩) n cap) := bcellv hb1 (by first | assumption | exact bcellv (balloc (Below.refl _ _) _) k2)
          have q : w1.cell? ⟨G, i, none⟩ = some (.int .u64 x) := bcellv hb1 (by first | assumption | exact bcellv (balloc (Below.refl _ _) _) q)
          have r : w1.cell? ⟨G, i + 1, none⟩ = some (.int .u64 y) := bcellv hb1 (by first | assumption | exact bcellv (balloc (Below.refl _ _) _) r)
          have hown := row_below hown hb1
          have p0 : (w1.alloc (.cells #[.int .i64 kk, .int .i64 cc, .int .i64 ff] 69)).cell? ⟨w1.heap.size, 0, none⟩ = some (.int .i64 kk) := by simp
          have p1 : (w1.alloc (.cells #[.int .i64 kk, .int .i64 cc, .int .i64 ff] 69)).cell? ⟨w1.heap.size, 1, none⟩ = some (.int .i64 cc) := by simp
          have p2 : (w1.alloc (.cells #[.int .i64 kk, .int .i64 cc, .int .i64 ff] 69)).cell? ⟨w1.heap.size, 2, none⟩ = some (.int .i64 ff) := by simp
          go_wp2_with fail
          refine (d2 _).mono ?_
          rintro e w2 ⟨rfl, hb2⟩
          clear d2
          have k0 : w2.cell? ⟨w.heap.size, 0, none⟩ = some (.int .i64 bs) := bcellv hb2 (by first | assumption | exact bcellv (balloc (Below.refl _ _) _) k0)
          have k2 : w2.cell? ⟨w.heap.size, 2, none⟩ = some (.slice (some ⟨G, 0, none⟩) n cap) := bcellv hb2 (by first | assumption | exact bcellv (balloc (Below.refl _ _) _) k2)
          have q : w2.cell? ⟨G, i, none⟩ = some (.int .u64 x) := bcellv hb2 (by first | assumption | exact bcellv (balloc (Below.refl _ _) _) q)
          have r : w2.cell? ⟨G, i + 1, none⟩ = some (.int .u64 y) := bcellv hb2 (by first | assumption | exact bcellv (balloc (Below.refl _ _) _) r)
          have hown := row_below (hown.alloc _) hb2
          go_wp2_with fail
          refine (d3 _).mono ?_
          rintro e w3 ⟨rfl, hb3⟩
          clear d3
          have k0 : w3.cell? ⟨w.heap.size, 0, none⟩ = some (.int .i64 bs) := bcellv hb3 (by first | assumption | exact bcellv (balloc (Below.refl _ _) _) k0)
          have k2 : w3.cell? ⟨w.heap.size, 2, none⟩ = some (.slice (some ⟨G, 0, none⟩) n cap) := bcellv hb3 (by first | assumption | exact bcellv (balloc (Below.refl _ _) _) k2)
          have q : w3.cell? ⟨G, i, none⟩ = some (.int .u64 x) := bcellv hb3 (by first | assumption | exact bcellv (balloc (Below.refl _ _) _) q)
          have r : w3.cell? ⟨G, i + 1, none⟩ = some (.int .u64 y) := bcellv hb3 (by first | assumption | exact bcellv (balloc (Below.refl _ _) _) r)
          have hown := row_below hown hb3
          clear s1 s2 s2a s2b s2c
          rw [objs_no hz] at hob
          rw [stopAt_no hz] at hst
          have s7 : IntKind.i64.wrap (bs + (i : Int)) = bs + (i : Int) := IntWalk.i64_in _ (by omega)
          go_wp2_with fail
          go_quiet (fail)
          clear s7
          go_wp2
          go_ret2
          rw [hst]
          refine ⟨_, rfl, ?_, by (repeat (first | exact Below.refl _ _ | assumption | refine Below.drew ?_ | refine below_drewN ?_ _ | refine balloc ?_ _ | refine Below.setCell ?_ (by first | (simp; done) | (simp; omega) | omega) _ | refine bchain (by assumption) ?_))⟩
          rw [objA, hob]
          have hfin := row_base (B := w.heap.size) (row_below hown (show Below w3.heap.size w3 (w3.drewN nq) from below_drewN (Below.refl _ _) _)) (by omega)
          simpa using hfin
        · obtain ⟨y0, y1, y2⟩ := wordsI_bd (decB_iff.1 hd).1
          have d1 := fun W => rdecode_yes x hx hd W
          have d2 := fun W => rwords_yes _ _ _ (decB_iff.1 hd).1 W
          have d3 := fun W => rdecodeID_yes y hy hdd W
          have d5 := idB_iff.1 (show idB (didM y) (didS y) = true from hdd)
          by_cases hfit : (i : Int) + wordsI (decF x) ≤ n
          · have hz : szB ws i = true := hzt ⟨by omega, hd, hdd, by omega⟩
            have hzn' := hzn hz
            clear hzf hzt hzn hx hy hd hdd
            generalize didM y = ym at *
            generalize didS y = ys at *
            generalize decK x = kk at *
            generalize decC x = cc at *
            generalize decF x = ff at *
            generalize wordsI ff = m at *
            rw [objs_yes hz, hzn'] at hob
            rw [stopAt_yes hz, hzn'] at hst
            have s5 : IntKind.i64.wrap ((i : Int) + m) = (i : Int) + m := IntWalk.i64_in _ (by omega)
            have s6 : IntKind.i64.wrap (bs + (i : Int)) = bs + (i : Int) := IntWalk.i64_in _ (by omega)
            go_wp2_with fail
            refine (d1 _).mono ?_
            rintro e w1 ⟨rfl, hb1⟩
            clear d1
            have k0 : w1.cell? ⟨w.heap.size, 0, none⟩ = some (.int .i64 bs) := bcellv hb1 (by first | assumption | exact bcellv (balloc (Below.refl _ _) _) k0)
            have k2 : w1.cell? ⟨w.heap.size, 2, none⟩ = some (.slice (some ⟨G, 0, none⟩) n cap) := bcellv hb1 (by first | assumption | exact bcellv (balloc (Below.refl _ _) _) k2)
            have q : w1.cell? ⟨G, i, none⟩ = some (.int .u64 x) := bcellv hb1 (by first | assumption | exact bcellv (balloc (Below.refl _ _) _) q)
            have r : w1.cell? ⟨G, i + 1, none⟩ = some (.int .u64 y) := bcellv hb1 (by first | assumption | exact bcellv (balloc (Below.refl _ _) _) r)
            have hown := row_below hown hb1
            have p0 : (w1.alloc (.cells #[.int .i64 kk, .int .i64 cc, .int .i64 ff] 69)).cell? ⟨w1.heap.size, 0, none⟩ = some (.int .i64 kk) := by simp
            have p1 : (w1.alloc (.cells #[.int .i64 kk, .int .i64 cc, .int .i64 ff] 69)).cell? ⟨w1.heap.size, 1, none⟩ = some (.int .i64 cc) := by simp
            have p2 : (w1.alloc (.cells #[.int .i64 kk, .int .i64 cc, .int .i64 ff] 69)).cell? ⟨w1.heap.size, 2, none⟩ = some (.int .i64 ff) := by simp
            go_wp2_with fail
            refine (d2 _).mono ?_
            rintro e w2 ⟨rfl, hb2⟩
            clear d2
            have k0 : w2.cell? ⟨w.heap.size, 0, none⟩ = some (.int .i64 bs) := bcellv hb2 (by first | assumption | exact bcellv (balloc (Below.refl _ _) _) k0)
            have k2 : w2.cell? ⟨w.heap.size, 2, none⟩ = some (.slice (some ⟨G, 0, none⟩) n cap) := bcellv hb2 (by first | assumption | exact bcellv (balloc (Below.refl _ _) _) k2)
            have q : w2.cell? ⟨G, i, none⟩ = some (.int .u64 x) := bcellv hb2 (by first | assumption | exact bcellv (balloc (Below.refl _ _) _) q)
            have r : w2.cell? ⟨G, i + 1, none⟩ = some (.int .u64 y) := bcellv hb2 (by first | assumption | exact bcellv (balloc (Below.refl _ _) _) r)
            have hown := row_below (hown.alloc _) hb2
            go_wp2_with fail
            refine (d3 _).mono ?_
            rintro e w3 ⟨rfl, hb3⟩
            clear d3
            have k0 : w3.cell? ⟨w.heap.size, 0, none⟩ = some (.int .i64 bs) := bcellv hb3 (by first | assumption | exact bcellv (balloc (Below.refl _ _) _) k0)
            have k2 : w3.cell? ⟨w.heap.size, 2, none⟩ = some (.slice (some ⟨G, 0, none⟩) n cap) := bcellv hb3 (by first | assumption | exact bcellv (balloc (Below.refl _ _) _) k2)
            have q : w3.cell? ⟨G, i, none⟩ = some (.int .u64 x) := bcellv hb3 (by first | assumption | exact bcellv (balloc (Below.refl _ _) _) q)
            have r : w3.cell? ⟨G, i + 1, none⟩ = some (.int .u64 y) := bcellv hb3 (by first | assumption | exact bcellv (balloc (Below.refl _ _) _) r)
            have hown := row_below hown hb3
            go_wp2_with (at_builtin; refine wpList_append_own _ rfl _ _ 36 rfl (w.heap.size + 1) 3 i0 (.int .i64 0) 1 8 Try.underlying36 hi hz0 hz1 hz2 rfl (by decide) _ _ _ rfl (hown.alloc _) ⟨w3.heap.size, 0, none⟩ 1 1 [.int .i64 (bs + i)] rfl rfl (cell_one_new _ _ _) (by simp [Value.oneCell']) (by omega) (by omega) (by have := (hown.lt g' rfl).2; simp; omega) ?_; intro v' w4 hown' hgrow _; obtain ⟨g4, cap4, rfl⟩ := ownsRow_succ hown')
            have hbw : Below w.heap.size w w3 := by (repeat (first | exact Below.refl _ _ | assumption | refine Below.drew ?_ | refine below_drewN ?_ _ | refine balloc ?_ _ | refine Below.setCell ?_ (by first | (simp; done) | (simp; omega) | omega) _ | refine bchain (by assumption) ?_))
            have hb4 : Below w.heap.size w w4 := ((hbw.alloc (by have := hbw.size; omega) _)).grown hgrow (by have := hbw.size; simp; omega) (fun k e => by simp [Value.ownBlock, Act.eval] at e; omega)
            have hk0 : w4.cell? ⟨w.heap.size, 0, none⟩ = some (.int .i64 bs) := hgrow.cell (bcellv (balloc (Below.refl _ _) _) k0) (by simp [Value.ownBlock, Act.eval]; omega)
            have hk2 : w4.cell? ⟨w.heap.size, 2, none⟩ = some (.slice (some ⟨G, 0, none⟩) n cap) := hgrow.cell (bcellv (balloc (Below.refl _ _) _) k2) (by simp [Value.ownBlock, Act.eval]; omega)
            go_wp2
            go_roundw
            case rel => exact ⟨i + m.toNat, pre ++ [i], by go_num, by omega, by simp; omega, by rw [hob]; simp, hst, by simpa using hown', ⟨g4, cap4, by simp⟩, hk0, hk2, hb4⟩
            case measure => simp [natOf]; omega
          · have hz : szB ws i = false := hzf (fun hh => by have := hh.2.2.2; omega)
            clear hzf hzt hzn hx hy hd hdd
            generalize didM y = ym at *
            generalize didS y = ys at *
            generalize decK x = kk at *
            generalize decC x = cc at *
            generalize decF x = ff at *
            generalize wordsI ff = m at *
            have s5 : IntKind.i64.wrap ((i : Int) + m) = (i : Int) + m := IntWalk.i64_in _ (by omega)
            go_wp2_with fail
            refine (d1 _).mono ?_
            rintro e w1 ⟨rfl, hb1⟩
            clear d1
            have k0 : w1.cell? ⟨w.heap.size, 0, none⟩ = some (.int .i64 bs) := bcellv hb1 (by first | assumption | exact bcellv (balloc (Below.refl _ _) _) k0)
            have k2 : w1.cell? ⟨w.heap.size, 2, none⟩ = some (.slice (some ⟨G, 0, none⟩) n cap) := bcellv hb1 (by first | assumption | exact bcellv (balloc (Below.refl _ _) _) k2)
            have q : w1.cell? ⟨G, i, none⟩ = some (.int .u64 x) := bcellv hb1 (by first | assumption | exact bcellv (balloc (Below.refl _ _) _) q)
            have r : w1.cell? ⟨G, i + 1, none⟩ = some (.int .u64 y) := bcellv hb1 (by first | assumption | exact bcellv (balloc (Below.refl _ _) _) r)
            have hown := row_below hown hb1
            have p0 : (w1.alloc (.cells #[.int .i64 kk, .int .i64 cc, .int .i64 ff] 69)).cell? ⟨w1.heap.size, 0, none⟩ = some (.int .i64 kk) := by simp
            have p1 : (w1.alloc (.cells #[.int .i64 kk, .int .i64 cc, .int .i64 ff] 69)).cell? ⟨w1.heap.size, 1, none⟩ = some (.int .i64 cc) := by simp
            have p2 : (w1.alloc (.cells #[.int .i64 kk, .int .i64 cc, .int .i64 ff] 69)).cell? ⟨w1.heap.size, 2, none⟩ = some (.int .i64 ff) := by simp
            go_wp2_with fail
            refine (d2 _).mono ?_
            rintro e w2 ⟨rfl, hb2⟩
            clear d2
            have k0 : w2.cell? ⟨w.heap.size, 0, none⟩ = some (.int .i64 bs) := bcellv hb2 (by first | assumption | exact bcellv (balloc (Below.refl _ _) _) k0)
            have k2 : w2.cell? ⟨w.heap.size, 2, none⟩ = some (.slice (some ⟨G, 0, none⟩) n cap) := bcellv hb2 (by first | assumption | exact bcellv (balloc (Below.refl _ _) _) k2)
            have q : w2.cell? ⟨G, i, none⟩ = some (.int .u64 x) := bcellv hb2 (by first | assumption | exact bcellv (balloc (Below.refl _ _) _) q)
            have r : w2.cell? ⟨G, i + 1, none⟩ = some (.int .u64 y) := bcellv hb2 (by first | assumption | exact bcellv (balloc (Below.refl _ _) _) r)
            have hown := row_below (hown.alloc _) hb2
            go_wp2_with fail
            refine (d3 _).mono ?_
            rintro e w3 ⟨rfl, hb3⟩
            clear d3
            have k0 : w3.cell? ⟨w.heap.size, 0, none⟩ = some (.int .i64 bs) := bcellv hb3 (by first | assumption | exact bcellv (balloc (Below.refl _ _) _) k0)
            have k2 : w3.cell? ⟨w.heap.size, 2, none⟩ = some (.slice (some ⟨G, 0, none⟩) n cap) := bcellv hb3 (by first | assumption | exact bcellv (balloc (Below.refl _ _) _) k2)
            have q : w3.cell? ⟨G, i, none⟩ = some (.int .u64 x) := bcellv hb3 (by first | assumption | exact bcellv (balloc (Below.refl _ _) _) q)
            have r : w3.cell? ⟨G, i + 1, none⟩ = some (.int .u64 y) := bcellv hb3 (by first | assumption | exact bcellv (balloc (Below.refl _ _) _) r)
            have hown := row_below hown hb3
            clear s5 s1 s2 s2a s2b s2c
            rw [objs_no hz] at hob
            rw [stopAt_no hz] at hst
            have s7 : IntKind.i64.wrap (bs + (i : Int)) = bs + (i : Int) := IntWalk.i64_in _ (by omega)
            go_wp2_with fail
            go_quiet (fail)
            clear s7
            go_wp2
            go_ret2
            rw [hst]
            refine ⟨_, rfl, ?_, by (repeat (first | exact Below.refl _ _ | assumption | refine Below.drew ?_ | refine below_drewN ?_ _ | refine balloc ?_ _ | refine Below.setCell ?_ (by first | (simp; done) | (simp; omega) | omega) _ | refine bchain (by assumption) ?_))⟩
            rw [objA, hob]
            have hfin := row_base (B := w.heap.size) (row_below hown (show Below w3.heap.size w3 (w3.drewN nq) from below_drewN (Below.refl _ _) _)) (by omega)
            simpa using hfin
    · have hz : szB ws i = false := szB_end (by omega)
      rw [objs_no hz] at hob
      rw [stopAt_no hz] at hst
      have s7 : IntKind.i64.wrap (bs + (i : Int)) = bs + (i : Int) := IntWalk.i64_in _ (by omega)
      go_wp2_with fail
      go_quiet (fail)
      clear s7
      go_wp2
      go_ret2
      rw [hst]
      refine ⟨_, rfl, ?_, by (repeat (first | exact Below.refl _ _ | assumption | refine Below.drew ?_ | refine below_drewN ?_ _ | refine balloc ?_ _ | refine Below.setCell ?_ (by first | (simp; done) | (simp; omega) | omega) _ | refine bchain (by assumption) ?_))⟩
      rw [objA, hob]
      have hfin := row_base (B := w.heap.size) (row_below hown (show Below wr.heap.size wr (wr.drewN nq) from below_drewN (Below.refl _ _) _)) (by omega)
      simpa using hfin
end Go.Proofs.Ytgipmcmmicppkaa
namespace Go.Proofs.Ytgipmcmmicppkaa
open Go.RowKit
set_option linter.unusedSimpArgs false
set_option linter.unusedVariables false

theorem row_cells {w : World} {a : Option Addr} {cap : Nat} {ws : List Int} {G : Nat} (h : RowAt w a cap ws (some G)) : ∀ (j : Nat) (u : Value), (ws.map (Value.int .u64))[j]? = some u → w.cell? ((⟨G, 0, none⟩ : Addr).add j) = some u := by
  intro j u hj
  obtain ⟨_, _, h3⟩ := h
  rcases h3 with ⟨h3, _⟩ | ⟨G', cur, e, _, hh, hs, ht⟩
  · cases h3
  · cases e
    rw [Addr.add_lit, Nat.zero_add, cell_of_block hh]
    have hlt : j < ws.length := by
      have := (List.getElem?_eq_some_iff.1 hj).1
      simpa using this
    rw [← ht, List.getElem?_take_of_lt hlt] at hj
    rw [← Array.getElem?_toList]
    exact hj
/-- An owned row of words, as a row. -/
theorem RowAt.of_row {w : World} {B : Nat} {v : Value} {ws : List Int} (h : w.ownsRow B 43 1 v ws.length (ws.map (Value.int .u64))) :
    ∃ (a : Option Addr) (cap : Nat) (g : Option Nat), v = .slice a ws.length cap ∧ RowAt w a cap ws g ∧ ∀ G, g = some G → B ≤ G := by
  obtain ⟨h1, h2⟩ := h
  rcases h2 with ⟨rfl, h0⟩ | ⟨g, cap, cur, rfl, hg, hh, hn, hm, hs, ht⟩
  · have : ws = [] := List.length_eq_zero_iff.1 h0
    subst this
    exact ⟨none, 0, none, rfl, ⟨by simp, by omega, .inl ⟨rfl, rfl⟩⟩, fun G h => by cases h⟩
  · refine ⟨_, cap, some g, rfl, ⟨hn, hm, .inr ⟨g, cur, rfl, rfl, hh, by omega, by rw [Nat.mul_one] at ht; exact ht⟩⟩, fun G h => by cases h; exact hg⟩
theorem u64_info' : (Try.prog.info? 43).map (fun i => (i.zero, i.size, i.bytes)) = some (some (.int .u64 0), 1, 8) := by kernel_rfl

set_option maxRecDepth 100000 in
theorem rstore_no {w : World} {v : Value} {bs lm : Int} {ws : List Int} {g : Option Nat} (h : MdAt w v bs lm ws g) (hk : SpOk bs lm ws) (x u : Int) (hx : inB bs ws.length x = false) :
    Calls Try.prog 71 #[v, .int .i64 x, .int .u64 u] w fun e w' => e = .returned (.tuple #[v, .int .i64 2]) ∧ Below w.heap.size w w' := by
  have hC := fun (W : World) (H : MdAt W v bs lm ws g) => rcontains_any H hk x
  rw [hx] at hC
  obtain ⟨a, cap, rfl, hr⟩ := h
  have h1 : ∀ o o', MdAt ((w.alloc o).alloc o') (.agg #[.int .i64 bs, .int .i64 lm, .slice a ws.length cap]) bs lm ws g := fun o o' => MdAt.below ⟨a, cap, rfl, hr⟩ (balloc (balloc (Below.refl _ _) _) _)
  clear hr hx
  generalize ws.length = n at *
  go_enter Try.func71, Try.ntmps71
  go_wp2_with fail
  refine (hC _ (h1 _ _)).mono ?_
  rintro e w1 ⟨rfl, hb1⟩
  have q0 : w1.cell? ⟨w.heap.size, 0, none⟩ = some (.int .i64 bs) := bcellv hb1 (by simp [go_sem])
  have q1 : w1.cell? ⟨w.heap.size, 1, none⟩ = some (.int .i64 lm) := bcellv hb1 (by simp [go_sem])
  have q2 : w1.cell? ⟨w.heap.size, 2, none⟩ = some (.slice a n cap) := bcellv hb1 (by simp [go_sem])
  have r0 : w1.cell? ⟨w.heap.size + 1, 0, none⟩ = some (.int .i64 0) := bcellv hb1 (by simp [go_sem])
  have r1 : w1.cell? ⟨w.heap.size + 1, 1, none⟩ = some (.int .i64 0) := bcellv hb1 (by simp [go_sem])
  have r2 : w1.cell? ⟨w.heap.size + 1, 2, none⟩ = some (.slice none 0 0) := bcellv hb1 (by simp [go_sem])
  have r3 : ∀ i, w1.frozen? ⟨w.heap.size + 1, i, none⟩ = false := fun i => by have := frozen_of_block (bblock hb1 (alloc_get _ _)) i; rw [World.size_alloc] at this; exact this
  clear hC h1
  go_wp2
  exact bodyPost_ret (v := .tuple #[.agg #[.int .i64 bs, .int .i64 lm, .slice a n cap], .int .i64 2]) (by simp [results, Try.results71, go_sem, *]) rfl ⟨rfl, by (repeat (first | exact Below.refl _ _ | assumption | refine Below.drew ?_ | refine below_drewN ?_ _ | refine balloc ?_ _ | refine Below.setCell ?_ (by first | (simp; done) | (simp; omega) | omega) _ | refine bchain (by assumption) ?_))⟩
theorem RowAt.set {w : World} {a : Option Addr} {cap : Nat} {ws : List Int} {G i : Nat} (h : RowAt w a cap ws (some G)) (hi : i < ws.length) (u : Int) : RowAt (w.setCell ⟨G, i, none⟩ (.int .u64 u)) a cap (ws.set i u) (some G) := by
  obtain ⟨e2, e3, e4⟩ := h
  rcases e4 with ⟨e4, _⟩ | ⟨G', cur, f1, f2, f3, f4, f5⟩
  · cases e4
  · cases f1
    exact ⟨by simpa using e2, e3, .inr ⟨G, cur.setIfInBounds i (.int .u64 u), rfl, f2, heap_setCell_same w G i cur _ _ f3, by simpa using f4, take_set hi u f5⟩⟩
theorem RowAt.other {w : World} {a : Option Addr} {cap : Nat} {ws : List Int} {G : Nat} (h : RowAt w a cap ws (some G)) (p : Addr) (u : Value) (hp : G ≠ p.block) : RowAt (w.setCell p u) a cap ws (some G) :=
  h.keep (fun G' o e ho => by cases e; exact (heap_setCell_other _ _ _ _ hp).trans ho)

set_option maxRecDepth 100000 in
set_option maxHeartbeats 1000000 in
theorem rstore_yes {w : World} {v : Value} {bs lm : Int} {ws : List Int} {g : Option Nat} (h : MdAt w v bs lm ws g) (hk : SpOk bs lm ws) (i : Nat) (hi : i < ws.length) (u : Int) :
    Calls Try.prog 71 #[v, .int .i64 (bs + i), .int .u64 u] w fun e w' => ∃ v' g', e = .returned (.tuple #[v', .int .i64 0]) ∧ MdAt w' v' bs lm (ws.set i u) g' ∧ (∀ G, g' = some G → w.heap.size ≤ G) ∧ Below w.heap.size w w' := by
  obtain ⟨i0, hi0, hz0, hz1, hz2⟩ := info_parts u64_info'
  have hC := fun (W : World) (H : MdAt W v bs lm ws g) => rcontains_any H hk (bs + i)
  rw [inB_iff.2 ⟨by omega, by omega⟩] at hC
  obtain ⟨a, cap, rfl, hr⟩ := h
  have hrw := hr
  have h1 : ∀ o o', MdAt ((w.alloc o).alloc o') (.agg #[.int .i64 bs, .int .i64 lm, .slice a ws.length cap]) bs lm ws g := fun o o' => MdAt.below ⟨a, cap, rfl, hr⟩ (balloc (balloc (Below.refl _ _) _) _)
  obtain ⟨G, rfl, rfl, _, _⟩ := hr.word hi
  have b0 := hk.b0
  have b1 := hk.top
  have b2 := hk.lm1
  have hml : maxLen = 9223372036854775807 := rfl
  obtain ⟨n, hn⟩ : ∃ n, ws.length = n := ⟨_, rfl⟩
  rw [hn] at hC h1 hi b1 ⊢
  go_enter Try.func71, Try.ntmps71
  go_wp2_with fail
  refine (hC _ (h1 _ _)).mono ?_
  rintro e w1 ⟨rfl, hb1⟩
  have q0 : w1.cell? ⟨w.heap.size, 0, none⟩ = some (.int .i64 bs) := bcellv hb1 (by simp [go_sem])
  have q1 : w1.cell? ⟨w.heap.size, 1, none⟩ = some (.int .i64 lm) := bcellv hb1 (by simp [go_sem])
  have q2 : w1.cell? ⟨w.heap.size, 2, none⟩ = some (.slice (some ⟨G, 0, none⟩) n cap) := bcellv hb1 (by simp [go_sem])
  have r0 : w1.cell? ⟨w.heap.size + 1, 0, none⟩ = some (.int .i64 0) := bcellv hb1 (by simp [go_sem])
  have r1 : w1.cell? ⟨w.heap.size + 1, 1, none⟩ = some (.int .i64 0) := bcellv hb1 (by simp [go_sem])
  have r2 : w1.cell? ⟨w.heap.size + 1, 2, none⟩ = some (.slice none 0 0) := bcellv hb1 (by simp [go_sem])
  have q3 : ∀ i, w1.frozen? ⟨w.heap.size, i, none⟩ = false := fun i => frozen_of_block (bblock hb1 (bblock (balloc (Below.refl _ _) _) (alloc_get _ _))) i
  have r3 : ∀ i, w1.frozen? ⟨w.heap.size + 1, i, none⟩ = false := fun i => by have := frozen_of_block (bblock hb1 (alloc_get _ _)) i; rw [World.size_alloc] at this; exact this
  have hbw : Below w.heap.size w w1 := by (repeat (first | exact Below.refl _ _ | assumption | refine Below.drew ?_ | refine below_drewN ?_ _ | refine balloc ?_ _ | refine Below.setCell ?_ (by first | (simp; done) | (simp; omega) | omega) _ | refine bchain (by assumption) ?_))
  have hz1' : w.heap.size + 2 ≤ w1.heap.size := by have := hb1.size; simp only [World.size_alloc] at this; omega
  have hr1 : RowAt w1 (some ⟨G, 0, none⟩) cap ws (some G) := hrw.keep (fun _ _ _ => bblock hbw)
  have hnews := fun (j : Nat) (x : Value) (hj : (ws.map (Value.int .u64))[j]? = some x) => bcellv (balloc (Below.refl _ w1) (.cells #[] 43)) (row_cells hr1 j x hj)
  have q2' := bcellv (balloc (Below.refl _ w1) (.cells #[] 43)) q2
  clear hC h1 hr hrw hb1
  have s1 : IntKind.i64.wrap (bs + (i : Int) - bs) = (i : Int) := by rw [show bs + (i : Int) - bs = (i : Int) by omega]; exact IntWalk.i64_in _ (by omega)
  have s2 : (bs + (i : Int) - bs).toNat = i := by omega
  have s3 : (0 : Int) ≤ bs + (i : Int) - bs := by omega
  have s4 : bs + (i : Int) - bs < (n : Int) := by omega
  go_wp2_with (at_builtin; refine wpList_append_own _ rfl _ _ 22 rfl w1.heap.size 43 i0 (.int .u64 0) 1 8 Try.underlying22 hi0 hz0 hz1 hz2 rfl (by decide) _ _ _ rfl (World.ownsRow_made w1 #[] 0 (Nat.le_refl _) (Nat.zero_le _) rfl) ⟨G, 0, none⟩ n cap (ws.map (Value.int .u64)) rfl (by simp [hn]) hnews (by intro x hx; obtain ⟨y, _, rfl⟩ := List.mem_map.1 hx; rfl) (by omega) (by omega) (by simp) ?_; intro v' w2 hown' hgrow _; have hb2 : Below w1.heap.size w1 w2 := ((Below.refl _ w1).alloc (Nat.le_refl _) _).grown hgrow (by simp) (fun k e => by simp [Value.ownBlock, Act.eval] at e; omega); have q0 := bcellv hb2 q0; have q1 := bcellv hb2 q1; have q2 := bcellv hb2 q2; have r0 := bcellv hb2 r0; have r1 := bcellv hb2 r1; have r2 := bcellv hb2 r2; obtain ⟨a', cap2, g2, rfl, hr2, hg2⟩ := RowAt.of_row (ws := ws) (by simpa [hn] using hown'); obtain ⟨G2, rfl, rfl, z, z'⟩ := hr2.word (hn.symm ▸ hi); rw [hn]; have g0 := hg2 G2 rfl; have q3 := fun i => (World.frozen?_of_block (a := ⟨w.heap.size, i, none⟩) (hb2.block w.heap.size (by omega))).trans (q3 i); have r3 := fun i => (World.frozen?_of_block (a := ⟨w.heap.size + 1, i, none⟩) (hb2.block (w.heap.size + 1) (by omega))).trans (r3 i))
  have hrow := (((((hr2.set (by rw [hn]; exact hi) u).other ⟨w.heap.size, 2, none⟩ (.slice (some ⟨G2, 0, none⟩) n cap2) (by show G2 ≠ w.heap.size; omega)).other ⟨w.heap.size + 1, 0, none⟩ (.int .i64 bs) (by show G2 ≠ w.heap.size + 1; omega)).other ⟨w.heap.size + 1, 1, none⟩ (.int .i64 lm) (by show G2 ≠ w.heap.size + 1; omega)).other ⟨w.heap.size + 1, 2, none⟩ (.slice (some ⟨G2, 0, none⟩) n cap2) (by show G2 ≠ w.heap.size + 1; omega))
  have n1 : G2 ≠ w.heap.size + 1 := by omega
  have n2 : w.heap.size + 1 ≠ G2 := by omega
  have hbf : Below w.heap.size w w2 := hbw.trans (hb2.mono hbw.size)
  refine bodyPost_ret (v := .tuple #[.agg #[.int .i64 bs, .int .i64 lm, .slice (some ⟨G2, 0, none⟩) n cap2], .int .i64 0]) (by simp [results, Try.results71, go_sem, r0, r1, r2, n1, n2]) rfl ⟨_, some G2, rfl, ⟨some ⟨G2, 0, none⟩, cap2, by rw [List.length_set, hn], hrow⟩, fun G h => by cases h; omega, ?_⟩
  exact ((((hbf.setCell (p := ⟨G2, i, none⟩) (by show w.heap.size ≤ G2; omega) _).setCell (p := ⟨w.heap.size, 2, none⟩) (Nat.le_refl _) _).setCell (p := ⟨w.heap.size + 1, 0, none⟩) (by show w.heap.size ≤ w.heap.size + 1; omega) _).setCell (p := ⟨w.heap.size + 1, 1, none⟩) (by show w.heap.size ≤ w.heap.size + 1; omega) _).setCell (p := ⟨w.heap.size + 1, 2, none⟩) (by show w.heap.size ≤ w.heap.size + 1; omega) _
end Go.Proofs.Ytgipmcmmicppkaa
namespace Go.Proofs.Ytgipmcmmicppkaa
open Go.RowKit
set_option linter.unusedSimpArgs false
set_option linter.unusedVariables false

/-- append of a nil slice to an empty one: nothing happens. -/
theorem run_append_none {P : Program} (t ty e : TypeId) (i : TypeInfo) (ht : P.underlying t = some (.slice e)) (hi : P.info? e = some i) (g : Nat) (w : World) :
    (Builtin.append_ #[t, t] ty #[.slice (some ⟨g, 0, none⟩) 0 0, .slice none 0 0]).run P w = .ok (.slice (some ⟨g, 0, none⟩) 0 0) w := by
  simp [Builtin.append_, run_underlying ht, sizeOf, typeInfo, hi, Builtin.firstCells, Builtin.lenOf, storeCells]
theorem wpList_append_none {P : Program} {ops : Array Oper} {rest : List Oper} {o : Oper} {a : Act} {w : World} {Q : Exit → Act → World → Prop} (hgd : o.guard = none) (s x : Operand) (t : TypeId)
    (ho : o.op = .call { callee := .builtin .append, args := #[s, x], argTypes := #[t, t] }) (e : TypeId) (i : TypeInfo) (ht : P.underlying t = some (.slice e)) (hi : P.info? e = some i)
    (g : Nat) (hs : a.eval s = .slice (some ⟨g, 0, none⟩) 0 0) (hx : a.eval x = .slice none 0 0) (h : wpList P ops Q rest (a.put o.dst (.slice (some ⟨g, 0, none⟩) 0 0)) w) : wpList P ops Q (o :: rest) a w :=
  wpList_plain hgd fun K hK => by
    have hr := run_append_none (P := P) t o.type e i ht hi g w
    unfold Oper.wp execOp
    simp only [ho, resolve, invoke, builtin, Sem.run_bind, Sem.run_pure, Result.andThen_ok, List.map_toArray, List.map_cons, List.map_nil, hs, hx, hr]
    exact hK _ _ h
set_option maxRecDepth 100000 in
theorem ralloc_badH_no {w : World} {v : Value} {bs lm : Int} {ws : List Int} {g : Option Nat} (h : MdAt w v bs lm ws g) (hk : SpOk bs lm ws) (k c f m s : Int) (hh : hvB k c f = false) (hi : idB m s = false) :
    Calls Try.prog 57 #[v, .agg #[.int .i64 k, .int .i64 c, .int .i64 f], .agg #[.int .i64 m, .int .i64 s]] w fun e w' => e = .returned (.tuple #[v, .int .i64 0, .int .i64 1]) ∧ Below w.heap.size w w' := by
  have h1 := fun W => rencode_no k c f hh W
  have h2 := fun W => rencodeID_no m s hi W
  obtain ⟨a, cap, rfl, hr⟩ := h
  clear hr
  generalize ws.length = n at *
  generalize encI k c f = x at *
  generalize idI m s = z at *
  clear hh hi
  go_enter Try.func57, Try.ntmps57
  go_wp2_with fail
  refine (h1 _).mono ?_
  rintro e w1 ⟨rfl, hb1⟩
  have q0 : w1.cell? ⟨w.heap.size, 0, none⟩ = some (.int .i64 bs) := bcellv hb1 (by simp [go_sem])
  have q1 : w1.cell? ⟨w.heap.size, 1, none⟩ = some (.int .i64 lm) := bcellv hb1 (by simp [go_sem])
  have q2 : w1.cell? ⟨w.heap.size, 2, none⟩ = some (.slice a n cap) := bcellv hb1 (by simp [go_sem])
  have p0 : w1.cell? ⟨w.heap.size + 1, 0, none⟩ = some (.int .i64 k) := bcellv hb1 (by simp [go_sem])
  have p1 : w1.cell? ⟨w.heap.size + 1, 1, none⟩ = some (.int .i64 c) := bcellv hb1 (by simp [go_sem])
  have p2 : w1.cell? ⟨w.heap.size + 1, 2, none⟩ = some (.int .i64 f) := bcellv hb1 (by simp [go_sem])
  have i0 : w1.cell? ⟨w.heap.size + 2, 0, none⟩ = some (.int .i64 m) := bcellv hb1 (by simp [go_sem])
  have i1 : w1.cell? ⟨w.heap.size + 2, 1, none⟩ = some (.int .i64 s) := bcellv hb1 (by simp [go_sem])
  have r0 : w1.cell? ⟨w.heap.size + 3, 0, none⟩ = some (.int .i64 0) := bcellv hb1 (by simp [go_sem])
  have r1 : w1.cell? ⟨w.heap.size + 3, 1, none⟩ = some (.int .i64 0) := bcellv hb1 (by simp [go_sem])
  have r2 : w1.cell? ⟨w.heap.size + 3, 2, none⟩ = some (.slice none 0 0) := bcellv hb1 (by simp [go_sem])
  have r3 : ∀ i, w1.frozen? ⟨w.heap.size + 3, i, none⟩ = false := fun i => by have := frozen_of_block (bblock hb1 (alloc_get _ _)) i; simp only [World.size_alloc, Nat.add_assoc, Nat.reduceAdd] at this; exact this
  go_wp2_with fail
  refine (h2 _).mono ?_
  rintro e w2 ⟨rfl, hb2⟩
  have r0' := r0
  have q0 : w2.cell? ⟨w.heap.size, 0, none⟩ = some (.int .i64 bs) := bcellv hb2 (q0)
  have q1 : w2.cell? ⟨w.heap.size, 1, none⟩ = some (.int .i64 lm) := bcellv hb2 (q1)
  have q2 : w2.cell? ⟨w.heap.size, 2, none⟩ = some (.slice a n cap) := bcellv hb2 (q2)
  have p0 : w2.cell? ⟨w.heap.size + 1, 0, none⟩ = some (.int .i64 k) := bcellv hb2 (p0)
  have p1 : w2.cell? ⟨w.heap.size + 1, 1, none⟩ = some (.int .i64 c) := bcellv hb2 (p1)
  have p2 : w2.cell? ⟨w.heap.size + 1, 2, none⟩ = some (.int .i64 f) := bcellv hb2 (p2)
  have i0 : w2.cell? ⟨w.heap.size + 2, 0, none⟩ = some (.int .i64 m) := bcellv hb2 (i0)
  have i1 : w2.cell? ⟨w.heap.size + 2, 1, none⟩ = some (.int .i64 s) := bcellv hb2 (i1)
  have r0 : w2.cell? ⟨w.heap.size + 3, 0, none⟩ = some (.int .i64 0) := bcellv hb2 (r0)
  have r1 : w2.cell? ⟨w.heap.size + 3, 1, none⟩ = some (.int .i64 0) := bcellv hb2 (r1)
  have r2 : w2.cell? ⟨w.heap.size + 3, 2, none⟩ = some (.slice none 0 0) := bcellv hb2 (r2)
  have r3 : ∀ i, w2.frozen? ⟨w.heap.size + 3, i, none⟩ = false := fun i => (World.frozen?_of_block (a := ⟨w.heap.size + 3, i, none⟩) (hb2.block (w.heap.size + 3) (World.block_lt_of_cell? _ _ r0'))).trans (r3 i)
  clear h1 h2
  go_wp2
  exact bodyPost_ret (v := .tuple #[.agg #[.int .i64 bs, .int .i64 lm, .slice a n cap], .int .i64 0, .int .i64 1]) (by simp [results, Try.results57, go_sem, r0, r1, r2]) rfl ⟨rfl, by (repeat (first | exact Below.refl _ _ | assumption | refine Below.drew ?_ | refine below_drewN ?_ _ | refine balloc ?_ _ | refine Below.setCell ?_ (by first | (simp; done) | (simp; omega) | omega) _ | refine bchain (by assumption) ?_))⟩
set_option maxRecDepth 100000 in
theorem ralloc_badH_yes {w : World} {v : Value} {bs lm : Int} {ws : List Int} {g : Option Nat} (h : MdAt w v bs lm ws g) (hk : SpOk bs lm ws) (k c f m s : Int) (hh : hvB k c f = false) (hi : idB m s = true) :
    Calls Try.prog 57 #[v, .agg #[.int .i64 k, .int .i64 c, .int .i64 f], .agg #[.int .i64 m, .int .i64 s]] w fun e w' => e = .returned (.tuple #[v, .int .i64 0, .int .i64 1]) ∧ Below w.heap.size w w' := by
  have h1 := fun W => rencode_no k c f hh W
  have h2 := fun W => rencodeID_yes m s hi W
  obtain ⟨a, cap, rfl, hr⟩ := h
  clear hr
  generalize ws.length = n at *
  generalize encI k c f = x at *
  generalize idI m s = z at *
  clear hh hi
  go_enter Try.func57, Try.ntmps57
  go_wp2_with fail
  refine (h1 _).mono ?_
  rintro e w1 ⟨rfl, hb1⟩
  have q0 : w1.cell? ⟨w.heap.size, 0, none⟩ = some (.int .i64 bs) := bcellv hb1 (by simp [go_sem])
  have q1 : w1.cell? ⟨w.heap.size, 1, none⟩ = some (.int .i64 lm) := bcellv hb1 (by simp [go_sem])
  have q2 : w1.cell? ⟨w.heap.size, 2, none⟩ = some (.slice a n cap) := bcellv hb1 (by simp [go_sem])
  have p0 : w1.cell? ⟨w.heap.size + 1, 0, none⟩ = some (.int .i64 k) := bcellv hb1 (by simp [go_sem])
  have p1 : w1.cell? ⟨w.heap.size + 1, 1, none⟩ = some (.int .i64 c) := bcellv hb1 (by simp [go_sem])
  have p2 : w1.cell? ⟨w.heap.size + 1, 2, none⟩ = some (.int .i64 f) := bcellv hb1 (by simp [go_sem])
  have i0 : w1.cell? ⟨w.heap.size + 2, 0, none⟩ = some (.int .i64 m) := bcellv hb1 (by simp [go_sem])
  have i1 : w1.cell? ⟨w.heap.size + 2, 1, none⟩ = some (.int .i64 s) := bcellv hb1 (by simp [go_sem])
  have r0 : w1.cell? ⟨w.heap.size + 3, 0, none⟩ = some (.int .i64 0) := bcellv hb1 (by simp [go_sem])
  have r1 : w1.cell? ⟨w.heap.size + 3, 1, none⟩ = some (.int .i64 0) := bcellv hb1 (by simp [go_sem])
  have r2 : w1.cell? ⟨w.heap.size + 3, 2, none⟩ = some (.slice none 0 0) := bcellv hb1 (by simp [go_sem])
  have r3 : ∀ i, w1.frozen? ⟨w.heap.size + 3, i, none⟩ = false := fun i => by have := frozen_of_block (bblock hb1 (alloc_get _ _)) i; simp only [World.size_alloc, Nat.add_assoc, Nat.reduceAdd] at this; exact this
  go_wp2_with fail
  refine (h2 _).mono ?_
  rintro e w2 ⟨rfl, hb2⟩
  have r0' := r0
  have q0 : w2.cell? ⟨w.heap.size, 0, none⟩ = some (.int .i64 bs) := bcellv hb2 (q0)
  have q1 : w2.cell? ⟨w.heap.size, 1, none⟩ = some (.int .i64 lm) := bcellv hb2 (q1)
  have q2 : w2.cell? ⟨w.heap.size, 2, none⟩ = some (.slice a n cap) := bcellv hb2 (q2)
  have p0 : w2.cell? ⟨w.heap.size + 1, 0, none⟩ = some (.int .i64 k) := bcellv hb2 (p0)
  have p1 : w2.cell? ⟨w.heap.size + 1, 1, none⟩ = some (.int .i64 c) := bcellv hb2 (p1)
  have p2 : w2.cell? ⟨w.heap.size + 1, 2, none⟩ = some (.int .i64 f) := bcellv hb2 (p2)
  have i0 : w2.cell? ⟨w.heap.size + 2, 0, none⟩ = some (.int .i64 m) := bcellv hb2 (i0)
  have i1 : w2.cell? ⟨w.heap.size + 2, 1, none⟩ = some (.int .i64 s) := bcellv hb2 (i1)
  have r0 : w2.cell? ⟨w.heap.size + 3, 0, none⟩ = some (.int .i64 0) := bcellv hb2 (r0)
  have r1 : w2.cell? ⟨w.heap.size + 3, 1, none⟩ = some (.int .i64 0) := bcellv hb2 (r1)
  have r2 : w2.cell? ⟨w.heap.size + 3, 2, none⟩ = some (.slice none 0 0) := bcellv hb2 (r2)
  have r3 : ∀ i, w2.frozen? ⟨w.heap.size + 3, i, none⟩ = false := fun i => (World.frozen?_of_block (a := ⟨w.heap.size + 3, i, none⟩) (hb2.block (w.heap.size + 3) (World.block_lt_of_cell? _ _ r0'))).trans (r3 i)
  clear h1 h2
  go_wp2
  exact bodyPost_ret (v := .tuple #[.agg #[.int .i64 bs, .int .i64 lm, .slice a n cap], .int .i64 0, .int .i64 1]) (by simp [results, Try.results57, go_sem, r0, r1, r2]) rfl ⟨rfl, by (repeat (first | exact Below.refl _ _ | assumption | refine Below.drew ?_ | refine below_drewN ?_ _ | refine balloc ?_ _ | refine Below.setCell ?_ (by first | (simp; done) | (simp; omega) | omega) _ | refine bchain (by assumption) ?_))⟩
set_option maxRecDepth 100000 in
theorem ralloc_badI {w : World} {v : Value} {bs lm : Int} {ws : List Int} {g : Option Nat} (h : MdAt w v bs lm ws g) (hk : SpOk bs lm ws) (k c f m s : Int) (hh : hvB k c f = true) (hi : idB m s = false) :
    Calls Try.prog 57 #[v, .agg #[.int .i64 k, .int .i64 c, .int .i64 f], .agg #[.int .i64 m, .int .i64 s]] w fun e w' => e = .returned (.tuple #[v, .int .i64 0, .int .i64 1]) ∧ Below w.heap.size w w' := by
  have h1 := fun W => rencode_yes k c f hh W
  have h2 := fun W => rencodeID_no m s hi W
  obtain ⟨a, cap, rfl, hr⟩ := h
  clear hr
  generalize ws.length = n at *
  generalize encI k c f = x at *
  generalize idI m s = z at *
  clear hh hi
  go_enter Try.func57, Try.ntmps57
  go_wp2_with fail
  refine (h1 _).mono ?_
  rintro e w1 ⟨rfl, hb1⟩
  have q0 : w1.cell? ⟨w.heap.size, 0, none⟩ = some (.int .i64 bs) := bcellv hb1 (by simp [go_sem])
  have q1 : w1.cell? ⟨w.heap.size, 1, none⟩ = some (.int .i64 lm) := bcellv hb1 (by simp [go_sem])
  have q2 : w1.cell? ⟨w.heap.size, 2, none⟩ = some (.slice a n cap) := bcellv hb1 (by simp [go_sem])
  have p0 : w1.cell? ⟨w.heap.size + 1, 0, none⟩ = some (.int .i64 k) := bcellv hb1 (by simp [go_sem])
  have p1 : w1.cell? ⟨w.heap.size + 1, 1, none⟩ = some (.int .i64 c) := bcellv hb1 (by simp [go_sem])
  have p2 : w1.cell? ⟨w.heap.size + 1, 2, none⟩ = some (.int .i64 f) := bcellv hb1 (by simp [go_sem])
  have i0 : w1.cell? ⟨w.heap.size + 2, 0, none⟩ = some (.int .i64 m) := bcellv hb1 (by simp [go_sem])
  have i1 : w1.cell? ⟨w.heap.size + 2, 1, none⟩ = some (.int .i64 s) := bcellv hb1 (by simp [go_sem])
  have r0 : w1.cell? ⟨w.heap.size + 3, 0, none⟩ = some (.int .i64 0) := bcellv hb1 (by simp [go_sem])
  have r1 : w1.cell? ⟨w.heap.size + 3, 1, none⟩ = some (.int .i64 0) := bcellv hb1 (by simp [go_sem])
  have r2 : w1.cell? ⟨w.heap.size + 3, 2, none⟩ = some (.slice none 0 0) := bcellv hb1 (by simp [go_sem])
  have r3 : ∀ i, w1.frozen? ⟨w.heap.size + 3, i, none⟩ = false := fun i => by have := frozen_of_block (bblock hb1 (alloc_get _ _)) i; simp only [World.size_alloc, Nat.add_assoc, Nat.reduceAdd] at this; exact this
  go_wp2_with fail
  refine (h2 _).mono ?_
  rintro e w2 ⟨rfl, hb2⟩
  have r0' := r0
  have q0 : w2.cell? ⟨w.heap.size, 0, none⟩ = some (.int .i64 bs) := bcellv hb2 (q0)
  have q1 : w2.cell? ⟨w.heap.size, 1, none⟩ = some (.int .i64 lm) := bcellv hb2 (q1)
  have q2 : w2.cell? ⟨w.heap.size, 2, none⟩ = some (.slice a n cap) := bcellv hb2 (q2)
  have p0 : w2.cell? ⟨w.heap.size + 1, 0, none⟩ = some (.int .i64 k) := bcellv hb2 (p0)
  have p1 : w2.cell? ⟨w.heap.size + 1, 1, none⟩ = some (.int .i64 c) := bcellv hb2 (p1)
  have p2 : w2.cell? ⟨w.heap.size + 1, 2, none⟩ = some (.int .i64 f) := bcellv hb2 (p2)
  have i0 : w2.cell? ⟨w.heap.size + 2, 0, none⟩ = some (.int .i64 m) := bcellv hb2 (i0)
  have i1 : w2.cell? ⟨w.heap.size + 2, 1, none⟩ = some (.int .i64 s) := bcellv hb2 (i1)
  have r0 : w2.cell? ⟨w.heap.size + 3, 0, none⟩ = some (.int .i64 0) := bcellv hb2 (r0)
  have r1 : w2.cell? ⟨w.heap.size + 3, 1, none⟩ = some (.int .i64 0) := bcellv hb2 (r1)
  have r2 : w2.cell? ⟨w.heap.size + 3, 2, none⟩ = some (.slice none 0 0) := bcellv hb2 (r2)
  have r3 : ∀ i, w2.frozen? ⟨w.heap.size + 3, i, none⟩ = false := fun i => (World.frozen?_of_block (a := ⟨w.heap.size + 3, i, none⟩) (hb2.block (w.heap.size + 3) (World.block_lt_of_cell? _ _ r0'))).trans (r3 i)
  clear h1 h2
  go_wp2
  exact bodyPost_ret (v := .tuple #[.agg #[.int .i64 bs, .int .i64 lm, .slice a n cap], .int .i64 0, .int .i64 1]) (by simp [results, Try.results57, go_sem, r0, r1, r2]) rfl ⟨rfl, by (repeat (first | exact Below.refl _ _ | assumption | refine Below.drew ?_ | refine below_drewN ?_ _ | refine balloc ?_ _ | refine Below.setCell ?_ (by first | (simp; done) | (simp; omega) | omega) _ | refine bchain (by assumption) ?_))⟩
set_option maxRecDepth 100000 in
set_option maxHeartbeats 1000000 in
theorem ralloc_full {w : World} {v : Value} {bs lm : Int} {ws : List Int} {g : Option Nat} (h : MdAt w v bs lm ws g) (hk : SpOk bs lm ws) (k c f m s : Int) (hh : hvB k c f = true) (hi : idB m s = true) (hf : lm < bs + ws.length + wordsI f) :
    Calls Try.prog 57 #[v, .agg #[.int .i64 k, .int .i64 c, .int .i64 f], .agg #[.int .i64 m, .int .i64 s]] w fun e w' => e = .returned (.tuple #[v, .int .i64 0, .int .i64 8]) ∧ Below w.heap.size w w' := by
  have h1 := fun W => rencode_yes k c f hh W
  have h2 := fun W => rencodeID_yes m s hi W
  have h3 := fun W => rwords_yes k c f hh W
  have h4 := fun (W : World) (H : MdAt W v bs lm ws g) => rtop_any H hk
  obtain ⟨y0, y1, y2⟩ := wordsI_bd hh
  have b0 := hk.b0
  have b1 := hk.top
  have b2 := hk.lm1
  obtain ⟨a, cap, rfl, hr⟩ := h
  obtain ⟨n, hn⟩ : ∃ n, ws.length = n := ⟨_, rfl⟩
  obtain ⟨y, hy⟩ : ∃ y, wordsI f = y := ⟨_, rfl⟩
  obtain ⟨x, hx⟩ : ∃ x, encI k c f = x := ⟨_, rfl⟩
  obtain ⟨z, hz⟩ : ∃ z, idI m s = z := ⟨_, rfl⟩
  have HX := Lib.hid hx
  have HZ := Lib.hid hz
  have HY := Lib.hid hy
  rw [hy] at h3 y0 y1 y2 hf
  rw [hx] at h1
  rw [hz] at h2
  rw [hn] at h4 b1 hf ⊢
  clear hx hz hy
  go_enter Try.func57, Try.ntmps57
  go_wp2_with fail
  refine (h1 _).mono ?_
  rintro e w1 ⟨rfl, hb1⟩
  have q0 : w1.cell? ⟨w.heap.size, 0, none⟩ = some (.int .i64 bs) := bcellv hb1 (by simp [go_sem])
  have q1 : w1.cell? ⟨w.heap.size, 1, none⟩ = some (.int .i64 lm) := bcellv hb1 (by simp [go_sem])
  have q2 : w1.cell? ⟨w.heap.size, 2, none⟩ = some (.slice a n cap) := bcellv hb1 (by simp [go_sem])
  have p0 : w1.cell? ⟨w.heap.size + 1, 0, none⟩ = some (.int .i64 k) := bcellv hb1 (by simp [go_sem])
  have p1 : w1.cell? ⟨w.heap.size + 1, 1, none⟩ = some (.int .i64 c) := bcellv hb1 (by simp [go_sem])
  have p2 : w1.cell? ⟨w.heap.size + 1, 2, none⟩ = some (.int .i64 f) := bcellv hb1 (by simp [go_sem])
  have i0 : w1.cell? ⟨w.heap.size + 2, 0, none⟩ = some (.int .i64 m) := bcellv hb1 (by simp [go_sem])
  have i1 : w1.cell? ⟨w.heap.size + 2, 1, none⟩ = some (.int .i64 s) := bcellv hb1 (by simp [go_sem])
  have r0 : w1.cell? ⟨w.heap.size + 3, 0, none⟩ = some (.int .i64 0) := bcellv hb1 (by simp [go_sem])
  have r1 : w1.cell? ⟨w.heap.size + 3, 1, none⟩ = some (.int .i64 0) := bcellv hb1 (by simp [go_sem])
  have r2 : w1.cell? ⟨w.heap.size + 3, 2, none⟩ = some (.slice none 0 0) := bcellv hb1 (by simp [go_sem])
  have r3 : ∀ i, w1.frozen? ⟨w.heap.size + 3, i, none⟩ = false := fun i => by have := frozen_of_block (bblock hb1 (alloc_get _ _)) i; simp only [World.size_alloc, Nat.add_assoc, Nat.reduceAdd] at this; exact this
  go_wp2_with fail
  refine (h2 _).mono ?_
  rintro e w2 ⟨rfl, hb2⟩
  have r0' := r0
  have q0 : w2.cell? ⟨w.heap.size, 0, none⟩ = some (.int .i64 bs) := bcellv hb2 (q0)
  have q1 : w2.cell? ⟨w.heap.size, 1, none⟩ = some (.int .i64 lm) := bcellv hb2 (q1)
  have q2 : w2.cell? ⟨w.heap.size, 2, none⟩ = some (.slice a n cap) := bcellv hb2 (q2)
  have p0 : w2.cell? ⟨w.heap.size + 1, 0, none⟩ = some (.int .i64 k) := bcellv hb2 (p0)
  have p1 : w2.cell? ⟨w.heap.size + 1, 1, none⟩ = some (.int .i64 c) := bcellv hb2 (p1)
  have p2 : w2.cell? ⟨w.heap.size + 1, 2, none⟩ = some (.int .i64 f) := bcellv hb2 (p2)
  have i0 : w2.cell? ⟨w.heap.size + 2, 0, none⟩ = some (.int .i64 m) := bcellv hb2 (i0)
  have i1 : w2.cell? ⟨w.heap.size + 2, 1, none⟩ = some (.int .i64 s) := bcellv hb2 (i1)
  have r0 : w2.cell? ⟨w.heap.size + 3, 0, none⟩ = some (.int .i64 0) := bcellv hb2 (r0)
  have r1 : w2.cell? ⟨w.heap.size + 3, 1, none⟩ = some (.int .i64 0) := bcellv hb2 (r1)
  have r2 : w2.cell? ⟨w.heap.size + 3, 2, none⟩ = some (.slice none 0 0) := bcellv hb2 (r2)
  have r3 : ∀ i, w2.frozen? ⟨w.heap.size + 3, i, none⟩ = false := fun i => (World.frozen?_of_block (a := ⟨w.heap.size + 3, i, none⟩) (hb2.block (w.heap.size + 3) (World.block_lt_of_cell? _ _ r0'))).trans (r3 i)
  go_wp2_with fail
  refine (h3 _).mono ?_
  rintro e w3 ⟨rfl, hb3⟩
  have r0' := r0
  have q0 : w3.cell? ⟨w.heap.size, 0, none⟩ = some (.int .i64 bs) := bcellv hb3 (q0)
  have q1 : w3.cell? ⟨w.heap.size, 1, none⟩ = some (.int .i64 lm) := bcellv hb3 (q1)
  have q2 : w3.cell? ⟨w.heap.size, 2, none⟩ = some (.slice a n cap) := bcellv hb3 (q2)
  have p0 : w3.cell? ⟨w.heap.size + 1, 0, none⟩ = some (.int .i64 k) := bcellv hb3 (p0)
  have p1 : w3.cell? ⟨w.heap.size + 1, 1, none⟩ = some (.int .i64 c) := bcellv hb3 (p1)
  have p2 : w3.cell? ⟨w.heap.size + 1, 2, none⟩ = some (.int .i64 f) := bcellv hb3 (p2)
  have i0 : w3.cell? ⟨w.heap.size + 2, 0, none⟩ = some (.int .i64 m) := bcellv hb3 (i0)
  have i1 : w3.cell? ⟨w.heap.size + 2, 1, none⟩ = some (.int .i64 s) := bcellv hb3 (i1)
  have r0 : w3.cell? ⟨w.heap.size + 3, 0, none⟩ = some (.int .i64 0) := bcellv hb3 (r0)
  have r1 : w3.cell? ⟨w.heap.size + 3, 1, none⟩ = some (.int .i64 0) := bcellv hb3 (r1)
  have r2 : w3.cell? ⟨w.heap.size + 3, 2, none⟩ = some (.slice none 0 0) := bcellv hb3 (r2)
  have r3 : ∀ i, w3.frozen? ⟨w.heap.size + 3, i, none⟩ = false := fun i => (World.frozen?_of_block (a := ⟨w.heap.size + 3, i, none⟩) (hb3.block (w.heap.size + 3) (World.block_lt_of_cell? _ _ r0'))).trans (r3 i)
  have hbw3 : Below w.heap.size w w3 := by (repeat (first | exact Below.refl _ _ | assumption | refine Below.drew ?_ | refine below_drewN ?_ _ | refine balloc ?_ _ | refine Below.setCell ?_ (by first | (simp; done) | (simp; omega) | omega) _ | refine bchain (by assumption) ?_))
  have hm3 : MdAt w3 (.agg #[.int .i64 bs, .int .i64 lm, .slice a n cap]) bs lm ws g := MdAt.below ⟨a, cap, by rw [hn], hr⟩ hbw3
  go_wp2_with fail
  have o0 : ∀ x, (over w3 x).cell? ⟨w.heap.size, 0, none⟩ = some (.int .i64 bs) := over_cell q0
  have o1 : ∀ x, (over w3 x).cell? ⟨w.heap.size, 1, none⟩ = some (.int .i64 lm) := over_cell q1
  have o2 : ∀ x, (over w3 x).cell? ⟨w.heap.size, 2, none⟩ = some (.slice a n cap) := over_cell q2
  (refine wp_region_over (by kernel_rfl) (by kernel_rfl) ?_); (repeat (go_big_quiet_step ((first | (go_at_call 40; exact calls_over (h4 _ (hm3.below (over_below _ _)))))))); (refine wpQuiet_nil ?_)
  intro w4 hb4
  clear o0 o1 o2
  have r0' := r0
  have q0 : w4.cell? ⟨w.heap.size, 0, none⟩ = some (.int .i64 bs) := bcellv hb4 (q0)
  have q1 : w4.cell? ⟨w.heap.size, 1, none⟩ = some (.int .i64 lm) := bcellv hb4 (q1)
  have q2 : w4.cell? ⟨w.heap.size, 2, none⟩ = some (.slice a n cap) := bcellv hb4 (q2)
  have p0 : w4.cell? ⟨w.heap.size + 1, 0, none⟩ = some (.int .i64 k) := bcellv hb4 (p0)
  have p1 : w4.cell? ⟨w.heap.size + 1, 1, none⟩ = some (.int .i64 c) := bcellv hb4 (p1)
  have p2 : w4.cell? ⟨w.heap.size + 1, 2, none⟩ = some (.int .i64 f) := bcellv hb4 (p2)
  have i0 : w4.cell? ⟨w.heap.size + 2, 0, none⟩ = some (.int .i64 m) := bcellv hb4 (i0)
  have i1 : w4.cell? ⟨w.heap.size + 2, 1, none⟩ = some (.int .i64 s) := bcellv hb4 (i1)
  have r0 : w4.cell? ⟨w.heap.size + 3, 0, none⟩ = some (.int .i64 0) := bcellv hb4 (r0)
  have r1 : w4.cell? ⟨w.heap.size + 3, 1, none⟩ = some (.int .i64 0) := bcellv hb4 (r1)
  have r2 : w4.cell? ⟨w.heap.size + 3, 2, none⟩ = some (.slice none 0 0) := bcellv hb4 (r2)
  have r3 : ∀ i, w4.frozen? ⟨w.heap.size + 3, i, none⟩ = false := fun i => (World.frozen?_of_block (a := ⟨w.heap.size + 3, i, none⟩) (hb4.block (w.heap.size + 3) (World.block_lt_of_cell? _ _ r0'))).trans (r3 i)
  clear h1 h2 h3 h4
  go_wp2
  exact bodyPost_ret (v := .tuple #[.agg #[.int .i64 bs, .int .i64 lm, .slice a n cap], .int .i64 0, .int .i64 8]) (by simp [results, Try.results57, go_sem, r0, r1, r2]) rfl ⟨rfl, by (repeat (first | exact Below.refl _ _ | assumption | refine Below.drew ?_ | refine below_drewN ?_ _ | refine balloc ?_ _ | refine Below.setCell ?_ (by first | (simp; done) | (simp; omega) | omega) _ | refine bchain (by assumption) ?_))⟩
end Go.Proofs.Ytgipmcmmicppkaa
namespace Go.Proofs.Ytgipmcmmicppkaa
open Go.RowKit
set_option linter.unusedSimpArgs false
set_option linter.unusedVariables false

theorem alloc_at {w : World} (o : Obj) {k : Nat} (h : k = w.heap.size) : (w.alloc o).heap[k]? = some o := by
  subst h
  exact alloc_get w o
theorem alloc_lt {w : World} (o : Obj) {k : Nat} {x : Obj} (h : w.heap[k]? = some x) : (w.alloc o).heap[k]? = some x := bblock (balloc (Below.refl _ _) o) h
theorem grown_refl (w : World) (r : Option Nat) : w.grownBy w r := ⟨rfl, rfl, rfl, Nat.le_refl _, fun _ _ _ => rfl⟩
/-- append of a nil slice to an empty one: nothing happens. -/
theorem run_append_nil {P : Program} (t ty e : TypeId) (i : TypeInfo) (ht : P.underlying t = some (.slice e)) (hi : P.info? e = some i) (g : Nat) (w : World) :
    (Builtin.append_ #[t, t] ty #[.slice (some ⟨g, 0, none⟩) 0 0, .slice none 0 0]).run P w = .ok (.slice (some ⟨g, 0, none⟩) 0 0) w := by
  simp [Builtin.append_, run_underlying ht, sizeOf, typeInfo, hi, Builtin.firstCells, Builtin.lenOf, storeCells]
theorem wpList_append_nil {P : Program} {ops : Array Oper} {rest : List Oper} {o : Oper} {a : Act} {w : World} {Q : Exit → Act → World → Prop} (hgd : o.guard = none) (s x : Operand) (t : TypeId)
    (ho : o.op = .call { callee := .builtin .append, args := #[s, x], argTypes := #[t, t] }) (e : TypeId) (i : TypeInfo) (ht : P.underlying t = some (.slice e)) (hi : P.info? e = some i)
    (g : Nat) (hs : a.eval s = .slice (some ⟨g, 0, none⟩) 0 0) (hx : a.eval x = .slice none 0 0) (h : wpList P ops Q rest (a.put o.dst (.slice (some ⟨g, 0, none⟩) 0 0)) w) : wpList P ops Q (o :: rest) a w :=
  wpList_plain hgd fun K hK => by
    have hr := run_append_nil (P := P) t o.type e i ht hi g w
    unfold Oper.wp execOp
    simp only [ho, resolve, invoke, builtin, Sem.run_bind, Sem.run_pure, Result.andThen_ok, List.map_toArray, List.map_cons, List.map_nil, hs, hx, hr]
    exact hK _ _ h
/-- What is to be appended lies there, or is nil. -/
def NewsAt (w : World) (A : Option Addr) (m c : Nat) (news : List Value) : Prop := (A = none ∧ m = 0 ∧ c = 0) ∨ ∃ ad, A = some ad ∧ ∀ j u, news[j]? = some u → w.cell? (ad.add j) = some u
theorem NewsAt.below {w w' : World} {A : Option Addr} {m c : Nat} {news : List Value} (h : NewsAt w A m c news) (hb : Below w.heap.size w w') : NewsAt w' A m c news := by
  rcases h with h | ⟨ad, hA, h⟩
  · exact .inl h
  · exact .inr ⟨ad, hA, fun j u hj => bcellv hb (h j u hj)⟩
theorem wpList_append_fresh {P : Program} {w : World} {ops : Array Oper} {rest : List Oper} {o : Oper} {a : Act} {Q : Exit → Act → World → Prop} (hgd : o.guard = none) (s x : Operand) (t : TypeId)
    (ho : o.op = .call { callee := .builtin .append, args := #[s, x], argTypes := #[t, t] })
    (base : Nat) (e : TypeId) (i : TypeInfo) (z : Value) (size bytes : Nat) (ht : P.underlying t = some (.slice e)) (hi : P.info? e = some i) (hz : i.zero = some z)
    (hsize : i.size = size) (hby : i.bytes = bytes) (hzs : z.cells.size = size) (hsz : 0 < size)
    (g : Nat) (hs : a.eval s = .slice (some ⟨g, 0, none⟩) 0 0) (hown : w.ownsRow base e size (.slice (some ⟨g, 0, none⟩) 0 0) 0 [])
    (A : Option Addr) (m c : Nat) (news : List Value) (hx : a.eval x = .slice A m c) (hl : news.length = m * size) (hnews : NewsAt w A m c news) (h1 : ∀ u ∈ news, u.oneCell' = true)
    (h63 : m ≤ maxLen) (hbytes : m * bytes ≤ 140737488355328) (hbase : base ≤ w.heap.size)
    (h : ∀ (g' c' : Nat) (w' : World), w'.ownsRow base e size (.slice (some ⟨g', 0, none⟩) m c') m news → w.grownBy w' (some g) → wpList P ops Q rest (a.put o.dst (.slice (some ⟨g', 0, none⟩) m c')) w') : wpList P ops Q (o :: rest) a w := by
  rcases hnews with ⟨rfl, rfl, rfl⟩ | ⟨ad, rfl, hn⟩
  · have h0 : news = [] := List.length_eq_zero_iff.1 (by omega)
    subst h0
    exact wpList_append_nil hgd s x t ho e i ht hi g hs hx (h g 0 w hown (grown_refl w _))
  · refine wpList_append_own w hgd s x t ho base e i z size bytes ht hi hz hsize hby hzs hsz _ 0 [] hs hown ad m c news hx hl hn h1 (by omega) (by rw [Nat.zero_add]; exact hbytes) hbase fun v' w' ho' hg' hnil => ?_
    simp only [Nat.zero_add, List.nil_append] at ho'
    have hv : v' ≠ .slice none 0 0 := fun e => by have := (hnil.1 e).1; cases this
    obtain ⟨_, h2⟩ := id ho'
    rcases h2 with ⟨h2, _⟩ | ⟨g', cap, cur, rfl, _⟩
    · exact absurd h2 hv
    · exact h g' cap w' ho' hg'
/-- The words of a row, as what is to be appended. -/
theorem RowAt.news {w : World} {A : Option Addr} {cap : Nat} {ws : List Int} {g : Option Nat} (h : RowAt w A cap ws g) {t : Nat} (ht : t ≤ ws.length) : NewsAt w A t cap ((ws.take t).map (Value.int .u64)) := by
  have h' := h
  obtain ⟨e1, _, e3⟩ := h
  rcases e3 with ⟨_, e3⟩ | ⟨G, _, rfl, e3, _⟩
  · cases A with
    | none => exact .inl ⟨rfl, by omega, e3⟩
    | some ad =>
      refine .inr ⟨ad, rfl, fun j u hj => ?_⟩
      have h0 : ws = [] := List.length_eq_zero_iff.1 (by omega)
      rw [h0] at hj
      simp at hj
  · cases e3
    refine .inr ⟨_, rfl, fun j u hj => row_cells h' j u ?_⟩
    rw [List.map_take] at hj
    have := (List.getElem?_eq_some_iff.1 hj).1
    rw [List.length_take] at this
    rwa [List.getElem?_take_of_lt (by omega)] at hj
theorem RowAt.apart {w : World} {a : Option Addr} {cap : Nat} {ws : List Int} {g : Option Nat} (h : RowAt w a cap ws g) (p : Addr) (u : Value) (hp : ∀ G, g = some G → G ≠ p.block) : RowAt (w.setCell p u) a cap ws g :=
  h.keep (fun G o e ho => (heap_setCell_other _ _ _ _ (hp G e)).trans ho)
/-- Two words that were just laid. -/
theorem two_new (W : World) (x z : Value) (t : TypeId) : ∀ j u, [x, z][j]? = some u → (W.alloc (.cells #[x, z] t)).cell? ((⟨W.heap.size, 0, none⟩ : Addr).add j) = some u := by
  intro j u hj
  rw [Addr.add_lit, Nat.zero_add, cell_of_block (alloc_get _ _)]
  simpa using hj
theorem u64_one (ws : List Int) : ∀ u ∈ ws.map (Value.int .u64), u.oneCell' = true := by
  intro u hu
  obtain ⟨y, _, rfl⟩ := List.mem_map.1 hu
  rfl
end Go.Proofs.Ytgipmcmmicppkaa
namespace Go.Proofs.Ytgipmcmmicppkaa
open Go.RowKit
set_option linter.unusedSimpArgs false
set_option linter.unusedVariables false

/-- A space of the reference that was just made, and stands within what is handed back. -/
def MadeAt (w : World) (mk : Value → Value) (bs lm : Int) (ws : List Int) (e : Ending) (w' : World) : Prop :=
  ∃ v' g', e = .returned (mk v') ∧ MdAt w' v' bs lm ws g' ∧ (∀ G, g' = some G → w.heap.size ≤ G) ∧ Below w.heap.size w w'
set_option maxRecDepth 100000 in
set_option maxHeartbeats 1000000 in
theorem ralloc_ok {w : World} {v : Value} {bs lm : Int} {ws : List Int} {g : Option Nat} (h : MdAt w v bs lm ws g) (hk : SpOk bs lm ws) (k c f m s : Int) (hh : hvB k c f = true) (hi : idB m s = true) (hf : bs + ws.length + wordsI f ≤ lm) :
    Calls Try.prog 57 #[v, .agg #[.int .i64 k, .int .i64 c, .int .i64 f], .agg #[.int .i64 m, .int .i64 s]] w fun e w' => MadeAt w (fun v' => .tuple #[v', .int .i64 (bs + ws.length), .int .i64 0]) bs lm (ws ++ newObj k c f m s) e w' := by
  have h1 := fun W => rencode_yes k c f hh W
  have h2 := fun W => rencodeID_yes m s hi W
  have h3 := fun W => rwords_yes k c f hh W
  have h4 := fun (W : World) (H : MdAt W v bs lm ws g) => rtop_any H hk
  obtain ⟨y0, y1, y2⟩ := wordsI_bd hh
  have b0 := hk.b0
  have b1 := hk.top
  have b2 := hk.lm1
  obtain ⟨A, cap, rfl, hr⟩ := h
  obtain ⟨n, hn⟩ : ∃ n, ws.length = n := ⟨_, rfl⟩
  obtain ⟨y, hy⟩ : ∃ y, wordsI f = y := ⟨_, rfl⟩
  obtain ⟨x, hx⟩ : ∃ x, encI k c f = x := ⟨_, rfl⟩
  obtain ⟨z, hz⟩ : ∃ z, idI m s = z := ⟨_, rfl⟩
  have HX := Lib.hid hx
  have HZ := Lib.hid hz
  have HY := Lib.hid hy
  rw [hy] at h3 y0 y1 y2 hf
  rw [hx] at h1
  rw [hz] at h2
  rw [hn] at h4 b1 hf ⊢
  clear hx hz hy
  go_enter Try.func57, Try.ntmps57
  go_wp2_with fail
  refine (h1 _).mono ?_
  rintro e w1 ⟨rfl, hb1⟩
  have hb1' := hb1
  have q0 : w1.cell? ⟨w.heap.size, 0, none⟩ = some (.int .i64 bs) := bcellv hb1 (by simp [go_sem])
  have q1 : w1.cell? ⟨w.heap.size, 1, none⟩ = some (.int .i64 lm) := bcellv hb1 (by simp [go_sem])
  have q2 : w1.cell? ⟨w.heap.size, 2, none⟩ = some (.slice A n cap) := bcellv hb1 (by simp [go_sem])
  have p0 : w1.cell? ⟨w.heap.size + 1, 0, none⟩ = some (.int .i64 k) := bcellv hb1 (by simp [go_sem])
  have p1 : w1.cell? ⟨w.heap.size + 1, 1, none⟩ = some (.int .i64 c) := bcellv hb1 (by simp [go_sem])
  have p2 : w1.cell? ⟨w.heap.size + 1, 2, none⟩ = some (.int .i64 f) := bcellv hb1 (by simp [go_sem])
  have i0 : w1.cell? ⟨w.heap.size + 2, 0, none⟩ = some (.int .i64 m) := bcellv hb1 (by simp [go_sem])
  have i1 : w1.cell? ⟨w.heap.size + 2, 1, none⟩ = some (.int .i64 s) := bcellv hb1 (by simp [go_sem])
  have r0 : w1.cell? ⟨w.heap.size + 3, 0, none⟩ = some (.int .i64 0) := bcellv hb1 (by simp [go_sem])
  have r1 : w1.cell? ⟨w.heap.size + 3, 1, none⟩ = some (.int .i64 0) := bcellv hb1 (by simp [go_sem])
  have r2 : w1.cell? ⟨w.heap.size + 3, 2, none⟩ = some (.slice none 0 0) := bcellv hb1 (by simp [go_sem])
  have r3 : ∀ i, w1.frozen? ⟨w.heap.size + 3, i, none⟩ = false := fun i => by have := frozen_of_block (bblock hb1 (alloc_get _ _)) i; simp only [World.size_alloc, Nat.add_assoc, Nat.reduceAdd] at this; exact this
  go_wp2_with fail
  refine (h2 _).mono ?_
  rintro e w2 ⟨rfl, hb2⟩
  have hb2' := hb2
  have r0' := r0
  have q0 : w2.cell? ⟨w.heap.size, 0, none⟩ = some (.int .i64 bs) := bcellv hb2 (q0)
  have q1 : w2.cell? ⟨w.heap.size, 1, none⟩ = some (.int .i64 lm) := bcellv hb2 (q1)
  have q2 : w2.cell? ⟨w.heap.size, 2, none⟩ = some (.slice A n cap) := bcellv hb2 (q2)
  have p0 : w2.cell? ⟨w.heap.size + 1, 0, none⟩ = some (.int .i64 k) := bcellv hb2 (p0)
  have p1 : w2.cell? ⟨w.heap.size + 1, 1, none⟩ = some (.int .i64 c) := bcellv hb2 (p1)
  have p2 : w2.cell? ⟨w.heap.size + 1, 2, none⟩ = some (.int .i64 f) := bcellv hb2 (p2)
  have i0 : w2.cell? ⟨w.heap.size + 2, 0, none⟩ = some (.int .i64 m) := bcellv hb2 (i0)
  have i1 : w2.cell? ⟨w.heap.size + 2, 1, none⟩ = some (.int .i64 s) := bcellv hb2 (i1)
  have r0 : w2.cell? ⟨w.heap.size + 3, 0, none⟩ = some (.int .i64 0) := bcellv hb2 (r0)
  have r1 : w2.cell? ⟨w.heap.size + 3, 1, none⟩ = some (.int .i64 0) := bcellv hb2 (r1)
  have r2 : w2.cell? ⟨w.heap.size + 3, 2, none⟩ = some (.slice none 0 0) := bcellv hb2 (r2)
  have r3 : ∀ i, w2.frozen? ⟨w.heap.size + 3, i, none⟩ = false := fun i => (World.frozen?_of_block (a := ⟨w.heap.size + 3, i, none⟩) (hb2.block (w.heap.size + 3) (World.block_lt_of_cell? _ _ r0'))).trans (r3 i)
  go_wp2_with fail
  refine (h3 _).mono ?_
  rintro e w3 ⟨rfl, hb3⟩
  have hb3' := hb3
  have r0' := r0
  have q0 : w3.cell? ⟨w.heap.size, 0, none⟩ = some (.int .i64 bs) := bcellv hb3 (q0)
  have q1 : w3.cell? ⟨w.heap.size, 1, none⟩ = some (.int .i64 lm) := bcellv hb3 (q1)
  have q2 : w3.cell? ⟨w.heap.size, 2, none⟩ = some (.slice A n cap) := bcellv hb3 (q2)
  have p0 : w3.cell? ⟨w.heap.size + 1, 0, none⟩ = some (.int .i64 k) := bcellv hb3 (p0)
  have p1 : w3.cell? ⟨w.heap.size + 1, 1, none⟩ = some (.int .i64 c) := bcellv hb3 (p1)
  have p2 : w3.cell? ⟨w.heap.size + 1, 2, none⟩ = some (.int .i64 f) := bcellv hb3 (p2)
  have i0 : w3.cell? ⟨w.heap.size + 2, 0, none⟩ = some (.int .i64 m) := bcellv hb3 (i0)
  have i1 : w3.cell? ⟨w.heap.size + 2, 1, none⟩ = some (.int .i64 s) := bcellv hb3 (i1)
  have r0 : w3.cell? ⟨w.heap.size + 3, 0, none⟩ = some (.int .i64 0) := bcellv hb3 (r0)
  have r1 : w3.cell? ⟨w.heap.size + 3, 1, none⟩ = some (.int .i64 0) := bcellv hb3 (r1)
  have r2 : w3.cell? ⟨w.heap.size + 3, 2, none⟩ = some (.slice none 0 0) := bcellv hb3 (r2)
  have r3 : ∀ i, w3.frozen? ⟨w.heap.size + 3, i, none⟩ = false := fun i => (World.frozen?_of_block (a := ⟨w.heap.size + 3, i, none⟩) (hb3.block (w.heap.size + 3) (World.block_lt_of_cell? _ _ r0'))).trans (r3 i)
  have hbw3 : Below w.heap.size w w3 := by (repeat (first | exact Below.refl _ _ | assumption | refine Below.drew ?_ | refine below_drewN ?_ _ | refine balloc ?_ _ | refine Below.setCell ?_ (by first | (simp; done) | (simp; omega) | omega) _ | refine bchain (by assumption) ?_))
  have hm3 : MdAt w3 (.agg #[.int .i64 bs, .int .i64 lm, .slice A n cap]) bs lm ws g := MdAt.below ⟨A, cap, by rw [hn], hr⟩ hbw3
  go_wp2_with fail
  have o0 : ∀ x, (over w3 x).cell? ⟨w.heap.size, 0, none⟩ = some (.int .i64 bs) := over_cell q0
  have o1 : ∀ x, (over w3 x).cell? ⟨w.heap.size, 1, none⟩ = some (.int .i64 lm) := over_cell q1
  have o2 : ∀ x, (over w3 x).cell? ⟨w.heap.size, 2, none⟩ = some (.slice A n cap) := over_cell q2
  (refine wp_region_over (by kernel_rfl) (by kernel_rfl) ?_); (repeat (go_big_quiet_step ((first | (go_at_call 40; exact calls_over (h4 _ (hm3.below (over_below _ _)))))))); (refine wpQuiet_nil ?_)
  intro w4 hb4
  have hb4' := hb4
  clear o0 o1 o2
  have r0' := r0
  have q0 : w4.cell? ⟨w.heap.size, 0, none⟩ = some (.int .i64 bs) := bcellv hb4 (q0)
  have q1 : w4.cell? ⟨w.heap.size, 1, none⟩ = some (.int .i64 lm) := bcellv hb4 (q1)
  have q2 : w4.cell? ⟨w.heap.size, 2, none⟩ = some (.slice A n cap) := bcellv hb4 (q2)
  have p0 : w4.cell? ⟨w.heap.size + 1, 0, none⟩ = some (.int .i64 k) := bcellv hb4 (p0)
  have p1 : w4.cell? ⟨w.heap.size + 1, 1, none⟩ = some (.int .i64 c) := bcellv hb4 (p1)
  have p2 : w4.cell? ⟨w.heap.size + 1, 2, none⟩ = some (.int .i64 f) := bcellv hb4 (p2)
  have i0 : w4.cell? ⟨w.heap.size + 2, 0, none⟩ = some (.int .i64 m) := bcellv hb4 (i0)
  have i1 : w4.cell? ⟨w.heap.size + 2, 1, none⟩ = some (.int .i64 s) := bcellv hb4 (i1)
  have r0 : w4.cell? ⟨w.heap.size + 3, 0, none⟩ = some (.int .i64 0) := bcellv hb4 (r0)
  have r1 : w4.cell? ⟨w.heap.size + 3, 1, none⟩ = some (.int .i64 0) := bcellv hb4 (r1)
  have r2 : w4.cell? ⟨w.heap.size + 3, 2, none⟩ = some (.slice none 0 0) := bcellv hb4 (r2)
  have r3 : ∀ i, w4.frozen? ⟨w.heap.size + 3, i, none⟩ = false := fun i => (World.frozen?_of_block (a := ⟨w.heap.size + 3, i, none⟩) (hb4.block (w.heap.size + 3) (World.block_lt_of_cell? _ _ r0'))).trans (r3 i)
  have hm4 := hm3.below hb4
  have hbw4 : Below w.heap.size w w4 := by (repeat (first | exact Below.refl _ _ | assumption | refine Below.drew ?_ | refine below_drewN ?_ _ | refine balloc ?_ _ | refine Below.setCell ?_ (by first | (simp; done) | (simp; omega) | omega) _ | refine bchain (by assumption) ?_))
  clear hm3 hb1 hb2 hb3 hb4 hbw3 h1 h2 h3
  go_wp2_with fail
  refine (h4 _ hm4).mono ?_
  rintro e w5 ⟨rfl, hb5⟩
  have r0' := r0
  have q0 : w5.cell? ⟨w.heap.size, 0, none⟩ = some (.int .i64 bs) := bcellv hb5 (q0)
  have q1 : w5.cell? ⟨w.heap.size, 1, none⟩ = some (.int .i64 lm) := bcellv hb5 (q1)
  have q2 : w5.cell? ⟨w.heap.size, 2, none⟩ = some (.slice A n cap) := bcellv hb5 (q2)
  have p0 : w5.cell? ⟨w.heap.size + 1, 0, none⟩ = some (.int .i64 k) := bcellv hb5 (p0)
  have p1 : w5.cell? ⟨w.heap.size + 1, 1, none⟩ = some (.int .i64 c) := bcellv hb5 (p1)
  have p2 : w5.cell? ⟨w.heap.size + 1, 2, none⟩ = some (.int .i64 f) := bcellv hb5 (p2)
  have i0 : w5.cell? ⟨w.heap.size + 2, 0, none⟩ = some (.int .i64 m) := bcellv hb5 (i0)
  have i1 : w5.cell? ⟨w.heap.size + 2, 1, none⟩ = some (.int .i64 s) := bcellv hb5 (i1)
  have r0 : w5.cell? ⟨w.heap.size + 3, 0, none⟩ = some (.int .i64 0) := bcellv hb5 (r0)
  have r1 : w5.cell? ⟨w.heap.size + 3, 1, none⟩ = some (.int .i64 0) := bcellv hb5 (r1)
  have r2 : w5.cell? ⟨w.heap.size + 3, 2, none⟩ = some (.slice none 0 0) := bcellv hb5 (r2)
  have r3 : ∀ i, w5.frozen? ⟨w.heap.size + 3, i, none⟩ = false := fun i => (World.frozen?_of_block (a := ⟨w.heap.size + 3, i, none⟩) (hb5.block (w.heap.size + 3) (World.block_lt_of_cell? _ _ r0'))).trans (r3 i)
  have hbw5 : Below w.heap.size w w5 := by (repeat (first | exact Below.refl _ _ | assumption | refine Below.drew ?_ | refine below_drewN ?_ _ | refine balloc ?_ _ | refine Below.setCell ?_ (by first | (simp; done) | (simp; omega) | omega) _ | refine bchain (by assumption) ?_))
  have bk0 : w5.heap[w.heap.size]? = some (.cells #[.int .i64 bs, .int .i64 lm, .slice A n cap] 33 (0, 0)) := bblock hb5 (bblock hb4' (bblock hb3' (bblock hb2' (bblock hb1' (by repeat (first | exact alloc_at _ (by simp) | refine alloc_lt _ ?_))))))
  have bk3 : w5.heap[w.heap.size + 3]? = some (.cells #[.int .i64 0, .int .i64 0, .slice none 0 0] 33 (0, 0)) := bblock hb5 (bblock hb4' (bblock hb3' (bblock hb2' (bblock hb1' (by repeat (first | exact alloc_at _ (by simp) | refine alloc_lt _ ?_))))))
  obtain ⟨i0', hi0, hz0, hz1, hz2⟩ := info_parts u64_info'
  have hml : maxLen = 9223372036854775807 := rfl
  have hzs : w.heap.size + 4 ≤ w5.heap.size := by have := World.block_lt_of_cell? _ _ r0; simp at this; omega
  have hr5 : RowAt w5 A cap ws g := hr.keep (fun G o e ho => (hbw5.block G (Array.getElem?_eq_some_iff.1 ho).1).trans ho)
  have q2' := bcellv (balloc (Below.refl _ w5) (.cells #[] 43)) q2
  clear h4 hm4 hb5 hbw4 hb1' hb2' hb3' hb4'
  have hown0 := World.ownsRow_made w5 (base := w5.heap.size) (e := 43) (size := 1) #[] 0 (Nat.le_refl _) (Nat.zero_le _) rfl
  have hnews : NewsAt (w5.alloc (.cells #[] 43)) A n cap (ws.map (Value.int .u64)) := by
    have := (hr5.news (t := n) (by omega)).below (balloc (Below.refl _ w5) (.cells #[] 43))
    rwa [List.take_of_length_le (by omega)] at this
  go_wp2_with (at_builtin; first
    | (refine wpList_append_fresh rfl _ _ 22 rfl w5.heap.size 43 i0' (.int .u64 0) 1 8 Try.underlying22 hi0 hz0 hz1 hz2 rfl (by decide) w5.heap.size rfl hown0 A n cap (ws.map (Value.int .u64)) rfl (by simp [hn]) hnews (u64_one ws) (by omega) (by omega) (by simp) ?_; intro gv cv w55 hown1 hgrow1; have hb55 : Below w5.heap.size w5 w55 := ((Below.refl _ w5).alloc (Nat.le_refl _) _).grown hgrow1 (by simp) (fun k e => by cases e; exact Nat.le_refl _); have hz55 := hb55.size; have hlt1 := (hown1.lt gv rfl).1; clear hgrow1 hnews hown0)
    | (refine wpList_append_own _ rfl _ _ 22 rfl w5.heap.size 43 i0' (.int .u64 0) 1 8 Try.underlying22 hi0 hz0 hz1 hz2 rfl (by decide) (.slice (some ⟨gv, 0, none⟩) n cv) n (ws.map (Value.int .u64)) rfl (hown1.alloc _) ⟨w55.heap.size, 0, none⟩ 2 2 [.int .u64 x, .int .u64 z] rfl rfl (two_new _ _ _ _) (by simp [Value.oneCell']) (by omega) (by omega) (by simp; omega) ?_; intro v' w6 hown' hgrow _))
  have hb6 : Below w5.heap.size w5 w6 := (hb55.alloc hz55 _).grown hgrow (by simp; omega) (fun k e => by cases e; exact hlt1)
  clear hb55 hz55 hlt1 hown1
  have hz6 : w.heap.size + 4 ≤ w6.heap.size := by have := hb6.size; omega
  have bb0 : w6.heap[w.heap.size]? = some (.cells #[.int .i64 bs, .int .i64 lm, .slice A n cap] 33 (0, 0)) := bblock hb6 bk0
  have bb3 : w6.heap[w.heap.size + 3]? = some (.cells #[.int .i64 0, .int .i64 0, .slice none 0 0] 33 (0, 0)) := bblock hb6 bk3
  have hbw6 : Below w.heap.size w w6 := hbw5.trans (hb6.mono hbw5.size)
  have hown6 := row_base (B := w.heap.size + 4) hown' (by omega)
  obtain ⟨g', cap', rfl⟩ := ownsRow_succ hown'
  clear hown' hgrow hb6 bk0 bk3 q0 q1 q2 p0 p1 p2 i0 i1 r0 r1 r2 r3 hbw5
  go_wp2_with fail
  go_loopw [15, 16] (fun p q wr => ∃ i : Nat, 2 ≤ i ∧ (i : Int) ≤ y ∧ q = .int .i64 i ∧ wr.ownsRow (w.heap.size + 4) 43 1 p (n + i) ((ws ++ x :: z :: List.replicate (i - 2) 0).map (Value.int .u64)) ∧ (∃ g' cap', p = .slice (some ⟨g', 0, none⟩) (n + i) cap') ∧
    wr.heap[w.heap.size]? = some (.cells #[.int .i64 bs, .int .i64 lm, .slice A n cap] 33 (0, 0)) ∧ wr.heap[w.heap.size + 3]? = some (.cells #[.int .i64 0, .int .i64 0, .slice none 0 0] 33 (0, 0)) ∧ Below w.heap.size w wr) (fun p q wr => y.toNat - (intOf q).toNat)
  case atStart => exact ⟨2, by omega, by omega, rfl, by simpa using hown6, ⟨_, _, rfl⟩, bb0, bb3, hbw6⟩
  case round =>
    obtain ⟨i, hi2, hiy, rfl, hown, ⟨g1, cap1, rfl⟩, c0, c3, hbr⟩ := hrel
    clear bb0 bb3 hown6 hbw6
    have hr4 : w.heap.size + 4 ≤ wr.heap.size := by have := (Array.getElem?_eq_some_iff.1 c3).1; have := (hown.lt g1 rfl).1; have := (hown.lt g1 rfl).2; omega
    by_cases hlt : (i : Int) < y
    · have hnew : (ws ++ x :: z :: List.replicate (i - 2) 0).map (Value.int .u64) ++ [Value.int .u64 0] = (ws ++ x :: z :: List.replicate (i + 1 - 2) 0).map (Value.int .u64) := by
        rw [show i + 1 - 2 = (i - 2) + 1 by omega, List.replicate_succ']
        simp
      have HN := Lib.hid hnew
      clear hnew
      go_wp2_with (at_builtin; refine wpList_append_own _ rfl _ _ 22 rfl (w.heap.size + 4) 43 i0' (.int .u64 0) 1 8 Try.underlying22 hi0 hz0 hz1 hz2 rfl (by decide) _ _ _ rfl (hown.alloc _) ⟨wr.heap.size, 0, none⟩ 1 1 [.int .u64 0] rfl rfl (cell_one_new _ _ _) (by simp [Value.oneCell']) (by omega) (by omega) (by simp; omega) ?_; intro v' w7 hown' hgrow _; obtain ⟨g', cap', rfl⟩ := ownsRow_succ hown')
      have hgn := (hown.lt g1 rfl).1
      have hb7 : Below (w.heap.size + 4) wr w7 := ((Below.refl _ wr).alloc (by omega) _).grown hgrow (by simp; omega) (fun k e => by cases e; exact hgn)
      have c0' := (hb7.block w.heap.size (by omega)).trans c0
      have c3' := (hb7.block (w.heap.size + 3) (by omega)).trans c3
      rw [HN.out] at hown'
      clear hgrow hown c0 c3
      go_roundw
      case rel => exact ⟨i + 1, by omega, by omega, by go_num, hown', ⟨_, _, rfl⟩, c0', c3', hbr.trans (hb7.mono (by omega))⟩
      case measure => simp [intOf]; omega
    · have hiy' : y = (i : Int) := by omega
      have hyn : y.toNat = i := by omega
      have hrow := RowAt.of_row (ws := ws ++ x :: z :: List.replicate (i - 2) 0) (by have := hown; rw [show n + i = (ws ++ x :: z :: List.replicate (i - 2) 0).length by simp [hn]; omega] at this; exact this)
      obtain ⟨a2, cap2, g2, e2, hr2, hg2⟩ := hrow
      simp only [Value.slice.injEq] at e2
      obtain ⟨rfl, e3, rfl⟩ := e2
      have hgn := (hown.lt g1 rfl).1
      have HE : newObj k c f m s = x :: z :: List.replicate (i - 2) 0 := by unfold newObj; rw [HX.out, HZ.out, HY.out, hyn]
      have HEN := Lib.hid HE
      clear HE hown
      have E3 := Lib.hid e3
      clear e3
      have t0 : wr.cell? ⟨w.heap.size, 0, none⟩ = some (.int .i64 bs) := by rw [cell_of_block c0]; rfl
      have t1 : wr.cell? ⟨w.heap.size, 1, none⟩ = some (.int .i64 lm) := by rw [cell_of_block c0]; rfl
      have t2 : wr.cell? ⟨w.heap.size, 2, none⟩ = some (.slice A n cap) := by rw [cell_of_block c0]; rfl
      have t3 : ∀ i, wr.frozen? ⟨w.heap.size, i, none⟩ = false := frozen_of_block c0
      have u0 : wr.cell? ⟨w.heap.size + 3, 0, none⟩ = some (.int .i64 0) := by rw [cell_of_block c3]; rfl
      have u1 : wr.cell? ⟨w.heap.size + 3, 1, none⟩ = some (.int .i64 0) := by rw [cell_of_block c3]; rfl
      have u2 : wr.cell? ⟨w.heap.size + 3, 2, none⟩ = some (.slice none 0 0) := by rw [cell_of_block c3]; rfl
      have u3 : ∀ i, wr.frozen? ⟨w.heap.size + 3, i, none⟩ = false := frozen_of_block c3
      clear c0 c3 hr hr5
      have n1 : g1 ≠ w.heap.size + 1 + 1 + 1 := by omega
      have n2 : w.heap.size + 1 + 1 + 1 ≠ g1 := by omega
      have hrf := (((hr2.apart ⟨w.heap.size, 2, none⟩ (.slice (some ⟨g1, 0, none⟩) (n + i) cap1) (fun G e => by have := hg2 G e; show G ≠ w.heap.size; omega)).apart ⟨w.heap.size + 1 + 1 + 1, 0, none⟩ (.int .i64 bs) (fun G e => by have := hg2 G e; show G ≠ w.heap.size + 1 + 1 + 1; omega)).apart ⟨w.heap.size + 1 + 1 + 1, 1, none⟩ (.int .i64 lm) (fun G e => by have := hg2 G e; show G ≠ w.heap.size + 1 + 1 + 1; omega)).apart ⟨w.heap.size + 1 + 1 + 1, 2, none⟩ (.slice (some ⟨g1, 0, none⟩) (n + i) cap1) (fun G e => by have := hg2 G e; show G ≠ w.heap.size + 1 + 1 + 1; omega)
      clear hr2
      go_wp2
      refine bodyPost_ret (v := .tuple #[.agg #[.int .i64 bs, .int .i64 lm, .slice (some ⟨g1, 0, none⟩) (n + i) cap1], .int .i64 (bs + (n : Int)), .int .i64 0]) (by simp [results, Try.results57, go_sem, u0, u1, u2, n1, n2]) rfl ⟨_, g2, rfl, ⟨some ⟨g1, 0, none⟩, cap1, by rw [HEN.out]; simp [hn]; omega, by rw [HEN.out]; exact hrf⟩, fun G h => by have := hg2 G h; omega, ?_⟩
      exact (((hbr.setCell (p := ⟨w.heap.size, 2, none⟩) (Nat.le_refl _) _).setCell (p := ⟨w.heap.size + 1 + 1 + 1, 0, none⟩) (by show w.heap.size ≤ w.heap.size + 1 + 1 + 1; omega) _).setCell (p := ⟨w.heap.size + 1 + 1 + 1, 1, none⟩) (by show w.heap.size ≤ w.heap.size + 1 + 1 + 1; omega) _).setCell (p := ⟨w.heap.size + 1 + 1 + 1, 2, none⟩) (by show w.heap.size ≤ w.heap.size + 1 + 1 + 1; omega) _
end Go.Proofs.Ytgipmcmmicppkaa
namespace Go.Proofs.Ytgipmcmmicppkaa
open Go.RowKit
set_option linter.unusedSimpArgs false
set_option linter.unusedVariables false

theorem okT_iff {bs : Int} {ws : List Int} {x : Int} : okT bs ws x ↔ (x = bs + ws.length ∧ bs + (stopAt ws 0 : Nat) = x) ∨ x ∈ objA bs ws := by
  unfold okT seqL hitT objA
  constructor
  · rintro ⟨y, hy, h1, h2⟩
    rcases List.mem_append.1 hy with hy | hy
    · obtain ⟨j, hj, rfl⟩ := List.mem_map.1 hy
      exact .inr (List.mem_map.2 ⟨j, hj, h1⟩)
    · rw [List.mem_singleton] at hy
      subst hy
      rcases h2 with h2 | h2
      · cases h2
      · exact .inl ⟨h2, h1⟩
  · rintro (⟨h1, h2⟩ | h)
    · exact ⟨_, List.mem_append.2 (.inr (List.mem_singleton.2 rfl)), h2, .inr h1⟩
    · obtain ⟨j, hj, h1⟩ := List.mem_map.1 h
      exact ⟨(bs + (j : Int), true), List.mem_append.2 (.inl (List.mem_map.2 ⟨j, hj, rfl⟩)), h1, .inl rfl⟩
theorem okT_bd {bs : Int} {ws : List Int} {x : Int} (h : okT bs ws x) : bs ≤ x ∧ x ≤ bs + ws.length := by
  obtain ⟨y, hy, h1, _⟩ := h
  have := seqL_bd hy
  omega
theorem take_mem {zs : List Int} {x z : Int} {t : Nat} (h : zs[t]? = some z) : x ∈ zs.take (t + 1) ↔ x ∈ zs.take t ∨ z = x := by
  have hl := (List.getElem?_eq_some_iff.1 h).1
  rw [List.take_succ_eq_append_getElem hl, List.mem_append, List.mem_singleton]
  have : zs[t] = z := by
    have := List.getElem?_eq_getElem hl
    rw [this] at h
    exact Option.some.inj h
  rw [this]
  constructor
  · rintro (h | h)
    · exact .inl h
    · exact .inr h.symm
  · rintro (h | h)
    · exact .inl h
    · exact .inr h.symm
set_option maxRecDepth 100000 in
set_option maxHeartbeats 2000000 in
theorem rtrunc_no {w : World} {v : Value} {bs lm : Int} {ws : List Int} {g : Option Nat} (h : MdAt w v bs lm ws g) (hk : SpOk bs lm ws) (x0 : Int) (hok : ¬ okT bs ws x0) :
    Calls Try.prog 60 #[v, .int .i64 x0] w fun e w' => e = .returned (.tuple #[v, .int .i64 2]) ∧ Below w.heap.size w w' := by
  have hW := fun (W : World) (H : MdAt W v bs lm ws g) => rwalk_any H hk
  have hT := fun (W : World) (H : MdAt W v bs lm ws g) => rtop_any H hk
  obtain ⟨x, hx⟩ : ∃ x, x = x0 := ⟨_, rfl⟩
  rw [← hx] at hok ⊢
  rw [okT_iff] at hok
  have HX := Lib.hid hx
  clear hx
  obtain ⟨i0', hi0, hz0, hz1, hz2⟩ := info_parts u64_info'
  have hml : maxLen = 9223372036854775807 := rfl
  have b0 := hk.b0
  have b1 := hk.top
  have b2 := hk.lm1
  have hzl := objs_len (ws := ws) ws.length 0 (by omega) (by omega)
  have hxl : (objA bs ws).length = (objs ws 0).length := by unfold objA; simp
  obtain ⟨A, cap, rfl, hr⟩ := h
  have h1 : ∀ o o', MdAt ((w.alloc o).alloc o') (.agg #[.int .i64 bs, .int .i64 lm, .slice A ws.length cap]) bs lm ws g := fun o o' => MdAt.below ⟨A, cap, rfl, hr⟩ (balloc (balloc (Below.refl _ _) _) _)
  have hcap := hr.1
  obtain ⟨n, hn⟩ : ∃ n, ws.length = n := ⟨_, rfl⟩
  obtain ⟨zs, hzs⟩ : ∃ zs, objA bs ws = zs := ⟨_, rfl⟩
  obtain ⟨st, hst⟩ : ∃ st : Int, bs + ((stopAt ws 0 : Nat) : Int) = st := ⟨_, rfl⟩
  simp only [hn, hzs, hst] at hW hT h1 hok b1 hzl hxl hcap ⊢
  have HN := Lib.hid hn
  have HOK := Lib.hid hok
  clear hst hzs hn hok
  go_enter Try.func60, Try.ntmps60
  go_wp2_with fail
  refine (hW _ (h1 _ _)).mono ?_
  rintro e w1 ⟨v', rfl, hrow, hb1⟩
  have iv := IntsV.of_row hrow
  have e0 : w1.heap[w.heap.size]? = some (.cells #[.int .i64 bs, .int .i64 lm, .slice A n cap] 33 (0, 0)) := bblock hb1 (by repeat (first | exact alloc_at _ (by simp) | refine alloc_lt _ ?_))
  have e1 : w1.heap[w.heap.size + 1]? = some (.cells #[.int .i64 0, .int .i64 0, .slice none 0 0] 33 (0, 0)) := bblock hb1 (by repeat (first | exact alloc_at _ (by simp) | refine alloc_lt _ ?_))
  have m1 := (h1 _ _).below hb1
  have hbw1 : Below w.heap.size w w1 := by (repeat (first | exact Below.refl _ _ | assumption | refine Below.drew ?_ | refine below_drewN ?_ _ | refine balloc ?_ _ | refine Below.setCell ?_ (by first | (simp; done) | (simp; omega) | omega) _ | refine bchain (by assumption) ?_))
  clear hrow hb1 h1 hW
  have q0 : w1.cell? ⟨w.heap.size, 0, none⟩ = some (.int .i64 bs) := by rw [cell_of_block e0]; rfl
  have q1 : w1.cell? ⟨w.heap.size, 1, none⟩ = some (.int .i64 lm) := by rw [cell_of_block e0]; rfl
  have q2 : w1.cell? ⟨w.heap.size, 2, none⟩ = some (.slice A n cap) := by rw [cell_of_block e0]; rfl
  go_wp2_with fail
  refine (hT _ m1).mono ?_
  rintro e w2 ⟨rfl, hb2⟩
  have e0 := bblock hb2 e0
  have e1 := bblock hb2 e1
  have iv := iv.below hb2
  have hbw2 : Below w.heap.size w w2 := by (repeat (first | exact Below.refl _ _ | assumption | refine Below.drew ?_ | refine below_drewN ?_ _ | refine balloc ?_ _ | refine Below.setCell ?_ (by first | (simp; done) | (simp; omega) | omega) _ | refine bchain (by assumption) ?_))
  clear m1 hT q0 q1 q2 hb2 hbw1
  obtain ⟨a2, c2, rfl, n2, m2, r2⟩ := iv
  obtain ⟨m, hm⟩ : ∃ m, zs.length = m := ⟨_, rfl⟩
  rw [hm] at n2 hxl ⊢
  have HM := Lib.hid hm
  clear hm
  by_cases cx : x = bs + (n : Int)
  · have cb : (x == bs + (n : Int)) = true := by rw [beq_iff_eq]; exact cx
    have hin : ∀ b : Bool, b = (st == x) → (b = true ↔ ((x = bs + (n : Int) ∧ st = x) ∨ x ∈ zs.take 0)) := by rintro b rfl; simp [cx]
    have HIN := Lib.hid hin
    clear cx hin
    go_wp2_with fail
    go_loopw [8, 9] (fun p q wr => ∃ (t : Nat) (b : Bool), q = .int .i64 t ∧ t ≤ m ∧ p = .bool b ∧ (b = true ↔ ((x = bs + (n : Int) ∧ st = x) ∨ x ∈ zs.take t)) ∧ wr.heap[w.heap.size]? = some (.cells #[.int .i64 bs, .int .i64 lm, .slice A n cap] 33 (0, 0)) ∧ wr.heap[w.heap.size + 1]? = some (.cells #[.int .i64 0, .int .i64 0, .slice none 0 0] 33 (0, 0)) ∧ Below w.heap.size w wr ∧ Below w2.heap.size w2 wr) (fun p q wr => m - natOf q)
    case atStart => exact ⟨0, _, rfl, Nat.zero_le _, rfl, HIN.out _ rfl, e0, e1, hbw2, Below.refl _ _⟩
    case round =>
      obtain ⟨t, b, rfl, ht, rfl, hb, e0, e1, hbw, hbr⟩ := hrel
      clear HIN cb
      by_cases hlt : t < m
      · rcases r2 with r2 | ⟨b2, o2, rfl, r2⟩
        · have h0 := HM.out; rw [r2] at h0; simp at h0; omega
        obtain ⟨z, hz⟩ : ∃ z, zs[t]? = some z := ⟨_, List.getElem?_eq_getElem (by rw [HM.out]; omega)⟩
        have qz : wr.cell? ⟨b2, o2 + t, none⟩ = some (.int .i64 z) := bcellv hbr (r2 t z hz)
        have htm := take_mem (x := x) hz
        have s1 : ((t : Int)).toNat = t := by omega
        clear r2 hz
        cases b with
        | true =>
          have HB := Lib.hid (show (true = true ↔ ((x = bs + (n : Int) ∧ st = x) ∨ x ∈ zs.take (t + 1))) by rw [htm]; have := hb.1 rfl; exact ⟨fun _ => by rcases this with h | h; exact .inl h; exact .inr (.inl h), fun _ => rfl⟩)
          clear hb htm
          go_wp2
          go_roundw
          case rel => exact ⟨t + 1, true, by go_num, by omega, rfl, HB.out, e0, e1, hbw, hbr⟩
          case measure => simp [natOf]; omega
        | false =>
          have HB := Lib.hid (show ∀ c : Bool, c = (z == x) → (c = true ↔ ((x = bs + (n : Int) ∧ st = x) ∨ x ∈ zs.take (t + 1))) by
            rintro c rfl
            rw [htm, beq_iff_eq]
            have : ¬ ((x = bs + (n : Int) ∧ st = x) ∨ x ∈ zs.take t) := fun h => by have := hb.2 h; cases this
            constructor
            · exact fun h => .inr (.inr h)
            · rintro (h | h | h)
              · exact absurd (.inl h) this
              · exact absurd (.inr h) this
              · exact h)
          clear hb htm
          go_wp2
          go_roundw
          case rel => exact ⟨t + 1, _, by go_num, by omega, rfl, HB.out _ rfl, e0, e1, hbw, hbr⟩
          case measure => simp [natOf]; omega
      · have htl : zs.take t = zs := List.take_of_length_le (by rw [HM.out]; omega)
        rw [htl] at hb
        clear htl r2 n2
        cases b with
        | true => exact absurd (hb.1 rfl) HOK.out
        | false =>
          clear hb
          have q0 : wr.cell? ⟨w.heap.size, 0, none⟩ = some (.int .i64 bs) := by rw [cell_of_block e0]; rfl
          have q1 : wr.cell? ⟨w.heap.size, 1, none⟩ = some (.int .i64 lm) := by rw [cell_of_block e0]; rfl
          have q2 : wr.cell? ⟨w.heap.size, 2, none⟩ = some (.slice A n cap) := by rw [cell_of_block e0]; rfl
          have u0 : wr.cell? ⟨w.heap.size + 1, 0, none⟩ = some (.int .i64 0) := by rw [cell_of_block e1]; rfl
          have u1 : wr.cell? ⟨w.heap.size + 1, 1, none⟩ = some (.int .i64 0) := by rw [cell_of_block e1]; rfl
          have u2 : wr.cell? ⟨w.heap.size + 1, 2, none⟩ = some (.slice none 0 0) := by rw [cell_of_block e1]; rfl
          have u3 : ∀ i, wr.frozen? ⟨w.heap.size + 1, i, none⟩ = false := frozen_of_block e1
          clear e0 e1
          go_wp2
          exact bodyPost_ret (v := .tuple #[.agg #[.int .i64 bs, .int .i64 lm, .slice A n cap], .int .i64 2]) (by simp [results, Try.results60, go_sem, u0, u1, u2]) rfl ⟨rfl, by (repeat (first | exact Below.refl _ _ | assumption | refine Below.drew ?_ | refine below_drewN ?_ _ | refine balloc ?_ _ | refine Below.setCell ?_ (by first | (simp; done) | (simp; omega) | omega) _ | refine bchain (by assumption) ?_))⟩
  · have cb : (x == bs + (n : Int)) = false := by rw [beq_eq_false_iff_ne]; exact cx
    have hin : (false = true ↔ ((x = bs + (n : Int) ∧ st = x) ∨ x ∈ zs.take 0)) := by simp [cx]
    have HIN := Lib.hid hin
    clear cx hin
    go_wp2_with fail
    go_loopw [8, 9] (fun p q wr => ∃ (t : Nat) (b : Bool), q = .int .i64 t ∧ t ≤ m ∧ p = .bool b ∧ (b = true ↔ ((x = bs + (n : Int) ∧ st = x) ∨ x ∈ zs.take t)) ∧ wr.heap[w.heap.size]? = some (.cells #[.int .i64 bs, .int .i64 lm, .slice A n cap] 33 (0, 0)) ∧ wr.heap[w.heap.size + 1]? = some (.cells #[.int .i64 0, .int .i64 0, .slice none 0 0] 33 (0, 0)) ∧ Below w.heap.size w wr ∧ Below w2.heap.size w2 wr) (fun p q wr => m - natOf q)
    case atStart => exact ⟨0, _, rfl, Nat.zero_le _, rfl, HIN.out, e0, e1, hbw2, Below.refl _ _⟩
    case round =>
      obtain ⟨t, b, rfl, ht, rfl, hb, e0, e1, hbw, hbr⟩ := hrel
      clear HIN cb
      by_cases hlt : t < m
      · rcases r2 with r2 | ⟨b2, o2, rfl, r2⟩
        · have h0 := HM.out; rw [r2] at h0; simp at h0; omega
        obtain ⟨z, hz⟩ : ∃ z, zs[t]? = some z := ⟨_, List.getElem?_eq_getElem (by rw [HM.out]; omega)⟩
        have qz : wr.cell? ⟨b2, o2 + t, none⟩ = some (.int .i64 z) := bcellv hbr (r2 t z hz)
        have htm := take_mem (x := x) hz
        have s1 : ((t : Int)).toNat = t := by omega
        clear r2 hz
        cases b with
        | true =>
          have HB := Lib.hid (show (true = true ↔ ((x = bs + (n : Int) ∧ st = x) ∨ x ∈ zs.take (t + 1))) by rw [htm]; have := hb.1 rfl; exact ⟨fun _ => by rcases this with h | h; exact .inl h; exact .inr (.inl h), fun _ => rfl⟩)
          clear hb htm
          go_wp2
          go_roundw
          case rel => exact ⟨t + 1, true, by go_num, by omega, rfl, HB.out, e0, e1, hbw, hbr⟩
          case measure => simp [natOf]; omega
        | false =>
          have HB := Lib.hid (show ∀ c : Bool, c = (z == x) → (c = true ↔ ((x = bs + (n : Int) ∧ st = x) ∨ x ∈ zs.take (t + 1))) by
            rintro c rfl
            rw [htm, beq_iff_eq]
            have : ¬ ((x = bs + (n : Int) ∧ st = x) ∨ x ∈ zs.take t) := fun h => by have := hb.2 h; cases this
            constructor
            · exact fun h => .inr (.inr h)
            · rintro (h | h | h)
              · exact absurd (.inl h) this
              · exact absurd (.inr h) this
              · exact h)
          clear hb htm
          go_wp2
          go_roundw
          case rel => exact ⟨t + 1, _, by go_num, by omega, rfl, HB.out _ rfl, e0, e1, hbw, hbr⟩
          case measure => simp [natOf]; omega
      · have htl : zs.take t = zs := List.take_of_length_le (by rw [HM.out]; omega)
        rw [htl] at hb
        clear htl r2 n2
        cases b with
        | true => exact absurd (hb.1 rfl) HOK.out
        | false =>
          clear hb
          have q0 : wr.cell? ⟨w.heap.size, 0, none⟩ = some (.int .i64 bs) := by rw [cell_of_block e0]; rfl
          have q1 : wr.cell? ⟨w.heap.size, 1, none⟩ = some (.int .i64 lm) := by rw [cell_of_block e0]; rfl
          have q2 : wr.cell? ⟨w.heap.size, 2, none⟩ = some (.slice A n cap) := by rw [cell_of_block e0]; rfl
          have u0 : wr.cell? ⟨w.heap.size + 1, 0, none⟩ = some (.int .i64 0) := by rw [cell_of_block e1]; rfl
          have u1 : wr.cell? ⟨w.heap.size + 1, 1, none⟩ = some (.int .i64 0) := by rw [cell_of_block e1]; rfl
          have u2 : wr.cell? ⟨w.heap.size + 1, 2, none⟩ = some (.slice none 0 0) := by rw [cell_of_block e1]; rfl
          have u3 : ∀ i, wr.frozen? ⟨w.heap.size + 1, i, none⟩ = false := frozen_of_block e1
          clear e0 e1
          go_wp2
          exact bodyPost_ret (v := .tuple #[.agg #[.int .i64 bs, .int .i64 lm, .slice A n cap], .int .i64 2]) (by simp [results, Try.results60, go_sem, u0, u1, u2]) rfl ⟨rfl, by (repeat (first | exact Below.refl _ _ | assumption | refine Below.drew ?_ | refine below_drewN ?_ _ | refine balloc ?_ _ | refine Below.setCell ?_ (by first | (simp; done) | (simp; omega) | omega) _ | refine bchain (by assumption) ?_))⟩
set_option maxRecDepth 100000 in
set_option maxHeartbeats 2000000 in
theorem rtrunc_ok {w : World} {v : Value} {bs lm : Int} {ws : List Int} {g : Option Nat} (h : MdAt w v bs lm ws g) (hk : SpOk bs lm ws) (t0 : Nat) (ht0 : t0 ≤ ws.length) (hok : okT bs ws (bs + (t0 : Int))) :
    Calls Try.prog 60 #[v, .int .i64 (bs + (t0 : Int))] w fun e w' => MadeAt w (fun v' => .tuple #[v', .int .i64 0]) bs lm (ws.take t0) e w' := by
  have hW := fun (W : World) (H : MdAt W v bs lm ws g) => rwalk_any H hk
  have hT := fun (W : World) (H : MdAt W v bs lm ws g) => rtop_any H hk
  obtain ⟨x, hx⟩ : ∃ x, x = (bs + (t0 : Int)) := ⟨_, rfl⟩
  rw [← hx] at hok ⊢
  rw [okT_iff] at hok
  have HX := Lib.hid hx
  clear hx
  obtain ⟨i0', hi0, hz0, hz1, hz2⟩ := info_parts u64_info'
  have hml : maxLen = 9223372036854775807 := rfl
  have b0 := hk.b0
  have b1 := hk.top
  have b2 := hk.lm1
  have hzl := objs_len (ws := ws) ws.length 0 (by omega) (by omega)
  have hxl : (objA bs ws).length = (objs ws 0).length := by unfold objA; simp
  obtain ⟨A, cap, rfl, hr⟩ := h
  have h1 : ∀ o o', MdAt ((w.alloc o).alloc o') (.agg #[.int .i64 bs, .int .i64 lm, .slice A ws.length cap]) bs lm ws g := fun o o' => MdAt.below ⟨A, cap, rfl, hr⟩ (balloc (balloc (Below.refl _ _) _) _)
  have hcap := hr.1
  obtain ⟨n, hn⟩ : ∃ n, ws.length = n := ⟨_, rfl⟩
  obtain ⟨zs, hzs⟩ : ∃ zs, objA bs ws = zs := ⟨_, rfl⟩
  obtain ⟨st, hst⟩ : ∃ st : Int, bs + ((stopAt ws 0 : Nat) : Int) = st := ⟨_, rfl⟩
  simp only [hn, hzs, hst] at ht0 hW hT h1 hok b1 hzl hxl hcap ⊢
  have HN := Lib.hid hn
  have HOK := Lib.hid hok
  clear hst hzs hn hok
  go_enter Try.func60, Try.ntmps60
  go_wp2_with fail
  refine (hW _ (h1 _ _)).mono ?_
  rintro e w1 ⟨v', rfl, hrow, hb1⟩
  have iv := IntsV.of_row hrow
  have e0 : w1.heap[w.heap.size]? = some (.cells #[.int .i64 bs, .int .i64 lm, .slice A n cap] 33 (0, 0)) := bblock hb1 (by repeat (first | exact alloc_at _ (by simp) | refine alloc_lt _ ?_))
  have e1 : w1.heap[w.heap.size + 1]? = some (.cells #[.int .i64 0, .int .i64 0, .slice none 0 0] 33 (0, 0)) := bblock hb1 (by repeat (first | exact alloc_at _ (by simp) | refine alloc_lt _ ?_))
  have m1 := (h1 _ _).below hb1
  have hbw1 : Below w.heap.size w w1 := by (repeat (first | exact Below.refl _ _ | assumption | refine Below.drew ?_ | refine below_drewN ?_ _ | refine balloc ?_ _ | refine Below.setCell ?_ (by first | (simp; done) | (simp; omega) | omega) _ | refine bchain (by assumption) ?_))
  clear hrow hb1 h1 hW
  have q0 : w1.cell? ⟨w.heap.size, 0, none⟩ = some (.int .i64 bs) := by rw [cell_of_block e0]; rfl
  have q1 : w1.cell? ⟨w.heap.size, 1, none⟩ = some (.int .i64 lm) := by rw [cell_of_block e0]; rfl
  have q2 : w1.cell? ⟨w.heap.size, 2, none⟩ = some (.slice A n cap) := by rw [cell_of_block e0]; rfl
  go_wp2_with fail
  refine (hT _ m1).mono ?_
  rintro e w2 ⟨rfl, hb2⟩
  have e0 := bblock hb2 e0
  have e1 := bblock hb2 e1
  have iv := iv.below hb2
  have hbw2 : Below w.heap.size w w2 := by (repeat (first | exact Below.refl _ _ | assumption | refine Below.drew ?_ | refine below_drewN ?_ _ | refine balloc ?_ _ | refine Below.setCell ?_ (by first | (simp; done) | (simp; omega) | omega) _ | refine bchain (by assumption) ?_))
  clear m1 hT q0 q1 q2 hb2 hbw1
  obtain ⟨a2, c2, rfl, n2, m2, r2⟩ := iv
  obtain ⟨m, hm⟩ : ∃ m, zs.length = m := ⟨_, rfl⟩
  rw [hm] at n2 hxl ⊢
  have HM := Lib.hid hm
  clear hm
  by_cases cx : x = bs + (n : Int)
  · have cb : (x == bs + (n : Int)) = true := by rw [beq_iff_eq]; exact cx
    have hin : ∀ b : Bool, b = (st == x) → (b = true ↔ ((x = bs + (n : Int) ∧ st = x) ∨ x ∈ zs.take 0)) := by rintro b rfl; simp [cx]
    have HIN := Lib.hid hin
    clear cx hin
    go_wp2_with fail
    go_loopw [8, 9] (fun p q wr => ∃ (t : Nat) (b : Bool), q = .int .i64 t ∧ t ≤ m ∧ p = .bool b ∧ (b = true ↔ ((x = bs + (n : Int) ∧ st = x) ∨ x ∈ zs.take t)) ∧ wr.heap[w.heap.size]? = some (.cells #[.int .i64 bs, .int .i64 lm, .slice A n cap] 33 (0, 0)) ∧ wr.heap[w.heap.size + 1]? = some (.cells #[.int .i64 0, .int .i64 0, .slice none 0 0] 33 (0, 0)) ∧ Below w.heap.size w wr ∧ Below w2.heap.size w2 wr) (fun p q wr => m - natOf q)
    case atStart => exact ⟨0, _, rfl, Nat.zero_le _, rfl, HIN.out _ rfl, e0, e1, hbw2, Below.refl _ _⟩
    case round =>
      obtain ⟨t, b, rfl, ht, rfl, hb, e0, e1, hbw, hbr⟩ := hrel
      clear HIN cb
      by_cases hlt : t < m
      · rcases r2 with r2 | ⟨b2, o2, rfl, r2⟩
        · have h0 := HM.out; rw [r2] at h0; simp at h0; omega
        obtain ⟨z, hz⟩ : ∃ z, zs[t]? = some z := ⟨_, List.getElem?_eq_getElem (by rw [HM.out]; omega)⟩
        have qz : wr.cell? ⟨b2, o2 + t, none⟩ = some (.int .i64 z) := bcellv hbr (r2 t z hz)
        have htm := take_mem (x := x) hz
        have s1 : ((t : Int)).toNat = t := by omega
        clear r2 hz
        cases b with
        | true =>
          have HB := Lib.hid (show (true = true ↔ ((x = bs + (n : Int) ∧ st = x) ∨ x ∈ zs.take (t + 1))) by rw [htm]; have := hb.1 rfl; exact ⟨fun _ => by rcases this with h | h; exact .inl h; exact .inr (.inl h), fun _ => rfl⟩)
          clear hb htm
          go_wp2
          go_roundw
          case rel => exact ⟨t + 1, true, by go_num, by omega, rfl, HB.out, e0, e1, hbw, hbr⟩
          case measure => simp [natOf]; omega
        | false =>
          have HB := Lib.hid (show ∀ c : Bool, c = (z == x) → (c = true ↔ ((x = bs + (n : Int) ∧ st = x) ∨ x ∈ zs.take (t + 1))) by
            rintro c rfl
            rw [htm, beq_iff_eq]
            have : ¬ ((x = bs + (n : Int) ∧ st = x) ∨ x ∈ zs.take t) := fun h => by have := hb.2 h; cases this
            constructor
            · exact fun h => .inr (.inr h)
            · rintro (h | h | h)
              · exact absurd (.inl h) this
              · exact absurd (.inr h) this
              · exact h)
          clear hb htm
          go_wp2
          go_roundw
          case rel => exact ⟨t + 1, _, by go_num, by omega, rfl, HB.out _ rfl, e0, e1, hbw, hbr⟩
          case measure => simp [natOf]; omega
      · have htl : zs.take t = zs := List.take_of_length_le (by rw [HM.out]; omega)
        rw [htl] at hb
        clear htl r2 n2
        cases b with
        | false => exact absurd (hb.2 HOK.out) (by simp)
        | true =>
          clear hb
          obtain rfl : x = bs + (t0 : Int) := HX.out
          have q0 : wr.cell? ⟨w.heap.size, 0, none⟩ = some (.int .i64 bs) := by rw [cell_of_block e0]; rfl
          have q1 : wr.cell? ⟨w.heap.size, 1, none⟩ = some (.int .i64 lm) := by rw [cell_of_block e0]; rfl
          have q2 : wr.cell? ⟨w.heap.size, 2, none⟩ = some (.slice A n cap) := by rw [cell_of_block e0]; rfl
          have q2' := bcellv (balloc (Below.refl _ wr) (.cells #[] 43)) q2
          have q0' := bcellv (balloc (Below.refl _ wr) (.cells #[] 43)) q0
          have hr1 : RowAt wr A cap ws g := hr.keep (fun G o e ho => (hbw.block G (Array.getElem?_eq_some_iff.1 ho).1).trans ho)
          have hnews : NewsAt (wr.alloc (.cells #[] 43)) A t0 cap ((ws.take t0).map (Value.int .u64)) := (hr1.news (t := t0) (by rw [HN.out]; omega)).below (balloc (Below.refl _ wr) _)
          have hown0 := World.ownsRow_made wr (base := wr.heap.size) (e := 43) (size := 1) #[] 0 (Nat.le_refl _) (Nat.zero_le _) rfl
          have hlen : ((ws.take t0).map (Value.int .u64)).length = t0 := by rw [List.length_map, List.length_take, HN.out]; omega
          have hlen2 : (ws.take t0).length = t0 := by rw [List.length_take, HN.out]; omega
          have s1 : IntKind.i64.wrap (bs + (t0 : Int) - bs) = (t0 : Int) := by rw [show bs + (t0 : Int) - bs = (t0 : Int) by omega]; exact IntWalk.i64_in _ (by omega)
          have s2 : (bs + (t0 : Int) - bs).toNat = t0 := by omega
          have s3 : (0 : Int) ≤ bs + (t0 : Int) - bs := by omega
          have s4 : bs + (t0 : Int) - bs ≤ (cap : Int) := by omega
          have hadd : cap ≠ 0 → A.map (fun x : Addr => x.add (0 * 1)) = A := by
            intro hc
            obtain ⟨_, _, e3⟩ := hr1
            rcases e3 with ⟨_, e3⟩ | ⟨G, _, _, e3, _⟩
            · exact absurd e3 hc
            · rw [e3]; rfl
          have hsl : ∀ wx, (Instr.slice 22 (.slice A n cap) none (some (.int .i64 (t0 : Int))) none).run Try.prog wx = .ok (.slice A t0 cap) wx := by
            intro wx
            rw [run_slice_h (t := 22) (a := A) (len := n) (cap := cap) (ht := Try.underlying22) (kh := .i64) (h := (t0 : Int)) (h0 := by omega) (h2 := by omega)]
            have hso : (sizeOf (Try.prog.elem 22)).run Try.prog wx = .ok 1 wx := by kernel_rfl
            rw [hso]
            show Result.ok (sliced A 0 t0 cap 1) wx = _
            unfold sliced
            by_cases hc : cap = 0
            · simp [hc]
            · rw [if_neg (by omega), hadd hc]; simp
          clear hadd
          have hzw : w.heap.size + 2 ≤ wr.heap.size := by have := (Array.getElem?_eq_some_iff.1 e1).1; omega
          have HL := Lib.hid hlen
          have HL2 := Lib.hid hlen2
          clear hlen hlen2 hr1 m2
          go_wp2_with (at_builtin; refine wpList_append_fresh rfl _ _ 22 rfl wr.heap.size 43 i0' (.int .u64 0) 1 8 Try.underlying22 hi0 hz0 hz1 hz2 rfl (by decide) wr.heap.size rfl hown0 A t0 cap ((ws.take t0).map (Value.int .u64)) rfl (by rw [HL.out, Nat.mul_one]) hnews (u64_one _) (by omega) (by omega) (by simp) ?_; intro gv cv w3 hown1 hgrow1; have hb3 : Below wr.heap.size wr w3 := ((Below.refl _ wr).alloc (Nat.le_refl _) _).grown hgrow1 (by simp) (fun k e => by cases e; exact Nat.le_refl _); have e0 := bblock hb3 e0; have e1 := bblock hb3 e1; have hg := (hown1.lt gv rfl).1; have hbw3 : Below w.heap.size w w3 := (by (repeat (first | exact Below.refl _ _ | assumption | refine Below.drew ?_ | refine below_drewN ?_ _ | refine balloc ?_ _ | refine Below.setCell ?_ (by first | (simp; done) | (simp; omega) | omega) _ | refine bchain (by assumption) ?_))); have hrow := RowAt.of_row (ws := ws.take t0) (by rw [HL2.out]; exact hown1); obtain ⟨a2, cap2, g2, e2, hr2, hg2⟩ := hrow; simp only [Value.slice.injEq] at e2; obtain ⟨rfl, -, rfl⟩ := e2; have q0 : w3.cell? ⟨w.heap.size, 0, none⟩ = some (.int .i64 bs) := (by rw [cell_of_block e0]; rfl); have q1 : w3.cell? ⟨w.heap.size, 1, none⟩ = some (.int .i64 lm) := (by rw [cell_of_block e0]; rfl); have q2 : w3.cell? ⟨w.heap.size, 2, none⟩ = some (.slice A n cap) := (by rw [cell_of_block e0]; rfl); have q3 : ∀ i, w3.frozen? ⟨w.heap.size, i, none⟩ = false := frozen_of_block e0; have u0 : w3.cell? ⟨w.heap.size + 1, 0, none⟩ = some (.int .i64 0) := (by rw [cell_of_block e1]; rfl); have u1 : w3.cell? ⟨w.heap.size + 1, 1, none⟩ = some (.int .i64 0) := (by rw [cell_of_block e1]; rfl); have u2 : w3.cell? ⟨w.heap.size + 1, 2, none⟩ = some (.slice none 0 0) := (by rw [cell_of_block e1]; rfl); have u3 : ∀ i, w3.frozen? ⟨w.heap.size + 1, i, none⟩ = false := frozen_of_block e1; clear hgrow1 e0 e1 hb3)
          have hrf := (((hr2.apart ⟨w.heap.size, 2, none⟩ (.slice (some ⟨gv, 0, none⟩) t0 cv) (fun G e => by have := hg2 G e; show G ≠ w.heap.size; omega)).apart ⟨w.heap.size + 1, 0, none⟩ (.int .i64 bs) (fun G e => by have := hg2 G e; show G ≠ w.heap.size + 1; omega)).apart ⟨w.heap.size + 1, 1, none⟩ (.int .i64 lm) (fun G e => by have := hg2 G e; show G ≠ w.heap.size + 1; omega)).apart ⟨w.heap.size + 1, 2, none⟩ (.slice (some ⟨gv, 0, none⟩) t0 cv) (fun G e => by have := hg2 G e; show G ≠ w.heap.size + 1; omega)
          refine bodyPost_ret (v := .tuple #[.agg #[.int .i64 bs, .int .i64 lm, .slice (some ⟨gv, 0, none⟩) t0 cv], .int .i64 0]) (by simp [results, Try.results60, go_sem, u0, u1, u2]) rfl ⟨_, g2, rfl, ⟨some ⟨gv, 0, none⟩, cv, by rw [HL2.out], hrf⟩, fun G h => by have := hg2 G h; omega, ?_⟩
          exact (((hbw3.setCell (p := ⟨w.heap.size, 2, none⟩) (Nat.le_refl _) _).setCell (p := ⟨w.heap.size + 1, 0, none⟩) (by show w.heap.size ≤ w.heap.size + 1; omega) _).setCell (p := ⟨w.heap.size + 1, 1, none⟩) (by show w.heap.size ≤ w.heap.size + 1; omega) _).setCell (p := ⟨w.heap.size + 1, 2, none⟩) (by show w.heap.size ≤ w.heap.size + 1; omega) _
  · have cb : (x == bs + (n : Int)) = false := by rw [beq_eq_false_iff_ne]; exact cx
    have hin : (false = true ↔ ((x = bs + (n : Int) ∧ st = x) ∨ x ∈ zs.take 0)) := by simp [cx]
    have HIN := Lib.hid hin
    clear cx hin
    go_wp2_with fail
    go_loopw [8, 9] (fun p q wr => ∃ (t : Nat) (b : Bool), q = .int .i64 t ∧ t ≤ m ∧ p = .bool b ∧ (b = true ↔ ((x = bs + (n : Int) ∧ st = x) ∨ x ∈ zs.take t)) ∧ wr.heap[w.heap.size]? = some (.cells #[.int .i64 bs, .int .i64 lm, .slice A n cap] 33 (0, 0)) ∧ wr.heap[w.heap.size + 1]? = some (.cells #[.int .i64 0, .int .i64 0, .slice none 0 0] 33 (0, 0)) ∧ Below w.heap.size w wr ∧ Below w2.heap.size w2 wr) (fun p q wr => m - natOf q)
    case atStart => exact ⟨0, _, rfl, Nat.zero_le _, rfl, HIN.out, e0, e1, hbw2, Below.refl _ _⟩
    case round =>
      obtain ⟨t, b, rfl, ht, rfl, hb, e0, e1, hbw, hbr⟩ := hrel
      clear HIN cb
      by_cases hlt : t < m
      · rcases r2 with r2 | ⟨b2, o2, rfl, r2⟩
        · have h0 := HM.out; rw [r2] at h0; simp at h0; omega
        obtain ⟨z, hz⟩ : ∃ z, zs[t]? = some z := ⟨_, List.getElem?_eq_getElem (by rw [HM.out]; omega)⟩
        have qz : wr.cell? ⟨b2, o2 + t, none⟩ = some (.int .i64 z) := bcellv hbr (r2 t z hz)
        have htm := take_mem (x := x) hz
        have s1 : ((t : Int)).toNat = t := by omega
        clear r2 hz
        cases b with
        | true =>
          have HB := Lib.hid (show (true = true ↔ ((x = bs + (n : Int) ∧ st = x) ∨ x ∈ zs.take (t + 1))) by rw [htm]; have := hb.1 rfl; exact ⟨fun _ => by rcases this with h | h; exact .inl h; exact .inr (.inl h), fun _ => rfl⟩)
          clear hb htm
          go_wp2
          go_roundw
          case rel => exact ⟨t + 1, true, by go_num, by omega, rfl, HB.out, e0, e1, hbw, hbr⟩
          case measure => simp [natOf]; omega
        | false =>
          have HB := Lib.hid (show ∀ c : Bool, c = (z == x) → (c = true ↔ ((x = bs + (n : Int) ∧ st = x) ∨ x ∈ zs.take (t + 1))) by
            rintro c rfl
            rw [htm, beq_iff_eq]
            have : ¬ ((x = bs + (n : Int) ∧ st = x) ∨ x ∈ zs.take t) := fun h => by have := hb.2 h; cases this
            constructor
            · exact fun h => .inr (.inr h)
            · rintro (h | h | h)
              · exact absurd (.inl h) this
              · exact absurd (.inr h) this
              · exact h)
          clear hb htm
          go_wp2
          go_roundw
          case rel => exact ⟨t + 1, _, by go_num, by omega, rfl, HB.out _ rfl, e0, e1, hbw, hbr⟩
          case measure => simp [natOf]; omega
      · have htl : zs.take t = zs := List.take_of_length_le (by rw [HM.out]; omega)
        rw [htl] at hb
        clear htl r2 n2
        cases b with
        | false => exact absurd (hb.2 HOK.out) (by simp)
        | true =>
          clear hb
          obtain rfl : x = bs + (t0 : Int) := HX.out
          have q0 : wr.cell? ⟨w.heap.size, 0, none⟩ = some (.int .i64 bs) := by rw [cell_of_block e0]; rfl
          have q1 : wr.cell? ⟨w.heap.size, 1, none⟩ = some (.int .i64 lm) := by rw [cell_of_block e0]; rfl
          have q2 : wr.cell? ⟨w.heap.size, 2, none⟩ = some (.slice A n cap) := by rw [cell_of_block e0]; rfl
          have q2' := bcellv (balloc (Below.refl _ wr) (.cells #[] 43)) q2
          have q0' := bcellv (balloc (Below.refl _ wr) (.cells #[] 43)) q0
          have hr1 : RowAt wr A cap ws g := hr.keep (fun G o e ho => (hbw.block G (Array.getElem?_eq_some_iff.1 ho).1).trans ho)
          have hnews : NewsAt (wr.alloc (.cells #[] 43)) A t0 cap ((ws.take t0).map (Value.int .u64)) := (hr1.news (t := t0) (by rw [HN.out]; omega)).below (balloc (Below.refl _ wr) _)
          have hown0 := World.ownsRow_made wr (base := wr.heap.size) (e := 43) (size := 1) #[] 0 (Nat.le_refl _) (Nat.zero_le _) rfl
          have hlen : ((ws.take t0).map (Value.int .u64)).length = t0 := by rw [List.length_map, List.length_take, HN.out]; omega
          have hlen2 : (ws.take t0).length = t0 := by rw [List.length_take, HN.out]; omega
          have s1 : IntKind.i64.wrap (bs + (t0 : Int) - bs) = (t0 : Int) := by rw [show bs + (t0 : Int) - bs = (t0 : Int) by omega]; exact IntWalk.i64_in _ (by omega)
          have s2 : (bs + (t0 : Int) - bs).toNat = t0 := by omega
          have s3 : (0 : Int) ≤ bs + (t0 : Int) - bs := by omega
          have s4 : bs + (t0 : Int) - bs ≤ (cap : Int) := by omega
          have hadd : cap ≠ 0 → A.map (fun x : Addr => x.add (0 * 1)) = A := by
            intro hc
            obtain ⟨_, _, e3⟩ := hr1
            rcases e3 with ⟨_, e3⟩ | ⟨G, _, _, e3, _⟩
            · exact absurd e3 hc
            · rw [e3]; rfl
          have hsl : ∀ wx, (Instr.slice 22 (.slice A n cap) none (some (.int .i64 (t0 : Int))) none).run Try.prog wx = .ok (.slice A t0 cap) wx := by
            intro wx
            rw [run_slice_h (t := 22) (a := A) (len := n) (cap := cap) (ht := Try.underlying22) (kh := .i64) (h := (t0 : Int)) (h0 := by omega) (h2 := by omega)]
            have hso : (sizeOf (Try.prog.elem 22)).run Try.prog wx = .ok 1 wx := by kernel_rfl
            rw [hso]
            show Result.ok (sliced A 0 t0 cap 1) wx = _
            unfold sliced
            by_cases hc : cap = 0
            · simp [hc]
            · rw [if_neg (by omega), hadd hc]; simp
          clear hadd
          have hzw : w.heap.size + 2 ≤ wr.heap.size := by have := (Array.getElem?_eq_some_iff.1 e1).1; omega
          have HL := Lib.hid hlen
          have HL2 := Lib.hid hlen2
          clear hlen hlen2 hr1 m2
          go_wp2_with (at_builtin; refine wpList_append_fresh rfl _ _ 22 rfl wr.heap.size 43 i0' (.int .u64 0) 1 8 Try.underlying22 hi0 hz0 hz1 hz2 rfl (by decide) wr.heap.size rfl hown0 A t0 cap ((ws.take t0).map (Value.int .u64)) rfl (by rw [HL.out, Nat.mul_one]) hnews (u64_one _) (by omega) (by omega) (by simp) ?_; intro gv cv w3 hown1 hgrow1; have hb3 : Below wr.heap.size wr w3 := ((Below.refl _ wr).alloc (Nat.le_refl _) _).grown hgrow1 (by simp) (fun k e => by cases e; exact Nat.le_refl _); have e0 := bblock hb3 e0; have e1 := bblock hb3 e1; have hg := (hown1.lt gv rfl).1; have hbw3 : Below w.heap.size w w3 := (by (repeat (first | exact Below.refl _ _ | assumption | refine Below.drew ?_ | refine below_drewN ?_ _ | refine balloc ?_ _ | refine Below.setCell ?_ (by first | (simp; done) | (simp; omega) | omega) _ | refine bchain (by assumption) ?_))); have hrow := RowAt.of_row (ws := ws.take t0) (by rw [HL2.out]; exact hown1); obtain ⟨a2, cap2, g2, e2, hr2, hg2⟩ := hrow; simp only [Value.slice.injEq] at e2; obtain ⟨rfl, -, rfl⟩ := e2; have q0 : w3.cell? ⟨w.heap.size, 0, none⟩ = some (.int .i64 bs) := (by rw [cell_of_block e0]; rfl); have q1 : w3.cell? ⟨w.heap.size, 1, none⟩ = some (.int .i64 lm) := (by rw [cell_of_block e0]; rfl); have q2 : w3.cell? ⟨w.heap.size, 2, none⟩ = some (.slice A n cap) := (by rw [cell_of_block e0]; rfl); have q3 : ∀ i, w3.frozen? ⟨w.heap.size, i, none⟩ = false := frozen_of_block e0; have u0 : w3.cell? ⟨w.heap.size + 1, 0, none⟩ = some (.int .i64 0) := (by rw [cell_of_block e1]; rfl); have u1 : w3.cell? ⟨w.heap.size + 1, 1, none⟩ = some (.int .i64 0) := (by rw [cell_of_block e1]; rfl); have u2 : w3.cell? ⟨w.heap.size + 1, 2, none⟩ = some (.slice none 0 0) := (by rw [cell_of_block e1]; rfl); have u3 : ∀ i, w3.frozen? ⟨w.heap.size + 1, i, none⟩ = false := frozen_of_block e1; clear hgrow1 e0 e1 hb3)
          have hrf := (((hr2.apart ⟨w.heap.size, 2, none⟩ (.slice (some ⟨gv, 0, none⟩) t0 cv) (fun G e => by have := hg2 G e; show G ≠ w.heap.size; omega)).apart ⟨w.heap.size + 1, 0, none⟩ (.int .i64 bs) (fun G e => by have := hg2 G e; show G ≠ w.heap.size + 1; omega)).apart ⟨w.heap.size + 1, 1, none⟩ (.int .i64 lm) (fun G e => by have := hg2 G e; show G ≠ w.heap.size + 1; omega)).apart ⟨w.heap.size + 1, 2, none⟩ (.slice (some ⟨gv, 0, none⟩) t0 cv) (fun G e => by have := hg2 G e; show G ≠ w.heap.size + 1; omega)
          refine bodyPost_ret (v := .tuple #[.agg #[.int .i64 bs, .int .i64 lm, .slice (some ⟨gv, 0, none⟩) t0 cv], .int .i64 0]) (by simp [results, Try.results60, go_sem, u0, u1, u2]) rfl ⟨_, g2, rfl, ⟨some ⟨gv, 0, none⟩, cv, by rw [HL2.out], hrf⟩, fun G h => by have := hg2 G h; omega, ?_⟩
          exact (((hbw3.setCell (p := ⟨w.heap.size, 2, none⟩) (Nat.le_refl _) _).setCell (p := ⟨w.heap.size + 1, 0, none⟩) (by show w.heap.size ≤ w.heap.size + 1; omega) _).setCell (p := ⟨w.heap.size + 1, 1, none⟩) (by show w.heap.size ≤ w.heap.size + 1; omega) _).setCell (p := ⟨w.heap.size + 1, 2, none⟩) (by show w.heap.size ≤ w.heap.size + 1; omega) _
end Go.Proofs.Ytgipmcmmicppkaa
namespace Go.Proofs.Ytgipmcmmicppkaa
open Go.RowKit
set_option linter.unusedSimpArgs false
set_option linter.unusedVariables false

/-- A space behind a call that may write it. -/
def SpNext (w : World) (b : Nat) (bs lm : Int) (ws : List Int) (g : Option Nat) (w' : World) : Prop := ∃ g', SpAt w' b bs lm ws g' ∧ Mods (SpS b g) w w' ∧ ∀ G, g' = some G → g = some G ∨ w.heap.size ≤ G
/-- A space of the reference that is handed back: as it was, or made anew. -/
def MdNext (w : World) (bs lm : Int) (ws : List Int) (g : Option Nat) (v : Value) (w' : World) : Prop := ∃ g', MdAt w' v bs lm ws g' ∧ (∀ G, g' = some G → g = some G ∨ w.heap.size ≤ G) ∧ Below w.heap.size w w'
theorem SpNext.of_below {w w' : World} {b : Nat} {bs lm : Int} {ws : List Int} {g : Option Nat} (h : SpAt w b bs lm ws g) (hb : Below w.heap.size w w') : SpNext w b bs lm ws g w' := ⟨g, h.below hb, Mods.of_below hb, fun _ e => .inl e⟩
theorem MdNext.of_below {w w' : World} {v : Value} {bs lm : Int} {ws : List Int} {g : Option Nat} (h : MdAt w v bs lm ws g) (hb : Below w.heap.size w w') : MdNext w bs lm ws g v w' := ⟨g, h.below hb, fun _ e => .inl e, hb⟩

/-- Alloc: is there an object to be made, and has it room? The error, the address, the words. -/
def alE (bs lm : Int) (ws : List Int) (k c f m s : Int) : Int := if hvB k c f && idB m s then (if bs + ws.length + wordsI f ≤ lm then 0 else 8) else 1
def alA (bs lm : Int) (ws : List Int) (k c f m s : Int) : Int := if alE bs lm ws k c f m s = 0 then bs + ws.length else 0
def alW (bs lm : Int) (ws : List Int) (k c f m s : Int) : List Int := if alE bs lm ws k c f m s = 0 then ws ++ newObj k c f m s else ws
theorem al_bad {bs lm : Int} {ws : List Int} {k c f m s : Int} (h : (hvB k c f && idB m s) = false) : alE bs lm ws k c f m s = 1 ∧ alA bs lm ws k c f m s = 0 ∧ alW bs lm ws k c f m s = ws := by
  have e : alE bs lm ws k c f m s = 1 := by unfold alE; rw [h]; rfl
  refine ⟨e, ?_, ?_⟩
  · unfold alA; rw [e]; rfl
  · unfold alW; rw [e]; rfl
theorem al_full {bs lm : Int} {ws : List Int} {k c f m s : Int} (h : (hvB k c f && idB m s) = true) (hf : lm < bs + ws.length + wordsI f) : alE bs lm ws k c f m s = 8 ∧ alA bs lm ws k c f m s = 0 ∧ alW bs lm ws k c f m s = ws := by
  have e : alE bs lm ws k c f m s = 8 := by unfold alE; rw [h, if_pos rfl, if_neg (by omega)]
  refine ⟨e, ?_, ?_⟩
  · unfold alA; rw [e]; rfl
  · unfold alW; rw [e]; rfl
theorem al_ok {bs lm : Int} {ws : List Int} {k c f m s : Int} (h : (hvB k c f && idB m s) = true) (hf : bs + ws.length + wordsI f ≤ lm) : alE bs lm ws k c f m s = 0 ∧ alA bs lm ws k c f m s = bs + ws.length ∧ alW bs lm ws k c f m s = ws ++ newObj k c f m s := by
  have e : alE bs lm ws k c f m s = 0 := by unfold alE; rw [h, if_pos rfl, if_pos hf]
  refine ⟨e, ?_, ?_⟩
  · unfold alA; rw [if_pos e]
  · unfold alW; rw [if_pos e]
theorem alOk {bs lm : Int} {ws : List Int} (hk : SpOk bs lm ws) (k c f m s : Int) : SpOk bs lm (alW bs lm ws k c f m s) := by
  cases h : (hvB k c f && idB m s)
  · rw [(al_bad h).2.2]; exact hk
  · by_cases hf : bs + ws.length + wordsI f ≤ lm
    · rw [(al_ok h hf).2.2]
      rw [Bool.and_eq_true] at h
      exact hk.grow h.1 h.2 hf
    · rw [(al_full h (by omega)).2.2]; exact hk
theorem alloc_any {w : World} {b : Nat} {bs lm : Int} {ws : List Int} {g : Option Nat} (hs : SpAt w b bs lm ws g) (hk : SpOk bs lm ws) (k c f m s : Int) :
    Calls Try.prog 30 #[.pointer (some ⟨b, 0, none⟩), .agg #[.int .i64 k, .int .i64 c, .int .i64 f], .agg #[.int .i64 m, .int .i64 s]] w fun e w' => e = .returned (.tuple #[.int .i64 (alA bs lm ws k c f m s), .int .i64 (alE bs lm ws k c f m s)]) ∧ SpNext w b bs lm (alW bs lm ws k c f m s) g w' := by
  cases h : hvB k c f
  · obtain ⟨e1, e2, e3⟩ := al_bad (bs := bs) (lm := lm) (ws := ws) (k := k) (c := c) (f := f) (m := m) (s := s) (by rw [h]; rfl)
    rw [e1, e2, e3]
    refine (alloc_badH b k c f m s h w).mono ?_
    rintro e w' ⟨rfl, hb⟩
    exact ⟨rfl, .of_below hs hb⟩
  · cases hi : idB m s
    · obtain ⟨e1, e2, e3⟩ := al_bad (bs := bs) (lm := lm) (ws := ws) (k := k) (c := c) (f := f) (m := m) (s := s) (by rw [h, hi]; rfl)
      rw [e1, e2, e3]
      refine (alloc_badI b k c f m s h hi w).mono ?_
      rintro e w' ⟨rfl, hb⟩
      exact ⟨rfl, .of_below hs hb⟩
    · by_cases hf : bs + ws.length + wordsI f ≤ lm
      · obtain ⟨e1, e2, e3⟩ := al_ok (bs := bs) (lm := lm) (ws := ws) (k := k) (c := c) (f := f) (m := m) (s := s) (by rw [h, hi]; rfl) hf
        rw [e1, e2, e3]
        refine (alloc_ok hs hk k c f m s h hi hf).mono ?_
        rintro e w' ⟨rfl, g', h1, h2, h3⟩
        exact ⟨rfl, g', h1, h2, h3⟩
      · obtain ⟨e1, e2, e3⟩ := al_full (bs := bs) (lm := lm) (ws := ws) (k := k) (c := c) (f := f) (m := m) (s := s) (by rw [h, hi]; rfl) (by omega)
        rw [e1, e2, e3]
        refine (alloc_full hs hk k c f m s h hi (by omega)).mono ?_
        rintro e w' ⟨rfl, hb⟩
        exact ⟨rfl, .of_below hs hb⟩
theorem ralloc_any {w : World} {v : Value} {bs lm : Int} {ws : List Int} {g : Option Nat} (hs : MdAt w v bs lm ws g) (hk : SpOk bs lm ws) (k c f m s : Int) :
    Calls Try.prog 57 #[v, .agg #[.int .i64 k, .int .i64 c, .int .i64 f], .agg #[.int .i64 m, .int .i64 s]] w fun e w' => ∃ v', e = .returned (.tuple #[v', .int .i64 (alA bs lm ws k c f m s), .int .i64 (alE bs lm ws k c f m s)]) ∧ MdNext w bs lm (alW bs lm ws k c f m s) g v' w' := by
  cases h : hvB k c f
  · obtain ⟨e1, e2, e3⟩ := al_bad (bs := bs) (lm := lm) (ws := ws) (k := k) (c := c) (f := f) (m := m) (s := s) (by rw [h]; rfl)
    rw [e1, e2, e3]
    cases hi : idB m s
    · refine (ralloc_badH_no hs hk k c f m s h hi).mono ?_
      rintro e w' ⟨rfl, hb⟩
      exact ⟨_, rfl, .of_below hs hb⟩
    · refine (ralloc_badH_yes hs hk k c f m s h hi).mono ?_
      rintro e w' ⟨rfl, hb⟩
      exact ⟨_, rfl, .of_below hs hb⟩
  · cases hi : idB m s
    · obtain ⟨e1, e2, e3⟩ := al_bad (bs := bs) (lm := lm) (ws := ws) (k := k) (c := c) (f := f) (m := m) (s := s) (by rw [h, hi]; rfl)
      rw [e1, e2, e3]
      refine (ralloc_badI hs hk k c f m s h hi).mono ?_
      rintro e w' ⟨rfl, hb⟩
      exact ⟨_, rfl, .of_below hs hb⟩
    · by_cases hf : bs + ws.length + wordsI f ≤ lm
      · obtain ⟨e1, e2, e3⟩ := al_ok (bs := bs) (lm := lm) (ws := ws) (k := k) (c := c) (f := f) (m := m) (s := s) (by rw [h, hi]; rfl) hf
        rw [e1, e2, e3]
        refine (ralloc_ok hs hk k c f m s h hi hf).mono ?_
        rintro e w' ⟨v', g', rfl, h1, h2, h3⟩
        exact ⟨v', rfl, g', h1, fun G e => .inr (h2 G e), h3⟩
      · obtain ⟨e1, e2, e3⟩ := al_full (bs := bs) (lm := lm) (ws := ws) (k := k) (c := c) (f := f) (m := m) (s := s) (by rw [h, hi]; rfl) (by omega)
        rw [e1, e2, e3]
        refine (ralloc_full hs hk k c f m s h hi (by omega)).mono ?_
        rintro e w' ⟨rfl, hb⟩
        exact ⟨_, rfl, .of_below hs hb⟩

/-! ### Load, Store -/
def ioE (bs : Int) (ws : List Int) (x : Int) : Int := if inB bs ws.length x then 0 else 2
def ldW (bs : Int) (ws : List Int) (x : Int) : Int := if inB bs ws.length x then ws.getD (x - bs).toNat 0 else 0
def stW (bs : Int) (ws : List Int) (x u : Int) : List Int := if inB bs ws.length x then ws.set (x - bs).toNat u else ws
theorem SpOk.set {bs lm : Int} {ws : List Int} (hk : SpOk bs lm ws) (i : Nat) {u : Int} (hu : U64 u) : SpOk bs lm (ws.set i u) := by
  obtain ⟨b0, b1, b2, b3⟩ := hk
  refine ⟨b0, by simpa using b1, b2, fun x hx => ?_⟩
  rcases List.mem_or_eq_of_mem_set hx with h | rfl
  · exact b3 x h
  · exact hu
theorem stOk {bs lm : Int} {ws : List Int} (hk : SpOk bs lm ws) (x : Int) {u : Int} (hu : U64 u) : SpOk bs lm (stW bs ws x u) := by
  unfold stW
  split
  · exact hk.set _ hu
  · exact hk
theorem stLen {bs : Int} {ws : List Int} {x u : Int} : (stW bs ws x u).length = ws.length := by
  unfold stW
  split <;> simp
theorem ldU {bs lm : Int} {ws : List Int} (hk : SpOk bs lm ws) (x : Int) : U64 (ldW bs ws x) := by
  unfold ldW
  split
  · exact getD_u64 hk.u64 _
  · exact U64.of (by omega) (by omega)
theorem load_any {w : World} {b : Nat} {bs lm : Int} {ws : List Int} {g : Option Nat} (h : SpAt w b bs lm ws g) (hk : SpOk bs lm ws) (x : Int) :
    Calls Try.prog 35 #[.pointer (some ⟨b, 0, none⟩), .int .i64 x] w fun e w' => e = .returned (.tuple #[.int .u64 (ldW bs ws x), .int .i64 (ioE bs ws x)]) ∧ Below w.heap.size w w' := by
  unfold ldW ioE
  cases hx : inB bs ws.length x
  · exact load_no h hk x hx
  · obtain ⟨h0, h1⟩ := inB_iff.1 hx
    obtain ⟨i, rfl⟩ : ∃ i : Nat, x = bs + (i : Int) := ⟨(x - bs).toNat, by omega⟩
    rw [show (bs + (i : Int) - bs).toNat = i by omega]
    exact load_yes h hk i (by omega)
theorem store_any {w : World} {b : Nat} {bs lm : Int} {ws : List Int} {g : Option Nat} (h : SpAt w b bs lm ws g) (hk : SpOk bs lm ws) (x u : Int) :
    Calls Try.prog 36 #[.pointer (some ⟨b, 0, none⟩), .int .i64 x, .int .u64 u] w fun e w' => e = .returned (.int .i64 (ioE bs ws x)) ∧ SpNext w b bs lm (stW bs ws x u) g w' := by
  unfold stW ioE
  cases hx : inB bs ws.length x
  · refine (store_no h hk x u hx).mono ?_
    rintro e w' ⟨rfl, hb⟩
    exact ⟨rfl, .of_below h hb⟩
  · obtain ⟨h0, h1⟩ := inB_iff.1 hx
    obtain ⟨i, rfl⟩ : ∃ i : Nat, x = bs + (i : Int) := ⟨(x - bs).toNat, by omega⟩
    rw [show (bs + (i : Int) - bs).toNat = i by omega]
    refine (store_yes h hk i (by omega) u).mono ?_
    rintro e w' ⟨rfl, h1, h2⟩
    exact ⟨rfl, g, h1, h2.mono (fun k hk => .inr hk), fun _ e => .inl e⟩
theorem rstore_any {w : World} {v : Value} {bs lm : Int} {ws : List Int} {g : Option Nat} (h : MdAt w v bs lm ws g) (hk : SpOk bs lm ws) (x u : Int) :
    Calls Try.prog 71 #[v, .int .i64 x, .int .u64 u] w fun e w' => ∃ v', e = .returned (.tuple #[v', .int .i64 (ioE bs ws x)]) ∧ MdNext w bs lm (stW bs ws x u) g v' w' := by
  unfold stW ioE
  cases hx : inB bs ws.length x
  · refine (rstore_no h hk x u hx).mono ?_
    rintro e w' ⟨rfl, hb⟩
    exact ⟨_, rfl, .of_below h hb⟩
  · obtain ⟨h0, h1⟩ := inB_iff.1 hx
    obtain ⟨i, rfl⟩ : ∃ i : Nat, x = bs + (i : Int) := ⟨(x - bs).toNat, by omega⟩
    rw [show (bs + (i : Int) - bs).toNat = i by omega]
    refine (rstore_yes h hk i (by omega) u).mono ?_
    rintro e w' ⟨v', g', rfl, h1, h2, h3⟩
    exact ⟨_, rfl, g', h1, fun G e => .inr (h2 G e), h3⟩

end Go.Proofs.Ytgipmcmmicppkaa
namespace Go.Proofs.Ytgipmcmmicppkaa
open Go.RowKit
set_option linter.unusedSimpArgs false
set_option linter.unusedVariables false

/-! ### Truncate -/
theorem SpOk.cut {bs lm : Int} {ws : List Int} (hk : SpOk bs lm ws) (t : Nat) : SpOk bs lm (ws.take t) := by
  obtain ⟨b0, b1, b2, b3⟩ := hk
  refine ⟨b0, ?_, b2, fun x hx => b3 x (List.mem_of_mem_take hx)⟩
  rw [List.length_take]
  omega
open Classical in
noncomputable def trE (bs : Int) (ws : List Int) (x : Int) : Int := if okT bs ws x then 0 else 2
open Classical in
noncomputable def trW (bs : Int) (ws : List Int) (x : Int) : List Int := if okT bs ws x then ws.take (x - bs).toNat else ws
theorem trOk {bs lm : Int} {ws : List Int} (hk : SpOk bs lm ws) (x : Int) : SpOk bs lm (trW bs ws x) := by
  unfold trW
  split
  · exact hk.cut _
  · exact hk
theorem truncate_any {w : World} {b : Nat} {bs lm : Int} {ws : List Int} {g : Option Nat} (h : SpAt w b bs lm ws g) (hk : SpOk bs lm ws) (x : Int) :
    Calls Try.prog 38 #[.pointer (some ⟨b, 0, none⟩), .int .i64 x] w fun e w' => e = .returned (.int .i64 (trE bs ws x)) ∧ SpNext w b bs lm (trW bs ws x) g w' := by
  refine (trunc_any h hk x).mono ?_
  unfold trE trW
  rintro e w' (⟨ho, rfl, h1, h2⟩ | ⟨ho, rfl, hb⟩)
  · rw [if_pos ho, if_pos ho]
    exact ⟨rfl, g, h1, h2.mono (fun k hk => .inl hk), fun _ e => .inl e⟩
  · rw [if_neg ho, if_neg ho]
    exact ⟨rfl, .of_below h hb⟩
theorem rtruncate_any {w : World} {v : Value} {bs lm : Int} {ws : List Int} {g : Option Nat} (h : MdAt w v bs lm ws g) (hk : SpOk bs lm ws) (x : Int) :
    Calls Try.prog 60 #[v, .int .i64 x] w fun e w' => ∃ v', e = .returned (.tuple #[v', .int .i64 (trE bs ws x)]) ∧ MdNext w bs lm (trW bs ws x) g v' w' := by
  unfold trE trW
  by_cases ho : okT bs ws x
  · rw [if_pos ho, if_pos ho]
    obtain ⟨h0, h1⟩ := okT_bd ho
    obtain ⟨t, rfl⟩ : ∃ t : Nat, x = bs + (t : Int) := ⟨(x - bs).toNat, by omega⟩
    rw [show (bs + (t : Int) - bs).toNat = t by omega]
    refine (rtrunc_ok h hk t (by omega) ho).mono ?_
    rintro e w' ⟨v', g', rfl, h1, h2, h3⟩
    exact ⟨_, rfl, g', h1, fun G e => .inr (h2 G e), h3⟩
  · rw [if_neg ho, if_neg ho]
    refine (rtrunc_no h hk x ho).mono ?_
    rintro e w' ⟨rfl, hb⟩
    exact ⟨_, rfl, .of_below h hb⟩
end Go.Proofs.Ytgipmcmmicppkaa
