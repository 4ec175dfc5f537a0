/-
  law 13: Rollback.
-/
import Derived.Test.YtgipmcmmicppkaaUnA
import Derived.Defers
import Derived.Deep.RegionHeld3
import Derived.Deep.Cut
namespace Go.Proofs.Ytgipmcmmicppkaa
open Go.RowKit
set_option linter.unusedSimpArgs false
set_option linter.unusedVariables false

/-- The words behind a rollback's stores: the last note first. -/
def rbW (wo wy : List Int) (nt : List (Int × Int)) : List Int × List Int := nt.foldr (fun x m => (stO m.1 x.1 x.2, stY m.2 x.1 x.2)) (wo, wy)
theorem rbW_cons (wo wy : List Int) (x : Int × Int) (nt : List (Int × Int)) : rbW wo wy (x :: nt) = (stO (rbW wo wy nt).1 x.1 x.2, stY (rbW wo wy nt).2 x.1 x.2) := rfl
theorem rbW_drop {wo wy : List Int} {nt : List (Int × Int)} {k : Nat} {x : Int × Int} (h : nt[k]? = some x) : rbW wo wy (nt.drop k) = (stO (rbW wo wy (nt.drop (k + 1))).1 x.1 x.2, stY (rbW wo wy (nt.drop (k + 1))).2 x.1 x.2) := by
  obtain ⟨h1, h2⟩ := List.getElem?_eq_some_iff.1 h
  rw [List.drop_eq_getElem_cons h1, h2, rbW_cons]
noncomputable def rlE (s : M13) : Int := if s.op then (if trE 16777216 (rbW s.wo s.wy s.nt).2 s.top = 0 then 0 else 11) else 9
noncomputable def rlS (s : M13) : M13 := if s.op then ⟨(rbW s.wo s.wy s.nt).1, trW 16777216 (rbW s.wo s.wy s.nt).2 s.top, false, 0, []⟩ else s
theorem rb1_any (bL B : Nat) (u : FrameMode) (w : World) {v0 v1 v2 : Value} (hB : w.cell? ⟨B, 0, none⟩ = some (.pointer (some ⟨bL, 0, none⟩))) (hl : w.heap[bL]? = some (.cells #[v0, v1, v2] 77 (0, 0))) :
    CallsD Try.prog 37 #[.pointer (some ⟨B, 0, none⟩)] u w fun e u' w' => u' = u ∧ (e = .returned (.tuple #[]) ∧ w' = ((w.setCell ⟨bL, 0, none⟩ (.bool false)).setCell ⟨bL, 1, none⟩ (.int .i64 0)).setCell ⟨bL, 2, none⟩ (.slice none 0 0)) := by
  have qf : ∀ i, w.frozen? ⟨bL, i, none⟩ = false := frozen_of_block hl
  have c0 : w.cell? ⟨bL, 0, none⟩ = some v0 := by rw [cell_of_block hl]; rfl
  have c1 : w.cell? ⟨bL, 1, none⟩ = some v1 := by rw [cell_of_block hl]; rfl
  have c2 : w.cell? ⟨bL, 2, none⟩ = some v2 := by rw [cell_of_block hl]; rfl
  clear hl
  go_enter_d Try.func37, Try.ntmps37
  go_wp2
  go_end0
  exact ⟨rfl, rfl⟩
theorem nt_at {w : World} {lv : Value} {nt : List (Int × Int)} (h : w.ownsRow 0 80 2 lv nt.length (nt.flatMap ntCells)) {k : Nat} {x : Int × Int} (hx : nt[k]? = some x) : ∃ (g cap : Nat), lv = .slice (some ⟨g, 0, none⟩) nt.length cap ∧ w.cell? ⟨g, k * 2, none⟩ = some (.int .i64 x.1) ∧ w.cell? ⟨g, k * 2 + 1, none⟩ = some (.int .u64 x.2) := by
  obtain ⟨h1, h2⟩ := h
  have hk : k < nt.length := (List.getElem?_eq_some_iff.1 hx).1
  rcases h2 with ⟨rfl, h0⟩ | ⟨g, cap, cur, rfl, _, hh, hn, hm, hs, ht⟩
  · omega
  · refine ⟨g, cap, rfl, ?_, ?_⟩
    · rw [cell_of_block hh, ← Array.getElem?_toList]
      have e : (cur.toList.take (nt.length * 2))[k * 2 + 0]? = (nt.flatMap ntCells)[k * 2 + 0]? := by rw [ht]
      rw [List.getElem?_take_of_lt (by omega), flat_get (f := ntCells) (k := 2) (fun _ => rfl) nt k 0 (by omega), hx] at e
      exact e
    · rw [cell_of_block hh, ← Array.getElem?_toList]
      have e : (cur.toList.take (nt.length * 2))[k * 2 + 1]? = (nt.flatMap ntCells)[k * 2 + 1]? := by rw [ht]
      rw [List.getElem?_take_of_lt (by omega), flat_get (f := ntCells) (k := 2) (fun _ => rfl) nt k 1 (by omega), hx] at e
      exact e
theorem RealAt.setMem {w w' : World} {bO bY bL : Nat} {lo ly : Int} {s : M13} {lv : Value} {gO gY : Option Nat} (h : RealAt w bO bY bL lo ly s lv gO gY) {wo' wy' : List Int} (hm : MemAt w' bO bY lo ly wo' wy' gO gY) (hM : Mods (MS bO bY gO gY) w w') : RealAt w' bO bY bL lo ly ⟨wo', wy', s.op, s.top, s.nt⟩ lv gO gY :=
  ⟨hm, mblock hM h.log h.lm, nrow_keep h.nts (fun G o e ho => mblock hM ho (h.ln G e).1), h.wf, h.lm, h.ln⟩
theorem RNx.trans {w w1 w2 : World} {bO bY bL : Nat} {lo ly : Int} {s1 s2 : M13} {S : Nat → Prop} (h : RNx w bO bY bL lo ly s1 S w1) (k : ∀ S1, RealW w1 bO bY bL lo ly s1 S1 → RNx w1 bO bY bL lo ly s2 S1 w2) : RNx w bO bY bL lo ly s2 S w2 := by
  obtain ⟨S1, h1, h2, h3⟩ := h
  obtain ⟨S2, k1, k2, k3⟩ := k S1 h1
  refine ⟨S2, k1, h2.trans k2 h3, fun i hi => ?_⟩
  rcases k3 i hi with e | e
  · exact h3 i e
  · exact .inr (Nat.le_trans h2.size e)
theorem SpNext.mods {w w' : World} {b : Nat} {bs lm : Int} {ws : List Int} {g : Option Nat} (h : SpNext w b bs lm ws g w') : Mods (SpS b g) w w' := by
  obtain ⟨_, _, h, _⟩ := h
  exact h
theorem rb_fin {w w1 wr w4 : World} {bO bY bL : Nat} {lo ly top : Int} {mo my my' : List Int} {nt : List (Int × Int)} {lv : Value} {gO gY : Option Nat} {S : Nat → Prop} (hb : Below w.heap.size w w1) (hM : Mods (RS bO bY bL lv gO gY) w1 wr) (hR : RealAt wr bO bY bL lo ly ⟨mo, my, true, top, nt⟩ lv gO gY)
    (hN : SpNext wr bY 16777216 ly my' gY w4) (hk : SpOk 16777216 ly my') (hS : ∀ k, S k ↔ RS bO bY bL lv gO gY k) : w4.heap[bL]? = some (.cells #[.bool true, .int .i64 top, lv] 77 (0, 0)) ∧ RNx w bO bY bL lo ly ⟨mo, my', false, 0, []⟩ S (((w4.setCell ⟨bL, 0, none⟩ (.bool false)).setCell ⟨bL, 1, none⟩ (.int .i64 0)).setCell ⟨bL, 2, none⟩ (.slice none 0 0)) := by
  obtain ⟨gY', hm4, hM4, hg4⟩ := mem_yng' hR.mem hN hk
  have hl4 := mblock hM4 hR.log hR.lm
  have hlt := hR.lt
  have hR4 : RealAt w4 bO bY bL lo ly ⟨mo, my', true, top, nt⟩ lv gO gY' := by
    have old : ∀ G, MS bO bY gO gY' G → MS bO bY gO gY G ∨ wr.heap.size ≤ G := by
      rintro G (e | e | e)
      · exact .inl (.inl e)
      · exact .inl (.inr (.inl e))
      · exact (hg4 G e).imp (fun h => .inr (.inr h)) id
    refine ⟨hm4, hl4, nrow_keep hR.nts (fun G o e ho => mblock hM4 ho (hR.ln G e).1), hR.wf, fun e => ?_, fun G e => ⟨fun e' => ?_, (hR.ln G e).2⟩⟩
    · rcases old _ e with h | h
      · exact hR.lm h
      · have := hlt bL (.inr (.inl rfl)); omega
    · rcases old _ e' with h | h
      · exact (hR.ln G e).1 h
      · have := hlt G (.inr (.inr e)); omega
  obtain ⟨S', r1, r2, r3⟩ := hR4.relog (op := false) (top := 0) three_mods (three_set (b0 := .bool false) (b1 := .int .i64 0) (b2 := .slice none 0 0) hl4)
  have hz : w.heap.size ≤ wr.heap.size := Nat.le_trans hb.size hM.size
  have hz4 : wr.heap.size ≤ w4.heap.size := hM4.size
  have hold : ∀ k, RS bO bY bL lv gO gY' k → RS bO bY bL lv gO gY k ∨ w.heap.size ≤ k := by
    rintro k (e | e | e)
    · rcases e with e | e | e
      · exact .inl (.inl (.inl e))
      · exact .inl (.inl (.inr (.inl e)))
      · exact (hg4 k e).imp (fun h => .inl (.inr (.inr h))) (fun h => by omega)
    · exact .inl (.inr (.inl e))
    · exact .inl (.inr (.inr e))
  refine ⟨hl4, RNx.ofS hS ⟨S', r1, ?_, fun k hk => ?_⟩⟩
  · exact (((Mods.of_below (S := RS bO bY bL lv gO gY) hb).trans hM (fun i hi => .inl hi)).trans hM4 (fun i hi => .inl (.inl hi))).trans r2 (fun i hi => hold i hi)
  · rcases r3 k hk with e | e
    · exact hold k e
    · exact .inr (by omega)
set_option maxRecDepth 100000 in
set_option maxHeartbeats 4000000 in
theorem rollback_no {w : World} {bO bY bL : Nat} {lo ly : Int} {s : M13} {S : Nat → Prop} (h : RealW w bO bY bL lo ly s S) (ho : s.op = false) :
    Calls Try.prog 18 #[.pointer (some ⟨bL, 0, none⟩), .agg #[.pointer (some ⟨bO, 0, none⟩), .pointer (some ⟨bY, 0, none⟩)]] w fun e w' => e = .returned (.int .i64 9) ∧ RNx w bO bY bL lo ly s S w' := by
  have HW := Lib.hid h
  obtain ⟨lv, gO, gY, hR, hS⟩ := h
  obtain ⟨wo, wy, op, top, nt⟩ := s
  dsimp only at ho
  subst ho
  have hl := hR.log
  dsimp only at hl
  clear hR hS
  go_enter_defers Try.func18, Try.ntmps18
  have hb1 : Below w.heap.size w ((w.alloc (.cells #[.pointer (some ⟨bL, 0, none⟩)] 31)).alloc (.cells #[.pointer (some ⟨bO, 0, none⟩), .pointer (some ⟨bY, 0, none⟩)] 30)) := by (repeat (first | exact Below.refl _ _ | assumption | refine Below.drew ?_ | refine below_drewN ?_ _ | refine balloc ?_ _ | refine Below.setCell ?_ (by first | (simp; done) | (simp; omega) | omega) _ | refine bchain (by assumption) ?_))
  have q0 : ((w.alloc (.cells #[.pointer (some ⟨bL, 0, none⟩)] 31)).alloc (.cells #[.pointer (some ⟨bO, 0, none⟩), .pointer (some ⟨bY, 0, none⟩)] 30)).cell? ⟨bL, 0, none⟩ = some (.bool false) := by rw [cell_of_block (bblock hb1 hl)]; rfl
  have q1 : ((w.alloc (.cells #[.pointer (some ⟨bL, 0, none⟩)] 31)).alloc (.cells #[.pointer (some ⟨bO, 0, none⟩), .pointer (some ⟨bY, 0, none⟩)] 30)).cell? ⟨w.heap.size, 0, none⟩ = some (.pointer (some ⟨bL, 0, none⟩)) := bcellv (balloc (Below.refl _ _) _) (by rw [cell_of_block (alloc_get _ _)]; rfl)
  have HF := Lib.hid (RNx.of_below HW.out hb1)
  clear hl hb1
  go_wp2
  exact ⟨_, results_tmp rfl _ _ _, rfl, HF.out⟩
set_option maxRecDepth 100000 in
set_option maxHeartbeats 8000000 in
theorem rollback_yes {w : World} {bO bY bL : Nat} {lo ly : Int} {s : M13} {S : Nat → Prop} (h : RealW w bO bY bL lo ly s S) (ho : s.op = true) (hn : s.nt.length ≤ 100000) :
    Calls Try.prog 18 #[.pointer (some ⟨bL, 0, none⟩), .agg #[.pointer (some ⟨bO, 0, none⟩), .pointer (some ⟨bY, 0, none⟩)]] w fun e w' => e = .returned (.int .i64 (rlE s)) ∧ RNx w bO bY bL lo ly (rlS s) S w' := by
  obtain ⟨lv, gO, gY, hR, hS⟩ := h
  obtain ⟨wo, wy, op, top, nt⟩ := s
  dsimp only at ho hn
  subst ho
  have hre : rlE ⟨wo, wy, true, top, nt⟩ = if trE 16777216 (rbW wo wy nt).2 top = 0 then 0 else 11 := rfl
  have hrs : rlS ⟨wo, wy, true, top, nt⟩ = ⟨(rbW wo wy nt).1, trW 16777216 (rbW wo wy nt).2 top, false, 0, []⟩ := rfl
  rw [hre, hrs]
  clear hre hrs
  obtain ⟨rv, hrv⟩ : ∃ rv : Int, (if trE 16777216 (rbW wo wy nt).2 top = 0 then 0 else 11) = rv := ⟨_, rfl⟩
  rw [hrv]
  have HRV := Lib.hid hrv
  clear hrv
  obtain ⟨an, cn, hlv, hn1, hn2⟩ := nt_form hR
  dsimp only at hlv hn1
  subst hlv
  obtain ⟨n, hnn⟩ : ∃ n, nt.length = n := ⟨_, rfl⟩
  have HN := Lib.hid hnn
  have HS := Lib.hid hS
  have hlt := hR.lt
  clear hS
  have hmf : ∀ (fn : Fn) (first cap : Array Value) (w : World), (Instr.makeFunc fn first cap).run Try.prog w = .ok (.func fn first cap) w := fun _ _ _ _ => rfl
  rw [hnn] at hR hn hn1 HS hlt
  clear hnn
  go_enter_defers Try.func18, Try.ntmps18
  have hb1 : Below w.heap.size w ((w.alloc (.cells #[.pointer (some ⟨bL, 0, none⟩)] 31)).alloc (.cells #[.pointer (some ⟨bO, 0, none⟩), .pointer (some ⟨bY, 0, none⟩)] 30)) := by (repeat (first | exact Below.refl _ _ | assumption | refine Below.drew ?_ | refine below_drewN ?_ _ | refine balloc ?_ _ | refine Below.setCell ?_ (by first | (simp; done) | (simp; omega) | omega) _ | refine bchain (by assumption) ?_))
  have kA : ((w.alloc (.cells #[.pointer (some ⟨bL, 0, none⟩)] 31)).alloc (.cells #[.pointer (some ⟨bO, 0, none⟩), .pointer (some ⟨bY, 0, none⟩)] 30)).heap[w.heap.size]? = some (.cells #[.pointer (some ⟨bL, 0, none⟩)] 31 (0, 0)) := alloc_lt _ (alloc_get _ _)
  have kB : ((w.alloc (.cells #[.pointer (some ⟨bL, 0, none⟩)] 31)).alloc (.cells #[.pointer (some ⟨bO, 0, none⟩), .pointer (some ⟨bY, 0, none⟩)] 30)).heap[w.heap.size + 1]? = some (.cells #[.pointer (some ⟨bO, 0, none⟩), .pointer (some ⟨bY, 0, none⟩)] 30 (0, 0)) := alloc_at _ (by simp)
  have hR1 := hR.below hb1
  have hl1 := hR1.log
  dsimp only at hl1
  have q0 : ((w.alloc (.cells #[.pointer (some ⟨bL, 0, none⟩)] 31)).alloc (.cells #[.pointer (some ⟨bO, 0, none⟩), .pointer (some ⟨bY, 0, none⟩)] 30)).cell? ⟨bL, 0, none⟩ = some (.bool true) := by rw [cell_of_block hl1]; rfl
  have q1 : ((w.alloc (.cells #[.pointer (some ⟨bL, 0, none⟩)] 31)).alloc (.cells #[.pointer (some ⟨bO, 0, none⟩), .pointer (some ⟨bY, 0, none⟩)] 30)).cell? ⟨w.heap.size, 0, none⟩ = some (.pointer (some ⟨bL, 0, none⟩)) := by rw [cell_of_block kA]; rfl
  have q2 : ((w.alloc (.cells #[.pointer (some ⟨bL, 0, none⟩)] 31)).alloc (.cells #[.pointer (some ⟨bO, 0, none⟩), .pointer (some ⟨bY, 0, none⟩)] 30)).cell? ⟨bL, 2, none⟩ = some (.slice an n cn) := by rw [cell_of_block hl1]; rfl
  clear hl1 hR
  go_wp2_with fail
  obtain ⟨w1, hw1⟩ : ∃ W, ((w.alloc (.cells #[.pointer (some ⟨bL, 0, none⟩)] 31)).alloc (.cells #[.pointer (some ⟨bO, 0, none⟩), .pointer (some ⟨bY, 0, none⟩)] 30)) = W := ⟨_, rfl⟩
  rw [hw1] at hb1 kA kB hR1 q0 q1 q2 ⊢
  clear hw1 q0 q1 q2
  have HR1 := Lib.hid hR1
  have hRS : ∀ k, k = w.heap.size ∨ k = w.heap.size + 1 → ¬ RS bO bY bL (.slice an n cn) gO gY k := fun k hk e => by have := hlt k e; omega
  have HRS := Lib.hid hRS
  clear hR1 hRS hlt
  go_loopw [5] (fun i wr => ∃ k : Nat, k ≤ n ∧ i = .int .i64 ((k : Int) - 1) ∧ RealAt wr bO bY bL lo ly ⟨(rbW wo wy (nt.drop k)).1, (rbW wo wy (nt.drop k)).2, true, top, nt⟩ (.slice an n cn) gO gY ∧ Mods (RS bO bY bL (.slice an n cn) gO gY) w1 wr) (fun i _ => (intOf i + 1).toNat)
  case atStart => exact ⟨n, Nat.le_refl _, rfl, by rw [List.drop_eq_nil_of_le (by rw [HN.out]; exact Nat.le_refl _)]; exact HR1.out, Mods.refl _ _⟩
  case round =>
    obtain ⟨k, hk, rfl, hR, hM⟩ := hrel
    have kA := mblock hM kA (HRS.out _ (.inl rfl))
    have kB := mblock hM kB (HRS.out _ (.inr rfl))
    have hl := hR.log
    dsimp only at hl
    have qA : wr.cell? ⟨w.heap.size, 0, none⟩ = some (.pointer (some ⟨bL, 0, none⟩)) := by rw [cell_of_block kA]; rfl
    have qB0 : wr.cell? ⟨w.heap.size + 1, 0, none⟩ = some (.pointer (some ⟨bO, 0, none⟩)) := by rw [cell_of_block kB]; rfl
    have qB1 : wr.cell? ⟨w.heap.size + 1, 1, none⟩ = some (.pointer (some ⟨bY, 0, none⟩)) := by rw [cell_of_block kB]; rfl
    have ql1 : wr.cell? ⟨bL, 1, none⟩ = some (.int .i64 top) := by rw [cell_of_block hl]; rfl
    have ql2 : wr.cell? ⟨bL, 2, none⟩ = some (.slice an n cn) := by rw [cell_of_block hl]; rfl
    by_cases hk0 : 0 < k
    · obtain ⟨j, rfl⟩ : ∃ j, k = j + 1 := ⟨k - 1, by omega⟩
      obtain ⟨x, hx⟩ : ∃ x, nt[j]? = some x := ⟨_, List.getElem?_eq_getElem (by rw [HN.out]; omega)⟩
      have hnts := hR.nts
      dsimp only at hnts
      obtain ⟨g, cap, eg, y0, y1⟩ := nt_at hnts hx
      rw [HN.out] at eg
      simp only [Value.slice.injEq] at eg
      obtain ⟨rfl, _, rfl⟩ := eg
      have hux := hR.wf x (List.mem_of_getElem? hx)
      have hdr := rbW_drop (wo := wo) (wy := wy) hx
      have HD := Lib.hid hdr
      have HST := Lib.hid (fun W (H : MemAt W bO bY lo ly (rbW wo wy (nt.drop (j + 1))).1 (rbW wo wy (nt.drop (j + 1))).2 gO gY) => mstore_any H x.1 x.2 hux)
      have HR := Lib.hid hR
      have HM := Lib.hid hM
      obtain ⟨x1, x2⟩ := x
      dsimp only at y0 y1 HST HD
      have hc1 : ((j + 1 : Nat) : Int) - 1 = (j : Int) := by omega
      rw [hc1]
      have hd : decide ((0 : Int) ≤ (j : Int)) = true := by simp
      have s1 : ((j : Int)).toNat = j := by omega
      have hj0 : (0 : Int) ≤ (j : Int) := by omega
      have hj1 : (j : Int) < (n : Int) := by omega
      have hj2 : (j : Int) ≤ (n : Int) := by omega
      generalize hmo : (rbW wo wy (nt.drop (j + 1))).1 = mo at *
      generalize hmy : (rbW wo wy (nt.drop (j + 1))).2 = my at *
      generalize hle : LE mo my x1 = le at *
      clear hx hnts hux hdr hR hM kA kB hl hmo hmy hle
      have hmd := HR.out.mem.below (Below.drew (Below.refl _ wr))
      have nA : ¬ MS bO bY gO gY w.heap.size := fun e => HRS.out _ (.inl rfl) (.inl e)
      have nB : ¬ MS bO bY gO gY (w.heap.size + 1) := fun e => HRS.out _ (.inr rfl) (.inl e)
      have nL : ¬ MS bO bY gO gY bL := HR.out.lm
      have nG : ¬ MS bO bY gO gY g := (HR.out.ln g rfl).1
      dsimp only at hmd
      have HMD := Lib.hid hmd
      clear hmd
      go_wp2_with fail
      go_region_held3 (fun w' => w'.cell? ⟨w.heap.size, 0, none⟩ = some (.pointer (some ⟨bL, 0, none⟩)) ∧ w'.cell? ⟨w.heap.size + 1, 0, none⟩ = some (.pointer (some ⟨bO, 0, none⟩)) ∧ w'.cell? ⟨w.heap.size + 1, 1, none⟩ = some (.pointer (some ⟨bY, 0, none⟩)) ∧ w'.cell? ⟨bL, 2, none⟩ = some (.slice (some ⟨g, 0, none⟩) n cn) ∧ w'.cell? ⟨g, j * 2, none⟩ = some (.int .i64 x1) ∧ w'.cell? ⟨g, j * 2 + 1, none⟩ = some (.int .u64 x2)) (first | (with_reducible exact ⟨qA, qB0, qB1, ql2, y0, y1⟩) | go_keep) (first | (go_at_call 16; (with_reducible refine (HST.out _ HMD.out).mono ?_); rintro e w4 ⟨rfl, hm4, hM4⟩; have qA := mcell hM4 (show wr.drew.cell? _ = _ from qA) nA; have qB0 := mcell hM4 (show wr.drew.cell? _ = _ from qB0) nB; have qB1 := mcell hM4 (show wr.drew.cell? _ = _ from qB1) nB; have ql2 := mcell hM4 (show wr.drew.cell? _ = _ from ql2) nL; have y0 := mcell hM4 (show wr.drew.cell? _ = _ from y0) nG; have y1 := mcell hM4 (show wr.drew.cell? _ = _ from y1) nG))
      have hMr : Mods (MS bO bY gO gY) wr w4 := Mods.mk hM4.os hM4.tape hM4.output hM4.size hM4.block
      have hR4 := HR.out.setMem hm4 hMr
      have hM4' := HM.out.trans hMr (fun i hi => .inl (.inl hi))
      have HR4 := Lib.hid hR4
      clear hR4 hm4 hM4 hMr
      go_wp2
      go_roundw
      case rel =>
        refine ⟨j, by omega, rfl, ?_, hM4'⟩
        rw [HD.out]
        exact HR4.out
      case measure => simp [intOf] <;> omega
    · have hk0' : k = 0 := by omega
      subst hk0'
      rw [List.drop_zero] at hR
      have hmd := hR.mem.below (Below.drew (Below.refl _ wr))
      dsimp only at hmd
      have HTR := Lib.hid (truncate_any hmd.yng hmd.okY top)
      have nA : w.heap.size ≠ bY ∧ gY ≠ some w.heap.size := ⟨fun e => HRS.out _ (.inl rfl) (.inl (.inr (.inl e))), fun e => HRS.out _ (.inl rfl) (.inl (.inr (.inr e)))⟩
      have nB : w.heap.size + 1 ≠ bY ∧ gY ≠ some (w.heap.size + 1) := ⟨fun e => HRS.out _ (.inr rfl) (.inl (.inr (.inl e))), fun e => HRS.out _ (.inr rfl) (.inl (.inr (.inr e)))⟩
      have nL : bL ≠ bY ∧ gY ≠ some bL := ⟨fun e => hR.lm (.inr (.inl e)), fun e => hR.lm (.inr (.inr e))⟩
      have HOK := Lib.hid (trOk hmd.okY top)
      have hMd : Mods (RS bO bY bL (.slice an n cn) gO gY) w1 wr.drew := hM.drew
      have hRd := hR.below (Below.drew (Below.refl _ wr))
      have HFIN := Lib.hid (fun W (H : SpNext wr.drew bY 16777216 ly (trW 16777216 (rbW wo wy nt).2 top) gY W) => rb_fin hb1 hMd hRd H HOK.out HS.out)
      have HKA := Lib.hid kA
      clear hmd hMd hRd hR hM kB hl
      generalize trE 16777216 (rbW wo wy nt).2 top = te at *
      go_upto_region 8 with fail
      go_region_held3 (fun w' => w'.cell? ⟨w.heap.size, 0, none⟩ = some (.pointer (some ⟨bL, 0, none⟩)) ∧ w'.cell? ⟨w.heap.size + 1, 1, none⟩ = some (.pointer (some ⟨bY, 0, none⟩)) ∧ w'.cell? ⟨bL, 1, none⟩ = some (.int .i64 top)) (first | (with_reducible exact ⟨qA, qB1, ql1⟩) | go_keep) (first | (go_at_call 38; (with_reducible refine (HTR.out).mono ?_); rintro e w4 ⟨rfl, hN4⟩; have hM4 := hN4.mods; have qA := mcell hM4 (show wr.drew.cell? _ = _ from qA) (fun e => e.elim nA.1 nA.2); have qB1 := mcell hM4 (show wr.drew.cell? _ = _ from qB1) (fun e => e.elim nB.1 nB.2); have ql1 := mcell hM4 (show wr.drew.cell? _ = _ from ql1) (fun e => e.elim nL.1 nL.2)))
      have HF := HFIN.out w4 hN4
      have kA4 := mblock hM4 (show wr.drew.heap[w.heap.size]? = _ from HKA.out) (fun e => e.elim nA.1 nA.2)
      have HF1 := Lib.hid HF.1
      have HF2 := Lib.hid HF.2
      clear HF hN4 hM4
      by_cases ht : te = 0
      · have e0 := HRV.out
        rw [if_pos ht] at e0
        subst ht e0
        go_wp2
        refine leaves_cons (f := 37) (args := #[.pointer (some ⟨w.heap.size, 0, none⟩)]) (by simp) (by simp [go_sem]) ?_
        refine (rb1_any bL w.heap.size .returning _ qA HF1.out).mono ?_
        rintro e u' w'' ⟨rfl, rfl, rfl⟩
        exact ⟨_, results_tmp rfl _ _ _, rfl, HF2.out⟩
      · have hte : (te != 0) = true := by simp [ht]
        have e0 := HRV.out
        rw [if_neg ht] at e0
        subst e0
        go_wp2
        refine leaves_cons (f := 37) (args := #[.pointer (some ⟨w.heap.size, 0, none⟩)]) (by simp) (by simp [go_sem]) ?_
        refine (rb1_any bL w.heap.size .returning _ qA HF1.out).mono ?_
        rintro e u' w'' ⟨rfl, rfl, rfl⟩
        exact ⟨_, results_tmp rfl _ _ _, rfl, HF2.out⟩
theorem rollback_any {w : World} {bO bY bL : Nat} {lo ly : Int} {s : M13} {S : Nat → Prop} (h : RealW w bO bY bL lo ly s S) (hn : s.nt.length ≤ 100000) :
    Calls Try.prog 18 #[.pointer (some ⟨bL, 0, none⟩), .agg #[.pointer (some ⟨bO, 0, none⟩), .pointer (some ⟨bY, 0, none⟩)]] w fun e w' => e = .returned (.int .i64 (rlE s)) ∧ RNx w bO bY bL lo ly (rlS s) S w' := by
  cases ho : s.op
  · have e1 : rlE s = 9 := by unfold rlE; rw [ho]; rfl
    have e2 : rlS s = s := by unfold rlS; rw [ho]; rfl
    rw [e1, e2]
    exact rollback_no h ho
  · exact rollback_yes h ho hn
end Go.Proofs.Ytgipmcmmicppkaa
