/-
  law 13: note on both sides.
-/
import Derived.Test.YtgipmcmmicppkaaUnV
import Derived.Deep.CutRange
namespace Go.Proofs.Ytgipmcmmicppkaa
open Go.RowKit
set_option linter.unusedSimpArgs false
set_option linter.unusedVariables false

theorem rbegin_next {w : World} {s : M13} {vA vW : Value} (h : LgAt w s.nt vA vW) {aO : Option Addr} {nO cO : Nat} {aY : Option Addr} {nY cY : Nat} {lo ly : Int} {rO rY : Option Nat} (hm : RMem w aO nO cO aY nY cY lo ly s.wo s.wy rO rY) :
    Calls Try.prog 23 #[lgV s.op s.top vA vW, mmV lo ly aO nO cO aY nY cY] w (LgNext w (bgS s).nt (bgS s).op (bgS s).top (bgE s) vA vW) := by
  obtain ⟨wo, wy, op, top, nt⟩ := s
  refine (rbegin_any h hm).mono ?_
  rintro e w' ⟨rfl, hb⟩
  cases op
  · exact ⟨_, _, rfl, LgAt.nil _, fun G e => (by cases e), fun G e => (by cases e), hb⟩
  · exact LgNext.same h hb
theorem rcommit_next {w : World} {s : M13} {vA vW : Value} (h : LgAt w s.nt vA vW) :
    Calls Try.prog 44 #[lgV s.op s.top vA vW] w (LgNext w (cmS s).nt (cmS s).op (cmS s).top (cmE s) vA vW) := by
  obtain ⟨wo, wy, op, top, nt⟩ := s
  refine (rcommit_any h).mono ?_
  rintro e w' ⟨rfl, hb⟩
  cases op
  · exact LgNext.same h hb
  · exact ⟨_, _, rfl, LgAt.nil _, fun G e => (by cases e), fun G e => (by cases e), hb⟩
theorem rnote_next {w : World} {s : M13} {vA vW : Value} (h : LgAt w s.nt vA vW) {aO : Option Addr} {nO cO : Nat} {aY : Option Addr} {nY cY : Nat} {lo ly : Int} {rO rY : Option Nat} (hm : RMem w aO nO cO aY nY cY lo ly s.wo s.wy rO rY) (a : Int) (hn : s.nt.length ≤ 100000) :
    Calls Try.prog 58 #[lgV s.op s.top vA vW, mmV lo ly aO nO cO aY nY cY, .int .i64 a] w (LgNext w (ntS s a).nt (ntS s a).op (ntS s a).top (ntE s a) vA vW) := by
  have h1 : (ntS s a).op = s.op ∧ (ntS s a).top = s.top := by
    unfold ntS
    cases ho : s.op
    · simp [ho]
    · simp only [if_true]
      split <;> simp [ho]
  rw [h1.1, h1.2]
  exact rnote_any h hm a hn
theorem ntS_eq (s : M13) (a : Int) : (⟨s.wo, s.wy, (ntS s a).op, (ntS s a).top, (ntS s a).nt⟩ : M13) = ntS s a := by
  obtain ⟨wo, wy, op, top, nt⟩ := s
  unfold ntS
  cases op
  · rfl
  · simp only [if_true]
    split <;> rfl
def KeepX (w : World) (p : Nat) (S : Nat → Prop) (w' : World) : Prop := ∀ (k : Nat) (b : Obj), w.heap[k]? = some b → ¬ S k → k ≠ p → w'.heap[k]? = some b
/-- What a cut around a call of the reference leaves: the log in a block of its own. -/
def CutL (wq : World) (nt : List (Int × Int)) (op : Bool) (top er : Int) (vA vW : Value) (sV sE : Value) (wx : World) : Prop :=
  ∃ V a3 n3 c3 a4 n4 c4, sV = .pointer (some ⟨V, 0, none⟩) ∧ sE = .int .i64 er ∧ wx.heap[V]? = some (.cells #[.bool op, .int .i64 top, .slice a3 n3 c3, .slice a4 n4 c4] 38 (0, 0)) ∧ wq.heap.size ≤ V ∧ LgAt wx nt (.slice a3 n3 c3) (.slice a4 n4 c4) ∧ (∀ G, (Value.slice a3 n3 c3).ownBlock = some G → vA.ownBlock = some G ∨ wq.heap.size ≤ G) ∧ (∀ G, (Value.slice a4 n4 c4).ownBlock = some G → vW.ownBlock = some G ∨ wq.heap.size ≤ G) ∧ Below wq.heap.size wq wx
theorem lg_ne {w : World} {nt : List (Int × Int)} {vA vW : Value} (h : LgAt w nt vA vW) {k : Nat} {cs : Array Value} {T : TypeId} (hk : w.heap[k]? = some (.cells cs T (0, 0))) (h1 : T ≠ 3) (h2 : T ≠ 43) : (∀ G, vA.ownBlock = some G → G ≠ k) ∧ ∀ G, vW.ownBlock = some G → G ≠ k := by
  constructor
  · intro G e e'
    obtain ⟨_, h3⟩ := h.at_
    rcases h3 with ⟨rfl, _⟩ | ⟨g, cap, cur, rfl, _, hh, _⟩
    · cases e
    · simp only [Value.ownBlock, Option.some.injEq] at e
      subst e e'
      rw [hh] at hk
      simp at hk
      exact h1 hk.2.symm
  · intro G e e'
    obtain ⟨_, h3⟩ := h.wd
    rcases h3 with ⟨rfl, _⟩ | ⟨g, cap, cur, rfl, _, hh, _⟩
    · cases e
    · simp only [Value.ownBlock, Option.some.injEq] at e
      subst e e'
      rw [hh] at hk
      simp at hk
      exact h2 hk.2.symm
theorem LgAt.four {w : World} {nt : List (Int × Int)} {vA vW : Value} (h : LgAt w nt vA vW) {k : Nat} {cs : Array Value} {b0 b1 b2 b3 : Value} (hk : w.heap[k]? = some (.cells cs 38 (0, 0))) : LgAt ((((w.setCell ⟨k, 0, none⟩ b0).setCell ⟨k, 1, none⟩ b1).setCell ⟨k, 2, none⟩ b2).setCell ⟨k, 3, none⟩ b3) nt vA vW :=
  h.mods four_mods (lg_ne h hk (by decide) (by decide)).1 (lg_ne h hk (by decide) (by decide)).2
theorem four_set' {w : World} {k : Nat} {T : TypeId} {a0 a1 a2 a3 b0 b1 b2 b3 : Value} (h : w.heap[k]? = some (.cells #[a0, a1, a2, a3] T (0, 0))) : ((((w.setCell ⟨k, 0, none⟩ b0).setCell ⟨k, 1, none⟩ b1).setCell ⟨k, 2, none⟩ b2).setCell ⟨k, 3, none⟩ b3).heap[k]? = some (.cells #[b0, b1, b2, b3] T (0, 0)) := block_set (block_set (block_set (block_set h)))
theorem four_cell {w : World} {k i j : Nat} {v b0 b1 b2 b3 : Value} (h : w.cell? ⟨k, i, none⟩ = some v) (hn : k ≠ j) : ((((w.setCell ⟨j, 0, none⟩ b0).setCell ⟨j, 1, none⟩ b1).setCell ⟨j, 2, none⟩ b2).setCell ⟨j, 3, none⟩ b3).cell? ⟨k, i, none⟩ = some v := set_cell_far (set_cell_far (set_cell_far (set_cell_far h hn) hn) hn) hn
theorem four_below {w W : World} {k : Nat} {b0 b1 b2 b3 : Value} (h : Below w.heap.size w W) (hk : w.heap.size ≤ k) : Below w.heap.size w ((((W.setCell ⟨k, 0, none⟩ b0).setCell ⟨k, 1, none⟩ b1).setCell ⟨k, 2, none⟩ b2).setCell ⟨k, 3, none⟩ b3) :=
  (((h.setCell (p := ⟨k, 0, none⟩) hk _).setCell (p := ⟨k, 1, none⟩) hk _).setCell (p := ⟨k, 2, none⟩) hk _).setCell (p := ⟨k, 3, none⟩) hk _
set_option maxRecDepth 100000 in
set_option maxHeartbeats 8000000 in
theorem note_x {w : World} {n0 : Dom} {p : Nat} {lo ly nn : Int} {s : M13} {bO bY bL : Nat} {aO : Option Addr} {nO cO : Nat} {aY : Option Addr} {nY cY : Nat} {vA vW : Value} {rO rY : Option Nat} {S : Nat → Prop} (a : Int) (h : W13 w n0 p lo ly s s nn bO bY bL aO nO cO aY nY cY vA vW rO rY S) (hn : s.nt.length ≤ 100000) :
    Calls Try.prog 42 #[.pointer (some ⟨p, 0, none⟩), .int .i64 a] w fun e w' => e = .returned (.bool true) ∧ WNx w n0 p lo ly (ntS s a) (ntS s a) nn w' ∧ KeepX w p S w' := by
  obtain ⟨a1, c1, eA, _⟩ := row_form1 h.lg.at_
  obtain ⟨a2, c2, eW, _⟩ := row_form1 h.lg.wd
  subst eA eW
  obtain ⟨n1, hn1⟩ : ∃ n, s.nt.length = n := ⟨_, rfl⟩
  have H1 := Lib.hid hn1
  have H1N := Lib.hid hn1
  rw [hn1] at h hn
  clear hn1
  have hS := fun W (H : Below w.heap.size w W) => note_any a (h.real.below H) (by rw [H1.out]; exact hn)
  have hq := ntS_eq s a
  have hR0 := fun W (H1 : LgAt W s.nt (.slice a1 n1 c1) (.slice a2 n1 c2)) (H2 : RMem W aO nO cO aY nY cY lo ly s.wo s.wy rO rY) => rnote_next (s := s) H1 H2 a (by rw [H1N.out]; exact hn)
  obtain ⟨er, her⟩ : ∃ x, ntE s a = x := ⟨_, rfl⟩
  obtain ⟨nt', hnt⟩ : ∃ x, (ntS s a).nt = x := ⟨_, rfl⟩
  obtain ⟨op', hop⟩ : ∃ x, (ntS s a).op = x := ⟨_, rfl⟩
  obtain ⟨top', htop⟩ : ∃ x, (ntS s a).top = x := ⟨_, rfl⟩
  rw [her] at hS
  simp only [hnt, hop, htop, her] at hR0 hq
  have HS := Lib.hid hS
  have HQ := Lib.hid hq
  have HR0 := Lib.hid hR0
  clear hS hq hR0 her hnt hop htop
  have HW := Lib.hid h
  have hsp := h.sp
  have kp := h.blk
  unfold wc13 at kp
  have p0 : w.cell? ⟨p, 0, none⟩ = some (.pointer (some ⟨bO, 0, none⟩)) := by rw [cell_of_block kp]; rfl
  have p1 : w.cell? ⟨p, 1, none⟩ = some (.pointer (some ⟨bY, 0, none⟩)) := by rw [cell_of_block kp]; rfl
  have p2 : w.cell? ⟨p, 2, none⟩ = some (.pointer (some ⟨bL, 0, none⟩)) := by rw [cell_of_block kp]; rfl
  clear h kp
  have hBd : Below w.heap.size w w.drew := (Below.refl _ _).drew
  go_enter Try.func42, Try.ntmps42
  go_wp2_with fail
  go_region_held3 (fun w' => w'.cell? ⟨p, 0, none⟩ = some (.pointer (some ⟨bO, 0, none⟩)) ∧ w'.cell? ⟨p, 1, none⟩ = some (.pointer (some ⟨bY, 0, none⟩)) ∧ w'.cell? ⟨p, 2, none⟩ = some (.pointer (some ⟨bL, 0, none⟩))) (first | (with_reducible exact ⟨p0, p1, p2⟩) | go_keep) (first | (go_at_call 15; (with_reducible refine (HS.out _ hBd).mono ?_); rintro e w2 ⟨rfl, S', r1, r2, r3⟩; have p0 := mcell r2 (show w.drew.cell? _ = _ from p0) hsp; have p1 := mcell r2 (show w.drew.cell? _ = _ from p1) hsp; have p2 := mcell r2 (show w.drew.cell? _ = _ from p2) hsp; have HR1 := Lib.hid r1; have HR3 := Lib.hid r3; clear r1 r3))
  obtain ⟨S2, h2, hM2, hMs⟩ := (HW.out.below hBd).step ⟨S', HR1.out, r2, HR3.out⟩
  have hM2 : Mods n0.D w w2 := Mods.mk hM2.os hM2.tape hM2.output hM2.size hM2.block
  have HR := Lib.hid (fun W (H : Below w2.heap.size w2 W) => HR0.out W (h2.lg.below H) (h2.rm.below H))
  unfold lgV mmV at HR
  have HW2 := Lib.hid h2
  have HM2 := Lib.hid hM2
  have hMs : Mods S w w2 := Mods.mk hMs.os hMs.tape hMs.output hMs.size hMs.block
  have HMS := Lib.hid hMs
  clear hMs
  have kp := h2.blk
  unfold wc13 at kp
  clear hM2 r2 p0 p1 p2
  have p3 : w2.cell? ⟨p, 3, none⟩ = some (.int .i64 0) := by rw [cell_of_block kp]; rfl
  have p4 : w2.cell? ⟨p, 4, none⟩ = some (.int .i64 lo) := by rw [cell_of_block kp]; rfl
  have p5 : w2.cell? ⟨p, 5, none⟩ = some (.slice aO nO cO) := by rw [cell_of_block kp]; rfl
  have p6 : w2.cell? ⟨p, 6, none⟩ = some (.int .i64 16777216) := by rw [cell_of_block kp]; rfl
  have p7 : w2.cell? ⟨p, 7, none⟩ = some (.int .i64 ly) := by rw [cell_of_block kp]; rfl
  have p8 : w2.cell? ⟨p, 8, none⟩ = some (.slice aY nY cY) := by rw [cell_of_block kp]; rfl
  have p9 : w2.cell? ⟨p, 9, none⟩ = some (.bool s.op) := by rw [cell_of_block kp]; rfl
  have p10 : w2.cell? ⟨p, 10, none⟩ = some (.int .i64 s.top) := by rw [cell_of_block kp]; rfl
  have p11 : w2.cell? ⟨p, 11, none⟩ = some (.slice a1 n1 c1) := by rw [cell_of_block kp]; rfl
  have p12 : w2.cell? ⟨p, 12, none⟩ = some (.slice a2 n1 c2) := by rw [cell_of_block kp]; rfl
  clear h2 kp
  go_wp2_with fail
  go_cut [6, 7] from 19 to 30 (fun s8 s9 wx => CutL w2 nt' op' top' er (.slice a1 n1 c1) (.slice a2 n1 c2) s8 s9 wx)
  case first =>
    have hBa : Below w2.heap.size w2 (w2.alloc (.cells #[.bool false, .int .i64 0, .slice none 0 0, .slice none 0 0] 38)).drew := by (repeat (first | exact Below.refl _ _ | assumption | refine Below.drew ?_ | refine below_drewN ?_ _ | refine balloc ?_ _ | refine Below.setCell ?_ (by first | (simp; done) | (simp; omega) | omega) _ | refine bchain (by assumption) ?_))
    have hBb : Below w2.heap.size w2 w2.drew := (Below.refl _ _).drew
    have hne_p3 : p ≠ w2.heap.size := Nat.ne_of_lt (World.block_lt_of_cell? _ _ p3)
    have hne_p4 : p ≠ w2.heap.size := Nat.ne_of_lt (World.block_lt_of_cell? _ _ p4)
    have hne_p5 : p ≠ w2.heap.size := Nat.ne_of_lt (World.block_lt_of_cell? _ _ p5)
    have hne_p6 : p ≠ w2.heap.size := Nat.ne_of_lt (World.block_lt_of_cell? _ _ p6)
    have hne_p7 : p ≠ w2.heap.size := Nat.ne_of_lt (World.block_lt_of_cell? _ _ p7)
    have hne_p8 : p ≠ w2.heap.size := Nat.ne_of_lt (World.block_lt_of_cell? _ _ p8)
    have hne_p9 : p ≠ w2.heap.size := Nat.ne_of_lt (World.block_lt_of_cell? _ _ p9)
    have hne_p10 : p ≠ w2.heap.size := Nat.ne_of_lt (World.block_lt_of_cell? _ _ p10)
    have hne_p11 : p ≠ w2.heap.size := Nat.ne_of_lt (World.block_lt_of_cell? _ _ p11)
    have hne_p12 : p ≠ w2.heap.size := Nat.ne_of_lt (World.block_lt_of_cell? _ _ p12)
    go_region_held3 (fun w' => w'.cell? ⟨p, 3, none⟩ = some (.int .i64 0) ∧ w'.cell? ⟨p, 4, none⟩ = some (.int .i64 lo) ∧ w'.cell? ⟨p, 5, none⟩ = some (.slice aO nO cO) ∧ w'.cell? ⟨p, 6, none⟩ = some (.int .i64 16777216) ∧ w'.cell? ⟨p, 7, none⟩ = some (.int .i64 ly) ∧ w'.cell? ⟨p, 8, none⟩ = some (.slice aY nY cY) ∧ w'.cell? ⟨p, 9, none⟩ = some (.bool s.op) ∧ w'.cell? ⟨p, 10, none⟩ = some (.int .i64 s.top) ∧ w'.cell? ⟨p, 11, none⟩ = some (.slice a1 n1 c1) ∧ w'.cell? ⟨p, 12, none⟩ = some (.slice a2 n1 c2)) (first | (with_reducible exact ⟨p3, p4, p5, p6, p7, p8, p9, p10, p11, p12⟩) | (with_reducible exact ⟨four_cell p3 hne_p3, four_cell p4 hne_p4, four_cell p5 hne_p5, four_cell p6 hne_p6, four_cell p7 hne_p7, four_cell p8 hne_p8, four_cell p9 hne_p9, four_cell p10 hne_p10, four_cell p11 hne_p11, four_cell p12 hne_p12⟩) | go_keep) (first | (go_at_call 58; (with_reducible refine (HR.out _ hBa).mono ?_); rintro e w6 ⟨vA', vW', rfl, hl6, g1, g2, hb6⟩; have HL6 := Lib.hid hl6; have Hg1 := Lib.hid g1; have Hg2 := Lib.hid g2; obtain ⟨a3, c3, eA, _⟩ := row_form1 hl6.at_; obtain ⟨a4, c4, eW, _⟩ := row_form1 hl6.wd; subst eA eW; clear g1 g2 hl6; unfold lgV; have p3 := bcellv hb6 (show (w2.alloc (.cells #[.bool false, .int .i64 0, .slice none 0 0, .slice none 0 0] 38)).drew.cell? _ = _ from bcellv (balloc (Below.refl _ w2) _) p3); have p4 := bcellv hb6 (show (w2.alloc (.cells #[.bool false, .int .i64 0, .slice none 0 0, .slice none 0 0] 38)).drew.cell? _ = _ from bcellv (balloc (Below.refl _ w2) _) p4); have p5 := bcellv hb6 (show (w2.alloc (.cells #[.bool false, .int .i64 0, .slice none 0 0, .slice none 0 0] 38)).drew.cell? _ = _ from bcellv (balloc (Below.refl _ w2) _) p5); have p6 := bcellv hb6 (show (w2.alloc (.cells #[.bool false, .int .i64 0, .slice none 0 0, .slice none 0 0] 38)).drew.cell? _ = _ from bcellv (balloc (Below.refl _ w2) _) p6); have p7 := bcellv hb6 (show (w2.alloc (.cells #[.bool false, .int .i64 0, .slice none 0 0, .slice none 0 0] 38)).drew.cell? _ = _ from bcellv (balloc (Below.refl _ w2) _) p7); have p8 := bcellv hb6 (show (w2.alloc (.cells #[.bool false, .int .i64 0, .slice none 0 0, .slice none 0 0] 38)).drew.cell? _ = _ from bcellv (balloc (Below.refl _ w2) _) p8); have p9 := bcellv hb6 (show (w2.alloc (.cells #[.bool false, .int .i64 0, .slice none 0 0, .slice none 0 0] 38)).drew.cell? _ = _ from bcellv (balloc (Below.refl _ w2) _) p9); have p10 := bcellv hb6 (show (w2.alloc (.cells #[.bool false, .int .i64 0, .slice none 0 0, .slice none 0 0] 38)).drew.cell? _ = _ from bcellv (balloc (Below.refl _ w2) _) p10); have p11 := bcellv hb6 (show (w2.alloc (.cells #[.bool false, .int .i64 0, .slice none 0 0, .slice none 0 0] 38)).drew.cell? _ = _ from bcellv (balloc (Below.refl _ w2) _) p11); have p12 := bcellv hb6 (show (w2.alloc (.cells #[.bool false, .int .i64 0, .slice none 0 0, .slice none 0 0] 38)).drew.cell? _ = _ from bcellv (balloc (Below.refl _ w2) _) p12); have kv := bblock hb6 (show (w2.alloc (.cells #[.bool false, .int .i64 0, .slice none 0 0, .slice none 0 0] 38)).drew.heap[_]? = _ from alloc_get w2 _); have kv_f : ∀ i, w6.frozen? ⟨w2.heap.size, i, none⟩ = false := frozen_of_block kv; have hzv : w2.heap.size < w6.heap.size := (Array.getElem?_eq_some_iff.1 kv).1; have kv_0 : w6.cell? ⟨w2.heap.size, 0, none⟩ = some (.bool false) := (by rw [cell_of_block kv]; rfl); have kv_1 : w6.cell? ⟨w2.heap.size, 1, none⟩ = some (.int .i64 0) := (by rw [cell_of_block kv]; rfl); have kv_2 : w6.cell? ⟨w2.heap.size, 2, none⟩ = some (.slice none 0 0) := (by rw [cell_of_block kv]; rfl); have kv_3 : w6.cell? ⟨w2.heap.size, 3, none⟩ = some (.slice none 0 0) := (by rw [cell_of_block kv]; rfl)) | (go_at_call 58; (with_reducible refine (HR.out _ hBb).mono ?_); rintro e w6 ⟨vA', vW', rfl, hl6, g1, g2, hb6⟩; have HL6 := Lib.hid hl6; have Hg1 := Lib.hid g1; have Hg2 := Lib.hid g2; obtain ⟨a3, c3, eA, _⟩ := row_form1 hl6.at_; obtain ⟨a4, c4, eW, _⟩ := row_form1 hl6.wd; subst eA eW; clear g1 g2 hl6; unfold lgV; have p3 := bcellv hb6 (show w2.drew.cell? _ = _ from p3); have p4 := bcellv hb6 (show w2.drew.cell? _ = _ from p4); have p5 := bcellv hb6 (show w2.drew.cell? _ = _ from p5); have p6 := bcellv hb6 (show w2.drew.cell? _ = _ from p6); have p7 := bcellv hb6 (show w2.drew.cell? _ = _ from p7); have p8 := bcellv hb6 (show w2.drew.cell? _ = _ from p8); have p9 := bcellv hb6 (show w2.drew.cell? _ = _ from p9); have p10 := bcellv hb6 (show w2.drew.cell? _ = _ from p10); have p11 := bcellv hb6 (show w2.drew.cell? _ = _ from p11); have p12 := bcellv hb6 (show w2.drew.cell? _ = _ from p12)))
    all_goals (try go_wp2_with fail)
    all_goals go_meet
    · exact ⟨w6.heap.size, _, _, _, _, _, _, rfl, rfl, alloc_get _ _, (bchain hb6 hBb).size, HL6.out.below (balloc (Below.refl _ _) _), Hg1.out, Hg2.out, balloc (bchain hb6 hBb) _⟩
    · exact ⟨w2.heap.size, _, _, _, _, _, _, rfl, rfl, four_set' kv, Nat.le_refl _, HL6.out.four kv, fun G e => (Hg1.out G e).imp id (fun h => Nat.le_trans hBa.size h), fun G e => (Hg2.out G e).imp id (fun h => Nat.le_trans hBa.size h), four_below (bchain hb6 hBa) (Nat.le_refl _)⟩
  case rest =>
    obtain ⟨V, a3, n3, c3, a4, n4, c4, rfl, rfl, kV, hV, hl2, g1, g2, hbc⟩ := hcut
    have HG1 := Lib.hid g1
    have HG2 := Lib.hid g2
    have HL2 := Lib.hid hl2
    clear g1 g2 hl2
    have kp := bblock hbc HW2.out.blk
    unfold wc13 at kp
    have hVp : V ≠ p := by have := HW2.out.plt; omega
    have hzV : V < wc.heap.size := (Array.getElem?_eq_some_iff.1 kV).1
    have hfin := HW2.out.ref (t' := ⟨s.wo, s.wy, op', top', nt'⟩) (nn' := nn) hbc HL2.out (HW2.out.rm.below hbc) (fun k hk => by
      rcases hk with e | e | e | e
      · exact .inl (.inl e)
      · exact .inl (.inr (.inl e))
      · exact (HG1.out k e).imp (fun h => .inr (.inr (.inl h))) id
      · exact (HG2.out k e).imp (fun h => .inr (.inr (.inr h))) id) four_offm (four_off kp)
    have HF := Lib.hid hfin
    have pf : ∀ i, wc.frozen? ⟨p, i, none⟩ = false := frozen_of_block kp
    have v0 : wc.cell? ⟨V, 0, none⟩ = some (.bool op') := by rw [cell_of_block kV]; rfl
    have v1 : wc.cell? ⟨V, 1, none⟩ = some (.int .i64 top') := by rw [cell_of_block kV]; rfl
    have v2 : wc.cell? ⟨V, 2, none⟩ = some (.slice a3 n3 c3) := by rw [cell_of_block kV]; rfl
    have v3 : wc.cell? ⟨V, 3, none⟩ = some (.slice a4 n4 c4) := by rw [cell_of_block kV]; rfl
    have d9 : wc.cell? ⟨p, 9, none⟩ = some (.bool s.op) := by rw [cell_of_block kp]; rfl
    have d10 : wc.cell? ⟨p, 10, none⟩ = some (.int .i64 s.top) := by rw [cell_of_block kp]; rfl
    have d11 : wc.cell? ⟨p, 11, none⟩ = some (.slice a1 n1 c1) := by rw [cell_of_block kp]; rfl
    have d12 : wc.cell? ⟨p, 12, none⟩ = some (.slice a2 n1 c2) := by rw [cell_of_block kp]; rfl
    clear hfin kp kV
    go_wp2
    go_ret
    have hww := HF.out.1.ww
    rw [HQ.out] at hww
    exact ⟨by simp, ⟨hww, HM2.out.ge HF.out.2⟩, fun k b hb hs hp => mblock four_offm (bblock hbc (mblock HMS.out hb hs)) hp⟩
theorem note_w {w : World} {n0 : Dom} {p : Nat} {lo ly nn : Int} {s : M13} (a : Int) (h : WW w n0 p lo ly s s nn) (hn : s.nt.length ≤ 100000) :
    Calls Try.prog 42 #[.pointer (some ⟨p, 0, none⟩), .int .i64 a] w fun e w' => e = .returned (.bool true) ∧ WNx w n0 p lo ly (ntS s a) (ntS s a) nn w' := by
  obtain ⟨bO, bY, bL, aO, nO, cO, aY, nY, cY, vA, vW, rO, rY, S, h⟩ := h
  exact (note_x a h hn).mono (fun e w' h => ⟨h.1, h.2.1⟩)
end Go.Proofs.Ytgipmcmmicppkaa
