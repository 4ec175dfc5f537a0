/-
  law 13: Note.
-/
import Derived.Test.YtgipmcmmicppkaaUnB
namespace Go.Proofs.Ytgipmcmmicppkaa
open Go.RowKit
set_option linter.unusedSimpArgs false
set_option linter.unusedVariables false

theorem grown_mods {w w' : World} {row : Option Nat} (h : w.grownBy w' row) : Mods (fun k => row = some k) w w' := ⟨h.os, h.tape, h.output, h.size, fun k hk hn => h.block k hk (fun e => hn e.symm)⟩
theorem nt_fin {w W w4 : World} {bO bY bL : Nat} {lo ly top : Int} {wo wy : List Int} {nt : List (Int × Int)} {lv v' : Value} {gO gY : Option Nat} {S : Nat → Prop} {a u : Int} (hb : Below w.heap.size w W) (hR : RealAt W bO bY bL lo ly ⟨wo, wy, true, top, nt⟩ lv gO gY) (hu : U64 u)
    (ho : w4.ownsRow 0 80 2 v' (nt.length + 1) (nt.flatMap ntCells ++ ntCells (a, u))) (hg : W.grownBy w4 lv.ownBlock) (hv : v'.ownBlock = lv.ownBlock ∨ v'.ownBlock = some W.heap.size) (hS : ∀ k, S k ↔ RS bO bY bL lv gO gY k) :
    RNx w bO bY bL lo ly ⟨wo, wy, true, top, nt ++ [(a, u)]⟩ S (w4.setCell ⟨bL, 2, none⟩ v') := by
  have hM1 := grown_mods hg
  have hlt := hR.lt
  have hm4 := hR.mem.mods hM1 (fun k hk e => (hR.ln k e).1 hk)
  have hl4 := mblock hM1 hR.log (fun e => (hR.ln bL e).2 rfl)
  have hM2 : Mods (fun k => k = bL) w4 (w4.setCell ⟨bL, 2, none⟩ v') := (Mods.refl (fun k => k = bL) w4 : Mods (fun k => k = bL) w4 w4).setCell (p := ⟨bL, 2, none⟩) (.inl (by rfl)) _
  have hm5 := hm4.mods hM2 (fun k hk e => hR.lm (by rw [e] at hk; exact hk))
  have hvb : v'.ownBlock ≠ some bL := fun e => by
    rcases hv with h | h
    · exact (hR.ln bL (h.symm.trans e)).2 rfl
    · rw [h] at e
      have := hlt bL (.inr (.inl rfl))
      simp at e
      omega
  have hfr := hR.mem.fresh
  refine ⟨RS bO bY bL v' gO gY, RealW.toS ⟨hm5, block_set hl4, ?_, fun x hx => ?_, hR.lm, fun G e => ⟨fun hk => ?_, fun e' => hvb (by rw [e, e'])⟩⟩, ?_, fun k hk => ?_⟩
  · refine nrow_keep (by simpa [List.flatMap_append] using ho) fun G o e h => ?_
    exact set_other h (fun e' => hvb (by rw [e, e']))
  · rcases List.mem_append.1 hx with hx | hx
    · exact hR.wf x hx
    · rw [List.mem_singleton.1 hx]; exact hu
  · rcases hv with h | h
    · exact (hR.ln G (h.symm.trans e)).1 hk
    · rw [h] at e
      simp at e
      exact hfr G (by omega) hk
  · refine Mods.mono (S := RS bO bY bL lv gO gY) ?_ (fun k hk => (hS k).2 hk)
    exact ((Mods.of_below (S := RS bO bY bL lv gO gY) hb).trans hM1 (fun i hi => .inl (.inr (.inr hi)))).trans hM2 (fun i hi => .inl (.inr (.inl hi)))
  · rcases hk with hk | hk | hk
    · exact .inl ((hS k).2 (.inl hk))
    · exact .inl ((hS k).2 (.inr (.inl hk)))
    · rcases hv with h | h
      · exact .inl ((hS k).2 (.inr (.inr (h.symm.trans hk))))
      · rw [h] at hk
        simp at hk
        have := hb.size
        exact .inr (by omega)
theorem row_form2 {w : World} {e : TypeId} {v : Value} {n : Nat} {xs : List Value} (h : w.ownsRow 0 e 2 v n xs) : ∃ a c, v = .slice a n c := by
  obtain ⟨_, h2⟩ := h
  rcases h2 with ⟨rfl, h0⟩ | ⟨g, cap, cur, rfl, _⟩
  · rw [h0]; exact ⟨_, _, rfl⟩
  · exact ⟨_, _, rfl⟩
set_option maxRecDepth 100000 in
set_option maxHeartbeats 4000000 in
theorem note_no {w : World} {bO bY bL : Nat} {lo ly : Int} {s : M13} {S : Nat → Prop} (a : Int) (h : RealW w bO bY bL lo ly s S) (ho : s.op = false) :
    Calls Try.prog 15 #[.pointer (some ⟨bL, 0, none⟩), .agg #[.pointer (some ⟨bO, 0, none⟩), .pointer (some ⟨bY, 0, none⟩)], .int .i64 a] w fun e w' => e = .returned (.int .i64 9) ∧ RNx w bO bY bL lo ly s S w' := by
  have HW := Lib.hid h
  obtain ⟨lv, gO, gY, hR, hS⟩ := h
  obtain ⟨wo, wy, op, top, nt⟩ := s
  dsimp only at ho
  subst ho
  have hl := hR.log
  dsimp only at hl
  clear hR hS
  have hb1 : Below w.heap.size w (w.alloc (.cells #[.pointer (some ⟨bO, 0, none⟩), .pointer (some ⟨bY, 0, none⟩)] 30)) := by (repeat (first | exact Below.refl _ _ | assumption | refine Below.drew ?_ | refine below_drewN ?_ _ | refine balloc ?_ _ | refine Below.setCell ?_ (by first | (simp; done) | (simp; omega) | omega) _ | refine bchain (by assumption) ?_))
  have q0 : (w.alloc (.cells #[.pointer (some ⟨bO, 0, none⟩), .pointer (some ⟨bY, 0, none⟩)] 30)).cell? ⟨bL, 0, none⟩ = some (.bool false) := by rw [cell_of_block (bblock hb1 hl)]; rfl
  have HF := Lib.hid (RNx.of_below HW.out hb1)
  clear hl hb1
  go_enter Try.func15, Try.ntmps15
  go_wp2
  go_ret
  exact ⟨rfl, HF.out⟩
set_option maxRecDepth 100000 in
set_option maxHeartbeats 4000000 in
theorem note_yes {w : World} {bO bY bL : Nat} {lo ly : Int} {s : M13} {S : Nat → Prop} (a : Int) (h : RealW w bO bY bL lo ly s S) (ho : s.op = true) (hn : s.nt.length ≤ 100000) :
    Calls Try.prog 15 #[.pointer (some ⟨bL, 0, none⟩), .agg #[.pointer (some ⟨bO, 0, none⟩), .pointer (some ⟨bY, 0, none⟩)], .int .i64 a] w fun e w' => e = .returned (.int .i64 (LE s.wo s.wy a)) ∧ RNx w bO bY bL lo ly (if LE s.wo s.wy a = 0 then ⟨s.wo, s.wy, true, s.top, s.nt ++ [(a, LD s.wo s.wy a)]⟩ else s) S w' := by
  obtain ⟨i0, hi, hz0, hz1, hz2⟩ := info_parts nt_info
  have hml : maxLen = 9223372036854775807 := rfl
  have HW := Lib.hid h
  obtain ⟨lv, gO, gY, hR, hS⟩ := h
  obtain ⟨wo, wy, op, top, nt⟩ := s
  dsimp only at ho hn ⊢
  subst ho
  have hl := hR.log
  dsimp only at hl
  obtain ⟨an, cn, hlv, hn1, hn2⟩ := nt_form hR
  dsimp only at hlv hn1
  subst hlv
  have hb1 : Below w.heap.size w (w.alloc (.cells #[.pointer (some ⟨bO, 0, none⟩), .pointer (some ⟨bY, 0, none⟩)] 30)) := by (repeat (first | exact Below.refl _ _ | assumption | refine Below.drew ?_ | refine below_drewN ?_ _ | refine balloc ?_ _ | refine Below.setCell ?_ (by first | (simp; done) | (simp; omega) | omega) _ | refine bchain (by assumption) ?_))
  have k0 : (w.alloc (.cells #[.pointer (some ⟨bO, 0, none⟩), .pointer (some ⟨bY, 0, none⟩)] 30)).heap[w.heap.size]? = some (.cells #[.pointer (some ⟨bO, 0, none⟩), .pointer (some ⟨bY, 0, none⟩)] 30 (0, 0)) := alloc_get _ _
  have hl1 := bblock hb1 hl
  have q0 : (w.alloc (.cells #[.pointer (some ⟨bO, 0, none⟩), .pointer (some ⟨bY, 0, none⟩)] 30)).cell? ⟨bL, 0, none⟩ = some (.bool true) := by rw [cell_of_block hl1]; rfl
  have q1 : (w.alloc (.cells #[.pointer (some ⟨bO, 0, none⟩), .pointer (some ⟨bY, 0, none⟩)] 30)).cell? ⟨w.heap.size, 0, none⟩ = some (.pointer (some ⟨bO, 0, none⟩)) := by rw [cell_of_block k0]; rfl
  have q2 : (w.alloc (.cells #[.pointer (some ⟨bO, 0, none⟩), .pointer (some ⟨bY, 0, none⟩)] 30)).cell? ⟨w.heap.size, 1, none⟩ = some (.pointer (some ⟨bY, 0, none⟩)) := by rw [cell_of_block k0]; rfl
  have HLD := Lib.hid (fun W (H : Below w.heap.size w W) => mload_any (hR.mem.below H) a)
  dsimp only at HLD
  have HU := Lib.hid (hR.mem.ldU a)
  dsimp only at HU
  have HR := Lib.hid hR
  have HS := Lib.hid hS
  have HL1 := Lib.hid hl1
  clear hR hS k0 hl hl1
  obtain ⟨le, hle⟩ : ∃ e, LE wo wy a = e := ⟨_, rfl⟩
  obtain ⟨ld, hld⟩ : ∃ e, LD wo wy a = e := ⟨_, rfl⟩
  rw [hle, hld]
  rw [hle, hld] at HLD
  rw [hld] at HU
  clear hle hld
  go_enter Try.func15, Try.ntmps15
  go_wp2_with fail
  refine (HLD.out _ (by (repeat (first | exact Below.refl _ _ | assumption | refine Below.drew ?_ | refine below_drewN ?_ _ | refine balloc ?_ _ | refine Below.setCell ?_ (by first | (simp; done) | (simp; omega) | omega) _ | refine bchain (by assumption) ?_)))).mono ?_
  rintro e w2 ⟨rfl, hb2⟩
  have hb02 := bchain hb2 hb1
  by_cases h0 : le = 0
  · subst h0
    have hR2 := HR.out.below hb02
    have hl2 := bblock hb2 HL1.out
    have c2 : w2.cell? ⟨bL, 2, none⟩ = some (.slice an nt.length cn) := by rw [cell_of_block hl2]; rfl
    have hb3 : Below w2.heap.size w2 (w2.alloc (.cells #[.int .i64 a, .int .u64 ld] 80)) := balloc (Below.refl _ _) _
    have hR3 := hR2.below hb3
    have hown3 := hR3.nts
    have hl3 := bblock hb3 hl2
    have hnews : NewsAt (w2.alloc (.cells #[.int .i64 a, .int .u64 ld] 80)) (some ⟨w2.heap.size, 0, none⟩) 1 1 (ntCells (a, ld)) := .inr ⟨_, rfl, fun j u hj => by
      rw [Addr.add_lit, cell_of_block (alloc_get _ _)]
      simpa [ntCells] using hj⟩
    have HFIN := Lib.hid (fun (W4 : World) (v' : Value) (H1 : W4.ownsRow 0 80 2 v' (nt.length + 1) (nt.flatMap ntCells ++ ntCells (a, ld))) H2 H3 => nt_fin (bchain hb3 hb02) hR3 HU.out H1 H2 H3 HS.out)
    have hbl : bL < (w2.alloc (.cells #[.int .i64 a, .int .u64 ld] 80)).heap.size := hR3.lt bL (.inr (.inl rfl))
    have hne : some bL ≠ (Value.slice an nt.length cn).ownBlock := fun e => (hR3.ln bL e.symm).2 rfl
    have HOWN := Lib.hid hown3
    have HNW := Lib.hid hnews
    have HL3 := Lib.hid hl3
    have HNE := Lib.hid hne
    have HBL := Lib.hid hbl
    dsimp only at HOWN
    clear hR2 hR3 hown3 hnews hl2 hl3 hne hbl
    obtain ⟨nn, hnn⟩ : ∃ n, nt.length = n := ⟨_, rfl⟩
    have HNN := Lib.hid hnn
    rw [hnn] at hn hn1 HFIN HOWN HNE c2 HL3
    clear hnn
    generalize nt.flatMap ntCells = xs at *
    go_wp2_with (at_builtin; refine wpList_append_news rfl _ _ 75 rfl 0 80 i0 _ 2 16 Try.underlying75 hi hz0 hz1 hz2 rfl (by decide) _ nn xs rfl HOWN.out _ 1 1 (ntCells (a, ld)) rfl rfl HNW.out (by intro u hu; simp [ntCells] at hu; rcases hu with rfl | rfl <;> rfl) (by omega) (by omega) (Nat.zero_le _) ?_; intro v' w4 hown4 hg4 hv4; have hl4 := (hg4.block bL HBL.out HNE.out).trans HL3.out; have c4 : w4.cell? ⟨bL, 2, none⟩ = some (.slice an nn cn) := (by rw [cell_of_block hl4]; rfl); have qf : ∀ i, w4.frozen? ⟨bL, i, none⟩ = false := frozen_of_block hl4; obtain ⟨a9, c9, e9⟩ := row_form2 hown4; subst e9)
    have HF := Lib.hid (HFIN.out _ _ hown4 hg4 hv4)
    clear hown4 hg4 hv4 hl4
    go_wp2
    go_ret
    exact ⟨rfl, by first | exact HF.out | (rw [if_pos rfl]; exact HF.out)⟩
  · have hle : (le != 0) = true := by simp [h0]
    have HF := Lib.hid (RNx.of_below HW.out hb02)
    go_wp2
    go_ret
    exact ⟨rfl, by first | exact HF.out | (rw [if_neg h0]; exact HF.out)⟩
theorem note_any {w : World} {bO bY bL : Nat} {lo ly : Int} {s : M13} {S : Nat → Prop} (a : Int) (h : RealW w bO bY bL lo ly s S) (hn : s.nt.length ≤ 100000) :
    Calls Try.prog 15 #[.pointer (some ⟨bL, 0, none⟩), .agg #[.pointer (some ⟨bO, 0, none⟩), .pointer (some ⟨bY, 0, none⟩)], .int .i64 a] w fun e w' => e = .returned (.int .i64 (ntE s a)) ∧ RNx w bO bY bL lo ly (ntS s a) S w' := by
  cases ho : s.op
  · have e1 : ntE s a = 9 := by unfold ntE; rw [ho]; rfl
    have e2 : ntS s a = s := by unfold ntS; rw [ho]; rfl
    rw [e1, e2]
    exact note_no a h ho
  · have e1 : ntE s a = LE s.wo s.wy a := by unfold ntE; rw [ho]; rfl
    have e2 : ntS s a = if LE s.wo s.wy a = 0 then ⟨s.wo, s.wy, true, s.top, s.nt ++ [(a, LD s.wo s.wy a)]⟩ else s := by unfold ntS; rw [ho]; rfl
    rw [e1, e2]
    exact note_yes a h ho hn
end Go.Proofs.Ytgipmcmmicppkaa
