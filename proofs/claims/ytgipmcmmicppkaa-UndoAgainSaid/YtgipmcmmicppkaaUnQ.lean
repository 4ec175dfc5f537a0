/-
  law 13: the example of the chapter.
-/
import Derived.Test.YtgipmcmmicppkaaUnG
import Derived.Test.YtgipmcmmicppkaaUnP
import Derived.Deep.CutRange
namespace Go.Proofs.Ytgipmcmmicppkaa
open Go.RowKit
set_option linter.unusedSimpArgs false
set_option linter.unusedVariables false

theorem Trn.turn {wo0 wy0 : List Int} {lo ly : Int} : ∀ (l : List Op13) (x : M13 × Int), Trn wo0 wy0 x.1 → Trn wo0 wy0 (tnR lo ly x l).1 := by
  intro l
  induction l with
  | nil => intro x h; exact h
  | cons o l ih =>
    intro x h
    refine ih (tnS lo ly x o) ?_
    unfold tnS
    split
    · rename_i hk
      rcases hk with hk | hk
      · rw [hk]
        exact h.alloc ly 0 1 (o.nf.tmod 6) 1 (x.2 + 1)
      · rw [hk]
        exact h.note _ o.u
    · exact h
theorem sound_N : Sound N13 := by
  have := (sound_alloc (ws := []) (k := 0) (c := 1) (f := 2) (m := 1) (s := 2) (by decide) (by decide) sound_nil).1
  rwa [List.nil_append] at this
def a1 : M13 := sfS s13 0 0 21
def a2 : M13 := bgS a1
def a3 : M13 := ntS a2 2
def a4 : M13 := stS a3 2 37
def a5 : M13 := ntS a4 2
def a6 : M13 := stS a5 2 53
def a7 : M13 := alS L13 Y13 true a6 0 9
def a8 : M13 := ⟨a1.wo, a1.wy, false, 0, []⟩
theorem q1 : sfE s13.wo s13.wy 0 0 = 0 := by decide +kernel
theorem q2 : bgE a1 = 0 := by decide +kernel
theorem q3 : ntE a2 2 = 0 := by decide +kernel
theorem q4 : LE a3.wo a3.wy 2 = 0 := by decide +kernel
theorem q5 : ntE a4 2 = 0 := by decide +kernel
theorem q6 : LE a5.wo a5.wy 2 = 0 := by decide +kernel
theorem q7 : amE L13 Y13 a6.wo a6.wy true 0 1 0 1 9 = 0 := by decide +kernel
theorem q8 : (a7.nt.length : Int) = 2 := by decide +kernel
theorem q9 : a1.wy = N13 := by decide +kernel
theorem q10 : FV a8.wo a8.wy 0 0 = 21 ∧ FE a8.wo a8.wy 0 0 = 0 := by decide +kernel
theorem Trn.al {wo0 wy0 : List Int} {s : M13} (h : Trn wo0 wy0 s) (lo ly f i : Int) : Trn wo0 wy0 (alS lo ly true s f i) := h.alloc ly 0 1 f 1 i
theorem Trn.ns {wo0 wy0 : List Int} {s : M13} (h : Trn wo0 wy0 s) (a u : Int) : Trn wo0 wy0 (stS (ntS s a) a u) := h.note a u
theorem trn_a : Trn a1.wo a1.wy a7 := by
  have h2 : Trn a1.wo a1.wy a2 := Trn.begin (s := a1) rfl (by rw [q9]; exact sound_N)
  have h4 : Trn a1.wo a1.wy a4 := h2.ns 2 37
  have h6 : Trn a1.wo a1.wy a6 := h4.ns 2 53
  exact h6.al L13 Y13 0 9
theorem q11 : rlE a7 = 0 ∧ rlS a7 = a8 := by
  unfold a8
  exact trn_a.back
set_option maxRecDepth 100000 in
set_option maxHeartbeats 4000000 in
theorem awake_any (w : World) : Calls Try.prog 10 #[] w fun e w' => e = .returned (.bool true) ∧ Below w.heap.size w w' := by
  obtain ⟨D, hD⟩ : ∃ D : Nat → Prop, D = fun k => w.heap.size ≤ k := ⟨_, rfl⟩
  have hO := open_any w
  rw [← hD] at hO
  have HD := Lib.hid hD
  clear hD
  have C1 := fun (W : World) (D : Nat → Prop) (p : Nat) (P : P13) (H : Wx W D p L13 Y13 s13 s13 2 P) => H.setf 0 0 21 (U64.of (by omega) (by omega))
  rw [q1] at C1
  have C2 := fun (W : World) (D : Nat → Prop) (p : Nat) (P : P13) (H : Wx W D p L13 Y13 a1 s13 2 P) => H.begin
  rw [q2] at C2
  have C3 := fun (W : World) (D : Nat → Prop) (p : Nat) (P : P13) (H : Wx W D p L13 Y13 a2 s13 2 P) => H.note 2 (by decide)
  rw [q3] at C3
  have C4 := fun (W : World) (D : Nat → Prop) (p : Nat) (P : P13) (H : Wx W D p L13 Y13 a3 s13 2 P) => H.store 2 37 (U64.of (by omega) (by omega))
  rw [q4] at C4
  have C5 := fun (W : World) (D : Nat → Prop) (p : Nat) (P : P13) (H : Wx W D p L13 Y13 a4 s13 2 P) => H.note 2 (by decide)
  rw [q5] at C5
  have C6 := fun (W : World) (D : Nat → Prop) (p : Nat) (P : P13) (H : Wx W D p L13 Y13 a5 s13 2 P) => H.store 2 53 (U64.of (by omega) (by omega))
  rw [q6] at C6
  have C7 := fun (W : World) (D : Nat → Prop) (p : Nat) (P : P13) (H : Wx W D p L13 Y13 a6 s13 2 P) => H.yalloc 0 9
  rw [q7] at C7
  have C8 := fun (W : World) (D : Nat → Prop) (p : Nat) (P : P13) (H : Wx W D p L13 Y13 a7 s13 2 P) => H.len
  rw [q8] at C8
  have C9 := fun (W : World) (D : Nat → Prop) (p : Nat) (P : P13) (H : Wx W D p L13 Y13 a7 s13 2 P) => H.rollback (by decide)
  rw [q11.1, q11.2] at C9
  have C10 := fun (W : World) (D : Nat → Prop) (p : Nat) (P : P13) (H : Wx W D p L13 Y13 a8 s13 2 P) => H.field 0 0
  rw [q10.1, q10.2] at C10
  have C11 := fun (W : World) (D : Nat → Prop) (p : Nat) (P : P13) (H : Wx W D p L13 Y13 a8 s13 2 P) => H.ytop
  have C12 := fun (W : World) (D : Nat → Prop) (p : Nat) (P : P13) (H : Wx W D p L13 Y13 a8 s13 2 P) => H.open
  have C13 := fun (W : World) (D : Nat → Prop) (p : Nat) (P : P13) (H : Wx W D p L13 Y13 a2 s13 2 P) => H.ytop
  rw [show (a2.wy.length : Int) = 4 by decide] at C13
  rw [show (a8.wy.length : Int) = 4 by decide] at C11
  rw [show a8.op = false by decide] at C12
  change ∀ W D p P, Wx W D p L13 Y13 s13 s13 2 P → Calls _ _ _ _ (fun e w' => _ ∧ WXn W D p L13 Y13 a1 s13 2 P w') at C1
  change ∀ W D p P, Wx W D p L13 Y13 a1 s13 2 P → Calls _ _ _ _ (fun e w' => _ ∧ WXn W D p L13 Y13 a2 s13 2 P w') at C2
  change ∀ W D p P, Wx W D p L13 Y13 a2 s13 2 P → Calls _ _ _ _ (fun e w' => _ ∧ WXn W D p L13 Y13 a3 s13 2 P w') at C3
  change ∀ W D p P, Wx W D p L13 Y13 a3 s13 2 P → Calls _ _ _ _ (fun e w' => _ ∧ WXn W D p L13 Y13 a4 s13 2 P w') at C4
  change ∀ W D p P, Wx W D p L13 Y13 a4 s13 2 P → Calls _ _ _ _ (fun e w' => _ ∧ WXn W D p L13 Y13 a5 s13 2 P w') at C5
  change ∀ W D p P, Wx W D p L13 Y13 a5 s13 2 P → Calls _ _ _ _ (fun e w' => _ ∧ WXn W D p L13 Y13 a6 s13 2 P w') at C6
  change ∀ W D p P, Wx W D p L13 Y13 a6 s13 2 P → Calls _ _ _ _ (fun e w' => _ ∧ WXn W D p L13 Y13 a7 s13 2 P w') at C7
  generalize amA L13 Y13 a6.wo a6.wy true 0 1 0 1 9 = ra at C7
  have D1 := Lib.hid C1
  have D2 := Lib.hid C2
  have D3 := Lib.hid C3
  have D4 := Lib.hid C4
  have D5 := Lib.hid C5
  have D6 := Lib.hid C6
  have D7 := Lib.hid C7
  have D8 := Lib.hid C8
  have D9 := Lib.hid C9
  have D10 := Lib.hid C10
  have D11 := Lib.hid C11
  have D12 := Lib.hid C12
  have D13 := Lib.hid C13
  clear C1 C2 C3 C4 C5 C6 C7 C8 C9 C10 C11 C12 C13
  generalize a1 = x1 at *
  generalize a2 = x2 at *
  generalize a3 = x3 at *
  generalize a4 = x4 at *
  generalize a5 = x5 at *
  generalize a6 = x6 at *
  generalize a7 = x7 at *
  generalize a8 = x8 at *
  generalize L13 = lo at *
  generalize Y13 = ly at *
  go_enter Try.func10, Try.ntmps10
  go_wp2_with fail
  refine hO.mono ?_
  rintro e w1 ⟨p, rfl, hw, hb1⟩
  clear hO
  obtain ⟨P, hx1, _⟩ := hw.wx
  have h1 := Lib.hid hx1
  have p0 := hx1.c0
  have p1 := hx1.c1
  have p2 := hx1.c2
  have HB1 := Lib.hid hb1
  have hd1 : Below w1.heap.size w1 w1.drew := (Below.refl _ _).drew
  have HD1 := Lib.hid hd1
  have hpz := hx1.plt
  clear hw hx1 hd1 hb1
  go_wp2_with fail
  go_region_held3 (fun w' => w'.cell? ⟨p, 0, none⟩ = some (.pointer (some ⟨P.bO, 0, none⟩)) ∧ w'.cell? ⟨p, 1, none⟩ = some (.pointer (some ⟨P.bY, 0, none⟩)) ∧ w'.cell? ⟨p, 2, none⟩ = some (.pointer (some ⟨P.bL, 0, none⟩))) (first | (with_reducible exact ⟨p0, p1, p2⟩) | go_keep) (first | (go_at_call 20; (with_reducible refine (D1.out _ _ p P (h1.out.below HD1.out)).mono ?_); rintro e w2 ⟨rfl, r2⟩; have p0 := r2.wx.c0; have p1 := r2.wx.c1; have p2 := r2.wx.c2; have h2 := Lib.hid r2; clear r2) | (go_at_call 12; (with_reducible refine (D2.out _ _ p P h2.out.wx).mono ?_); rintro e w3 ⟨rfl, r3⟩; have p0 := r3.wx.c0; have p1 := r3.wx.c1; have p2 := r3.wx.c2; have h3 := Lib.hid r3; clear r3))
  all_goals (try go_wp2_with fail)
  refine (D13.out _ _ p P h3.out.wx).mono ?_
  rintro e w4 ⟨rfl, hb4⟩
  have hx4 := h3.out.wx.below hb4
  have h4 := Lib.hid hx4
  have hM4 : Mods D w1 w4 := ((Mods.of_below (S := D) HD1.out).trans h2.out.md (fun i hi => .inl hi)).trans (h3.out.md.trans (Mods.of_below (S := D) hb4) (fun i hi => .inl hi)) (fun i hi => .inl hi)
  have HM4 := Lib.hid hM4
  clear hx4 hM4 hb4 p0 p1 p2
  go_wp2_with fail
  have kb := alloc_get w4 (.cells #[.int .u64 37, .int .u64 53] 43 (0, 0))
  obtain ⟨B, hB⟩ : ∃ B, w4.heap.size = B := ⟨_, rfl⟩
  have hb5 := balloc (Below.refl _ w4) (.cells #[.int .u64 37, .int .u64 53] 43)
  have hx5 := h4.out.redom hb5 (D' := fun k => D k ∧ k ≠ B) ⟨h4.out.pd, (by have := h4.out.plt; omega)⟩ (fun k hk hl => ⟨hk, by omega⟩) (fun k hk => ⟨h4.out.dom k (by simp at hk; omega), by simp at hk; omega⟩)
  have hM5 : Mods D w1 (w4.alloc (.cells #[.int .u64 37, .int .u64 53] 43)) := HM4.out.alloc _
  obtain ⟨w5, hw5⟩ : ∃ W, (w4.alloc (.cells #[.int .u64 37, .int .u64 53] 43)) = W := ⟨_, rfl⟩
  rw [hw5, hB] at kb
  rw [hw5] at hx5 hM5 ⊢
  rw [hB]
  have h5 := Lib.hid hx5
  have HM5 := Lib.hid hM5
  clear hw5 hB hx5 hM5 hb5
  go_loopw [44] (fun q wr => ∃ x : M13, Wx wr (fun k => D k ∧ k ≠ B) p lo ly x s13 2 P ∧ Mods D w1 wr ∧ wr.heap[B]? = some (.cells #[.int .u64 37, .int .u64 53] 43 (0, 0)) ∧ ((q = .int .i64 0 ∧ x = x2) ∨ (q = .int .i64 1 ∧ x = x4) ∨ (q = .int .i64 2 ∧ x = x6))) (fun q _ => 2 - (intOf q).toNat)
  case atStart => exact ⟨x2, h5.out, HM5.out, kb, .inl ⟨rfl, rfl⟩⟩
  case round =>
    clear kb h5 HM5
    obtain ⟨x, hxr, hMr, kb, hq⟩ := hrel
    rcases hq with ⟨rfl, rfl⟩ | ⟨rfl, rfl⟩ | ⟨rfl, rfl⟩
    · have p0 := hxr.c0
      have p1 := hxr.c1
      have p2 := hxr.c2
      have hpz := hxr.plt
      have hr := Lib.hid hxr
      have HMr := Lib.hid hMr
      have KB := Lib.hid kb
      have hd : Below wr.heap.size wr wr.drew := (Below.refl _ _).drew
      have HDr := Lib.hid hd
      have b0 : wr.cell? ⟨B, 0, none⟩ = some (.int .u64 37) := by rw [cell_of_block kb]; rfl
      have b1 : wr.cell? ⟨B, 1, none⟩ = some (.int .u64 53) := by rw [cell_of_block kb]; rfl
      clear hxr hMr hd kb
      go_wp2_with fail
      go_region_held3 (fun w' => w'.cell? ⟨p, 0, none⟩ = some (.pointer (some ⟨P.bO, 0, none⟩)) ∧ w'.cell? ⟨p, 1, none⟩ = some (.pointer (some ⟨P.bY, 0, none⟩)) ∧ w'.cell? ⟨p, 2, none⟩ = some (.pointer (some ⟨P.bL, 0, none⟩))) (first | (with_reducible exact ⟨p0, p1, p2⟩) | go_keep) (first | (go_at_call 15; (with_reducible refine (D3.out _ _ p P (hr.out.below HDr.out)).mono ?_); rintro e w6 ⟨rfl, r6⟩; have p0 := r6.wx.c0; have p1 := r6.wx.c1; have p2 := r6.wx.c2; have h6 := Lib.hid r6; clear r6) | (go_at_call 16; (with_reducible refine (D4.out _ _ p P h6.out.wx).mono ?_); rintro e w7 ⟨rfl, r7⟩; have p0 := r7.wx.c0; have p1 := r7.wx.c1; have p2 := r7.wx.c2; have h7 := Lib.hid r7; clear r7))
      all_goals (try go_wp2_with fail)
      have hMD := ((Mods.of_below (S := fun k => D k ∧ k ≠ B) HDr.out).trans h6.out.md (fun i hi => .inl hi)).trans h7.out.md (fun i hi => .inl hi)
      have kb := mblock hMD KB.out (fun h => h.2 rfl)
      have hMe := HMr.out.trans hMD (fun i hi => .inl hi.1)
      have HME := Lib.hid hMe
      have KB2 := Lib.hid kb
      clear hMD hMe kb
      go_roundw
      case rel => exact ⟨x4, h7.out.wx, HME.out, KB2.out, .inr (.inl ⟨rfl, rfl⟩)⟩
      case measure => simp [intOf]
    · have p0 := hxr.c0
      have p1 := hxr.c1
      have p2 := hxr.c2
      have hpz := hxr.plt
      have hr := Lib.hid hxr
      have HMr := Lib.hid hMr
      have KB := Lib.hid kb
      have hd : Below wr.heap.size wr wr.drew := (Below.refl _ _).drew
      have HDr := Lib.hid hd
      have b0 : wr.cell? ⟨B, 0, none⟩ = some (.int .u64 37) := by rw [cell_of_block kb]; rfl
      have b1 : wr.cell? ⟨B, 1, none⟩ = some (.int .u64 53) := by rw [cell_of_block kb]; rfl
      clear hxr hMr hd kb
      go_wp2_with fail
      go_region_held3 (fun w' => w'.cell? ⟨p, 0, none⟩ = some (.pointer (some ⟨P.bO, 0, none⟩)) ∧ w'.cell? ⟨p, 1, none⟩ = some (.pointer (some ⟨P.bY, 0, none⟩)) ∧ w'.cell? ⟨p, 2, none⟩ = some (.pointer (some ⟨P.bL, 0, none⟩))) (first | (with_reducible exact ⟨p0, p1, p2⟩) | go_keep) (first | (go_at_call 15; (with_reducible refine (D5.out _ _ p P (hr.out.below HDr.out)).mono ?_); rintro e w6 ⟨rfl, r6⟩; have p0 := r6.wx.c0; have p1 := r6.wx.c1; have p2 := r6.wx.c2; have h6 := Lib.hid r6; clear r6) | (go_at_call 16; (with_reducible refine (D6.out _ _ p P h6.out.wx).mono ?_); rintro e w7 ⟨rfl, r7⟩; have p0 := r7.wx.c0; have p1 := r7.wx.c1; have p2 := r7.wx.c2; have h7 := Lib.hid r7; clear r7))
      all_goals (try go_wp2_with fail)
      have hMD := ((Mods.of_below (S := fun k => D k ∧ k ≠ B) HDr.out).trans h6.out.md (fun i hi => .inl hi)).trans h7.out.md (fun i hi => .inl hi)
      have kb := mblock hMD KB.out (fun h => h.2 rfl)
      have hMe := HMr.out.trans hMD (fun i hi => .inl hi.1)
      have HME := Lib.hid hMe
      have KB2 := Lib.hid kb
      clear hMD hMe kb
      go_roundw
      case rel => exact ⟨x6, h7.out.wx, HME.out, KB2.out, .inr (.inr ⟨rfl, rfl⟩)⟩
      case measure => simp [intOf]
    · have p0 := hxr.c0
      have p1 := hxr.c1
      have p2 := hxr.c2
      have hpz := hxr.plt
      have hr := Lib.hid hxr
      have HMr := Lib.hid hMr
      clear hxr hMr kb
      go_wp2_with fail
      refine (D7.out _ _ p P hr.out).mono ?_
      rintro e w8 ⟨rfl, r8⟩
      have p0 := r8.wx.c0
      have p1 := r8.wx.c1
      have p2 := r8.wx.c2
      have hpz := r8.wx.plt
      have h8 := Lib.hid r8
      have hd : Below w8.heap.size w8 w8.drew := (Below.refl _ _).drew
      have HDr := Lib.hid hd
      clear hd r8
      go_wp2_with fail
      go_region_held3 (fun w' => w'.cell? ⟨p, 0, none⟩ = some (.pointer (some ⟨P.bO, 0, none⟩)) ∧ w'.cell? ⟨p, 1, none⟩ = some (.pointer (some ⟨P.bY, 0, none⟩)) ∧ w'.cell? ⟨p, 2, none⟩ = some (.pointer (some ⟨P.bL, 0, none⟩))) (first | (with_reducible exact ⟨p0, p1, p2⟩) | go_keep) (first | (go_at_call 17; (with_reducible refine (D8.out _ _ p P (h8.out.wx.below HDr.out)).mono ?_); rintro e w9 ⟨rfl, hb9⟩; have p0 := bcellv hb9 p0; have p1 := bcellv hb9 p1; have p2 := bcellv hb9 p2; have h9 := Lib.hid ((h8.out.wx.below HDr.out).below hb9); have HB9 := Lib.hid hb9; clear hb9) | (go_at_call 18; (with_reducible refine (D9.out _ _ p P h9.out).mono ?_); rintro e w10 ⟨rfl, r10⟩; have p0 := r10.wx.c0; have p1 := r10.wx.c1; have p2 := r10.wx.c2; have h10 := Lib.hid r10; clear r10))
      all_goals (try go_wp2_with fail)
      have hx := h10.out.wx
      have p0 := hx.c0
      have p1 := hx.c1
      have p2 := hx.c2
      clear hx
      refine (D10.out _ _ p P h10.out.wx).mono ?_
      rintro e w11 ⟨rfl, hb11⟩
      have h11 := Lib.hid (h10.out.wx.below hb11)
      have HB11 := Lib.hid hb11
      have p0 := h11.out.c0
      have p1 := h11.out.c1
      have p2 := h11.out.c2
      clear hb11
      go_wp2_with fail
      refine (D11.out _ _ p P h11.out).mono ?_
      rintro e w12 ⟨rfl, hb12⟩
      have h12 := Lib.hid (h11.out.below hb12)
      have HB12 := Lib.hid hb12
      have p0 := h12.out.c0
      have p1 := h12.out.c1
      have p2 := h12.out.c2
      clear hb12
      go_wp2_with fail
      refine (D12.out _ _ p P h12.out).mono ?_
      rintro e w13 ⟨rfl, hb13⟩
      have HB13 := Lib.hid hb13
      clear hb13
      go_wp2
      go_ret
      have m1 : Mods D w1 w8 := HMr.out.trans h8.out.md (fun i hi => .inl hi.1)
      have m2 : Mods D w1 w9 := Mods.chain HB9.out m1.drew
      have m3 : Mods D w1 w10 := m2.trans h10.out.md (fun i hi => .inl hi.1)
      have m4 : Mods D w1 w13 := Mods.chain HB13.out (Mods.chain HB12.out (Mods.chain HB11.out m3))
      exact ⟨by simp, HB1.out.trans (m4.below HB1.out.size (fun k hk => by rw [HD.out] at hk; exact hk))⟩

end Go.Proofs.Ytgipmcmmicppkaa
