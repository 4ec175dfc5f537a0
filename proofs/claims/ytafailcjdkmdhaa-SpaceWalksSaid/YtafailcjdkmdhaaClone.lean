/-
  slices.Clone at []uint64, and (*Space).Clone.
-/
import Derived.Test.YtafailcjdkmdhaaSame
import Derived.WalkSpells
namespace Go.Proofs.Ytafailcjdkmdhaa
open Go.RowKit
set_option linter.unusedSimpArgs false
set_option linter.unusedVariables false

/-- A copy of a row. -/
def CloneAt (w : World) (ws : List Int) (e : Ending) (w' : World) : Prop := ∃ A' cap' g', e = .returned (.slice A' ws.length cap') ∧ RowAt w' A' cap' ws g' ∧ (∀ G, g' = some G → w.heap.size ≤ G) ∧ Below w.heap.size w w'
set_option maxRecDepth 100000 in
theorem clone_row {w : World} {A : Option Addr} {cap : Nat} {ws : List Int} {g : Option Nat} (hr : RowAt w A cap ws g) (hl : ws.length ≤ 1099511627776) :
    Calls Try.prog 45 #[.slice A ws.length cap] w (CloneAt w ws) := by
  obtain ⟨i0, hi0, hz0, hz1, hz2⟩ := info_parts u64_info'
  have hml : maxLen = 9223372036854775807 := rfl
  cases A with
  | none =>
    obtain ⟨e1, e2, e3⟩ := id hr
    have hc : cap = 0 ∧ g = none := by
      rcases e3 with ⟨h, h'⟩ | ⟨_, _, _, h, _⟩
      · exact ⟨h', h⟩
      · cases h
    obtain ⟨rfl, rfl⟩ := hc
    have h0 : ws = [] := List.length_eq_zero_iff.1 (by omega)
    subst h0
    have hfin : CloneAt w [] (.returned (.slice none 0 0)) w := ⟨none, 0, none, rfl, hr, none_ge, Below.refl _ _⟩
    have hq := fun wx => Lib.run_eql_slice_nil (P := Try.prog) wx 41 32 none 0 0 0 0 Try.underlying41
    clear e1 e2 e3
    simp only [List.length_nil]
    go_enter Try.func45, Try.ntmps45
    go_wp2
    go_ret
    exact hfin
  | some ad =>
    have hnews := (hr.news (t := ws.length) (Nat.le_refl _)).below (balloc (Below.refl _ w) (.cells #[] 32))
    rw [List.take_of_length_le (Nat.le_refl _)] at hnews
    have hown0 := World.ownsRow_made w (base := w.heap.size) (e := 32) (size := 1) #[] 0 (Nat.le_refl _) (Nat.zero_le _) rfl
    have hn : ∃ n, ws.length = n := ⟨_, rfl⟩
    obtain ⟨n, hn⟩ := hn
    have hfin : ∀ (gv cv : Nat) (w' : World), w'.ownsRow w.heap.size 32 1 (.slice (some ⟨gv, 0, none⟩) n cv) n (ws.map (Value.int .u64)) → Below w.heap.size w w' → CloneAt w ws (.returned (.slice (some ⟨gv, 0, none⟩) n cv)) w' := by
      intro gv cv w' ho hb
      obtain ⟨a2, cap2, g2, e2, hr2, hg2⟩ := RowAt.of_row (ws := ws) (by rw [hn]; exact ho)
      rw [hn] at e2
      exact ⟨a2, cap2, g2, by rw [e2, hn], hr2, hg2, hb⟩
    have HF := Lib.hid hfin
    rw [hn] at hl hnews ⊢
    have hq := fun wx => Lib.run_eql_slice_nil (P := Try.prog) wx 41 32 (some ad) n cap 0 0 Try.underlying41
    clear hr hfin
    have HN := Lib.hid hn
    clear hn
    go_enter Try.func45, Try.ntmps45
    go_wp2_with (at_builtin; refine wpList_append_fresh rfl _ _ 41 rfl w.heap.size 32 i0 (.int .u64 0) 1 8 Try.underlying41 hi0 hz0 hz1 hz2 rfl (by decide) w.heap.size rfl hown0 (some ad) n cap (ws.map (Value.int .u64)) rfl (by simp [HN.out]) hnews (u64_one ws) (by omega) (by omega) (by simp) ?_; intro gv cv w1 hown1 hgrow1; have hb1 : Below w.heap.size w w1 := ((Below.refl _ w).alloc (Nat.le_refl _) _).grown hgrow1 (by simp) (fun k e => by cases e; exact Nat.le_refl _); have HG := Lib.hid (HF.out gv cv w1 hown1 hb1); clear hown1 hgrow1 hnews hown0 hb1)
    go_ret
    exact HG.out
/-- A space that was just made. -/
def SpMade (w : World) (bs lm : Int) (ws : List Int) (e : Ending) (w' : World) : Prop :=
  ∃ (b' : Nat) (g' : Option Nat), e = .returned (.pointer (some ⟨b', 0, none⟩)) ∧ SpAt w' b' bs lm ws g' ∧ w.heap.size ≤ b' ∧ (∀ G, g' = some G → w.heap.size ≤ G) ∧ Below w.heap.size w w'
set_option maxRecDepth 100000 in
set_option maxHeartbeats 1000000 in
theorem space_clone {w : World} {b : Nat} {bs lm : Int} {ws : List Int} {g : Option Nat} (h : SpAt w b bs lm ws g) (hk : SpOk bs lm ws) :
    Calls Try.prog 30 #[.pointer (some ⟨b, 0, none⟩)] w (SpMade w bs lm ws) := by
  have hl : ws.length ≤ 1099511627776 := by have := hk.b0; have := hk.top; have := hk.lm1; omega
  obtain ⟨a, cap, c0, c1, c2, hr⟩ := h.cells
  have hC := fun (W : World) (H : RowAt W a cap ws g) => clone_row H hl
  have hr' : RowAt w.drew a cap ws g := hr
  generalize hn : ws.length = n at *
  have HN := Lib.hid hn
  clear hn h hr hk
  go_enter Try.func30, Try.ntmps30
  go_wp2_with fail
  go_region_held3 (fun w' => w'.cell? ⟨b, 0, none⟩ = some (.int .i64 bs) ∧ w'.cell? ⟨b, 1, none⟩ = some (.int .i64 lm) ∧ w'.cell? ⟨b, 2, none⟩ = some (.slice a n cap)) (first | exact ⟨c0, c1, c2⟩ | go_keep) (first
    | (go_at_call 45; refine (hC _ hr').mono ?_; rintro e w1 ⟨A', cap', g', rfl, hr1, hg1, hb1⟩; have c0 := bcellv hb1 (show w.drew.cell? _ = _ from c0); have c1 := bcellv hb1 (show w.drew.cell? _ = _ from c1); have c2 := bcellv hb1 (show w.drew.cell? _ = _ from c2)))
  have hlt : w.heap.size ≤ w1.heap.size := hb1.size
  have hfin : SpMade w bs lm ws (.returned (.pointer (some ⟨w1.heap.size, 0, none⟩))) (w1.alloc (.cells #[.int .i64 bs, .int .i64 lm, .slice A' ws.length cap'] 71)) := by
    refine ⟨w1.heap.size, g', rfl, ⟨A', cap', alloc_get _ _, hr1.keep (fun G o e ho => alloc_lt _ ho), fun e => ?_⟩, hlt, hg1, balloc (bchain hb1 (Below.refl _ _).drew) _⟩
    obtain ⟨_, _, h3⟩ := hr1
    rcases h3 with ⟨h3, _⟩ | ⟨G, cur, h3, _, h4, _⟩
    · rw [h3] at e; cases e
    · rw [h3] at e
      cases e
      have := (Array.getElem?_eq_some_iff.1 h4).1
      omega
  have HF := Lib.hid hfin
  clear hfin hC hr' hr1 hg1 hb1 c0 c1 c2
  go_wp2
  go_ret
  exact HF.out
end Go.Proofs.Ytafailcjdkmdhaa
