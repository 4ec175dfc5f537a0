/-
  The contracts of the space and of its reference at every input, each as one (Alloc, Load, Store): what is handed back, and what the words are then.
-/
import Derived.Test.YtafailcjdkmdhaaRAlloc2
namespace Go.Proofs.Ytafailcjdkmdhaa
open Go.RowKit
set_option linter.unusedSimpArgs false
set_option linter.unusedVariables false

/-- A space behind a call that may write it. -/
def SpNext (w : World) (b : Nat) (bs lm : Int) (ws : List Int) (g : Option Nat) (w' : World) : Prop := ∃ g', SpAt w' b bs lm ws g' ∧ Mods (SpS b g) w w' ∧ ∀ G, g' = some G → g = some G ∨ w.heap.size ≤ G
/-- A space of the reference that is handed back: as it was, or made anew. -/
def MdNext (w : World) (bs lm : Int) (ws : List Int) (g : Option Nat) (v : Value) (w' : World) : Prop := ∃ g', MdAt w' v bs lm ws g' ∧ (∀ G, g' = some G → g = some G ∨ w.heap.size ≤ G) ∧ Below w.heap.size w w'
theorem SpNext.of_below {w w' : World} {b : Nat} {bs lm : Int} {ws : List Int} {g : Option Nat} (h : SpAt w b bs lm ws g) (hb : Below w.heap.size w w') : SpNext w b bs lm ws g w' := ⟨g, h.below hb, Mods.of_below hb, fun _ e => .inl e⟩
theorem MdNext.of_below {w w' : World} {v : Value} {bs lm : Int} {ws : List Int} {g : Option Nat} (h : MdAt w v bs lm ws g) (hb : Below w.heap.size w w') : MdNext w bs lm ws g v w' := ⟨g, h.below hb, fun _ e => .inl e, hb⟩

/-- Alloc: is there an object to be made, and has it room? The error, the address, the words. -/
def alE (bs lm : Int) (ws : List Int) (k c f m s : Int) : Int := if hvB k c f && idB m s then (if bs + ws.length + wordsI f ≤ lm then 0 else 8) else 1
def alA (bs lm : Int) (ws : List Int) (k c f m s : Int) : Int := if alE bs lm ws k c f m s = 0 then bs + ws.length else 0
def alW (bs lm : Int) (ws : List Int) (k c f m s : Int) : List Int := if alE bs lm ws k c f m s = 0 then ws ++ newObj k c f m s else ws
theorem al_bad {bs lm : Int} {ws : List Int} {k c f m s : Int} (h : (hvB k c f && idB m s) = false) : alE bs lm ws k c f m s = 1 ∧ alA bs lm ws k c f m s = 0 ∧ alW bs lm ws k c f m s = ws := by
  have e : alE bs lm ws k c f m s = 1 := by unfold alE; rw [h]; rfl
  refine ⟨e, ?_, ?_⟩
  · unfold alA; rw [e]; rfl
  · unfold alW; rw [e]; rfl
theorem al_full {bs lm : Int} {ws : List Int} {k c f m s : Int} (h : (hvB k c f && idB m s) = true) (hf : lm < bs + ws.length + wordsI f) : alE bs lm ws k c f m s = 8 ∧ alA bs lm ws k c f m s = 0 ∧ alW bs lm ws k c f m s = ws := by
  have e : alE bs lm ws k c f m s = 8 := by unfold alE; rw [h, if_pos rfl, if_neg (by omega)]
  refine ⟨e, ?_, ?_⟩
  · unfold alA; rw [e]; rfl
  · unfold alW; rw [e]; rfl
theorem al_ok {bs lm : Int} {ws : List Int} {k c f m s : Int} (h : (hvB k c f && idB m s) = true) (hf : bs + ws.length + wordsI f ≤ lm) : alE bs lm ws k c f m s = 0 ∧ alA bs lm ws k c f m s = bs + ws.length ∧ alW bs lm ws k c f m s = ws ++ newObj k c f m s := by
  have e : alE bs lm ws k c f m s = 0 := by unfold alE; rw [h, if_pos rfl, if_pos hf]
  refine ⟨e, ?_, ?_⟩
  · unfold alA; rw [if_pos e]
  · unfold alW; rw [if_pos e]
theorem alOk {bs lm : Int} {ws : List Int} (hk : SpOk bs lm ws) (k c f m s : Int) : SpOk bs lm (alW bs lm ws k c f m s) := by
  cases h : (hvB k c f && idB m s)
  · rw [(al_bad h).2.2]; exact hk
  · by_cases hf : bs + ws.length + wordsI f ≤ lm
    · rw [(al_ok h hf).2.2]
      rw [Bool.and_eq_true] at h
      exact hk.grow h.1 h.2 hf
    · rw [(al_full h (by omega)).2.2]; exact hk
theorem alloc_any {w : World} {b : Nat} {bs lm : Int} {ws : List Int} {g : Option Nat} (hs : SpAt w b bs lm ws g) (hk : SpOk bs lm ws) (k c f m s : Int) :
    Calls Try.prog 15 #[.pointer (some ⟨b, 0, none⟩), .agg #[.int .i64 k, .int .i64 c, .int .i64 f], .agg #[.int .i64 m, .int .i64 s]] w fun e w' => e = .returned (.tuple #[.int .i64 (alA bs lm ws k c f m s), .int .i64 (alE bs lm ws k c f m s)]) ∧ SpNext w b bs lm (alW bs lm ws k c f m s) g w' := by
  cases h : hvB k c f
  · obtain ⟨e1, e2, e3⟩ := al_bad (bs := bs) (lm := lm) (ws := ws) (k := k) (c := c) (f := f) (m := m) (s := s) (by rw [h]; rfl)
    rw [e1, e2, e3]
    refine (alloc_badH b k c f m s h w).mono ?_
    rintro e w' ⟨rfl, hb⟩
    exact ⟨rfl, .of_below hs hb⟩
  · cases hi : idB m s
    · obtain ⟨e1, e2, e3⟩ := al_bad (bs := bs) (lm := lm) (ws := ws) (k := k) (c := c) (f := f) (m := m) (s := s) (by rw [h, hi]; rfl)
      rw [e1, e2, e3]
      refine (alloc_badI b k c f m s h hi w).mono ?_
      rintro e w' ⟨rfl, hb⟩
      exact ⟨rfl, .of_below hs hb⟩
    · by_cases hf : bs + ws.length + wordsI f ≤ lm
      · obtain ⟨e1, e2, e3⟩ := al_ok (bs := bs) (lm := lm) (ws := ws) (k := k) (c := c) (f := f) (m := m) (s := s) (by rw [h, hi]; rfl) hf
        rw [e1, e2, e3]
        refine (alloc_ok hs hk k c f m s h hi hf).mono ?_
        rintro e w' ⟨rfl, g', h1, h2, h3⟩
        exact ⟨rfl, g', h1, h2, h3⟩
      · obtain ⟨e1, e2, e3⟩ := al_full (bs := bs) (lm := lm) (ws := ws) (k := k) (c := c) (f := f) (m := m) (s := s) (by rw [h, hi]; rfl) (by omega)
        rw [e1, e2, e3]
        refine (alloc_full hs hk k c f m s h hi (by omega)).mono ?_
        rintro e w' ⟨rfl, hb⟩
        exact ⟨rfl, .of_below hs hb⟩
theorem ralloc_any {w : World} {v : Value} {bs lm : Int} {ws : List Int} {g : Option Nat} (hs : MdAt w v bs lm ws g) (hk : SpOk bs lm ws) (k c f m s : Int) :
    Calls Try.prog 26 #[v, .agg #[.int .i64 k, .int .i64 c, .int .i64 f], .agg #[.int .i64 m, .int .i64 s]] w fun e w' => ∃ v', e = .returned (.tuple #[v', .int .i64 (alA bs lm ws k c f m s), .int .i64 (alE bs lm ws k c f m s)]) ∧ MdNext w bs lm (alW bs lm ws k c f m s) g v' w' := by
  cases h : hvB k c f
  · obtain ⟨e1, e2, e3⟩ := al_bad (bs := bs) (lm := lm) (ws := ws) (k := k) (c := c) (f := f) (m := m) (s := s) (by rw [h]; rfl)
    rw [e1, e2, e3]
    cases hi : idB m s
    · refine (ralloc_badH_no hs hk k c f m s h hi).mono ?_
      rintro e w' ⟨rfl, hb⟩
      exact ⟨_, rfl, .of_below hs hb⟩
    · refine (ralloc_badH_yes hs hk k c f m s h hi).mono ?_
      rintro e w' ⟨rfl, hb⟩
      exact ⟨_, rfl, .of_below hs hb⟩
  · cases hi : idB m s
    · obtain ⟨e1, e2, e3⟩ := al_bad (bs := bs) (lm := lm) (ws := ws) (k := k) (c := c) (f := f) (m := m) (s := s) (by rw [h, hi]; rfl)
      rw [e1, e2, e3]
      refine (ralloc_badI hs hk k c f m s h hi).mono ?_
      rintro e w' ⟨rfl, hb⟩
      exact ⟨_, rfl, .of_below hs hb⟩
    · by_cases hf : bs + ws.length + wordsI f ≤ lm
      · obtain ⟨e1, e2, e3⟩ := al_ok (bs := bs) (lm := lm) (ws := ws) (k := k) (c := c) (f := f) (m := m) (s := s) (by rw [h, hi]; rfl) hf
        rw [e1, e2, e3]
        refine (ralloc_ok hs hk k c f m s h hi hf).mono ?_
        rintro e w' ⟨v', g', rfl, h1, h2, h3⟩
        exact ⟨v', rfl, g', h1, fun G e => .inr (h2 G e), h3⟩
      · obtain ⟨e1, e2, e3⟩ := al_full (bs := bs) (lm := lm) (ws := ws) (k := k) (c := c) (f := f) (m := m) (s := s) (by rw [h, hi]; rfl) (by omega)
        rw [e1, e2, e3]
        refine (ralloc_full hs hk k c f m s h hi (by omega)).mono ?_
        rintro e w' ⟨rfl, hb⟩
        exact ⟨_, rfl, .of_below hs hb⟩

/-! ### Load, Store -/
def ioE (bs : Int) (ws : List Int) (x : Int) : Int := if inB bs ws.length x then 0 else 2
def ldW (bs : Int) (ws : List Int) (x : Int) : Int := if inB bs ws.length x then ws.getD (x - bs).toNat 0 else 0
def stW (bs : Int) (ws : List Int) (x u : Int) : List Int := if inB bs ws.length x then ws.set (x - bs).toNat u else ws
theorem SpOk.set {bs lm : Int} {ws : List Int} (hk : SpOk bs lm ws) (i : Nat) {u : Int} (hu : U64 u) : SpOk bs lm (ws.set i u) := by
  obtain ⟨b0, b1, b2, b3⟩ := hk
  refine ⟨b0, by simpa using b1, b2, fun x hx => ?_⟩
  rcases List.mem_or_eq_of_mem_set hx with h | rfl
  · exact b3 x h
  · exact hu
theorem stOk {bs lm : Int} {ws : List Int} (hk : SpOk bs lm ws) (x : Int) {u : Int} (hu : U64 u) : SpOk bs lm (stW bs ws x u) := by
  unfold stW
  split
  · exact hk.set _ hu
  · exact hk
theorem stLen {bs : Int} {ws : List Int} {x u : Int} : (stW bs ws x u).length = ws.length := by
  unfold stW
  split <;> simp
theorem ldU {bs lm : Int} {ws : List Int} (hk : SpOk bs lm ws) (x : Int) : U64 (ldW bs ws x) := by
  unfold ldW
  split
  · exact getD_u64 hk.u64 _
  · exact U64.of (by omega) (by omega)
theorem load_any {w : World} {b : Nat} {bs lm : Int} {ws : List Int} {g : Option Nat} (h : SpAt w b bs lm ws g) (hk : SpOk bs lm ws) (x : Int) :
    Calls Try.prog 18 #[.pointer (some ⟨b, 0, none⟩), .int .i64 x] w fun e w' => e = .returned (.tuple #[.int .u64 (ldW bs ws x), .int .i64 (ioE bs ws x)]) ∧ Below w.heap.size w w' := by
  unfold ldW ioE
  cases hx : inB bs ws.length x
  · exact load_no h hk x hx
  · obtain ⟨h0, h1⟩ := inB_iff.1 hx
    obtain ⟨i, rfl⟩ : ∃ i : Nat, x = bs + (i : Int) := ⟨(x - bs).toNat, by omega⟩
    rw [show (bs + (i : Int) - bs).toNat = i by omega]
    exact load_yes h hk i (by omega)
theorem store_any {w : World} {b : Nat} {bs lm : Int} {ws : List Int} {g : Option Nat} (h : SpAt w b bs lm ws g) (hk : SpOk bs lm ws) (x u : Int) :
    Calls Try.prog 20 #[.pointer (some ⟨b, 0, none⟩), .int .i64 x, .int .u64 u] w fun e w' => e = .returned (.int .i64 (ioE bs ws x)) ∧ SpNext w b bs lm (stW bs ws x u) g w' := by
  unfold stW ioE
  cases hx : inB bs ws.length x
  · refine (store_no h hk x u hx).mono ?_
    rintro e w' ⟨rfl, hb⟩
    exact ⟨rfl, .of_below h hb⟩
  · obtain ⟨h0, h1⟩ := inB_iff.1 hx
    obtain ⟨i, rfl⟩ : ∃ i : Nat, x = bs + (i : Int) := ⟨(x - bs).toNat, by omega⟩
    rw [show (bs + (i : Int) - bs).toNat = i by omega]
    refine (store_yes h hk i (by omega) u).mono ?_
    rintro e w' ⟨rfl, h1, h2⟩
    exact ⟨rfl, g, h1, h2.mono (fun k hk => .inr hk), fun _ e => .inl e⟩
theorem rstore_any {w : World} {v : Value} {bs lm : Int} {ws : List Int} {g : Option Nat} (h : MdAt w v bs lm ws g) (hk : SpOk bs lm ws) (x u : Int) :
    Calls Try.prog 27 #[v, .int .i64 x, .int .u64 u] w fun e w' => ∃ v', e = .returned (.tuple #[v', .int .i64 (ioE bs ws x)]) ∧ MdNext w bs lm (stW bs ws x u) g v' w' := by
  unfold stW ioE
  cases hx : inB bs ws.length x
  · refine (rstore_no h hk x u hx).mono ?_
    rintro e w' ⟨rfl, hb⟩
    exact ⟨_, rfl, .of_below h hb⟩
  · obtain ⟨h0, h1⟩ := inB_iff.1 hx
    obtain ⟨i, rfl⟩ : ∃ i : Nat, x = bs + (i : Int) := ⟨(x - bs).toNat, by omega⟩
    rw [show (bs + (i : Int) - bs).toNat = i by omega]
    refine (rstore_yes h hk i (by omega) u).mono ?_
    rintro e w' ⟨v', g', rfl, h1, h2, h3⟩
    exact ⟨_, rfl, g', h1, fun G e => .inr (h2 G e), h3⟩

end Go.Proofs.Ytafailcjdkmdhaa
