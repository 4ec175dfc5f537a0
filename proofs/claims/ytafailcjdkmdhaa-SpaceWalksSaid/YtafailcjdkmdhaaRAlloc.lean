/-
  refmeshref06.Alloc.
-/
import Derived.Test.YtafailcjdkmdhaaRStore
namespace Go.Proofs.Ytafailcjdkmdhaa
open Go.RowKit
set_option linter.unusedSimpArgs false
set_option linter.unusedVariables false

/-- append of a nil slice to an empty one: nothing happens. -/
theorem run_append_none {P : Program} (t ty e : TypeId) (i : TypeInfo) (ht : P.underlying t = some (.slice e)) (hi : P.info? e = some i) (g : Nat) (w : World) :
    (Builtin.append_ #[t, t] ty #[.slice (some ⟨g, 0, none⟩) 0 0, .slice none 0 0]).run P w = .ok (.slice (some ⟨g, 0, none⟩) 0 0) w := by
  simp [Builtin.append_, run_underlying ht, sizeOf, typeInfo, hi, Builtin.firstCells, Builtin.lenOf, storeCells]
theorem wpList_append_none {P : Program} {ops : Array Oper} {rest : List Oper} {o : Oper} {a : Act} {w : World} {Q : Exit → Act → World → Prop} (hgd : o.guard = none) (s x : Operand) (t : TypeId)
    (ho : o.op = .call { callee := .builtin .append, args := #[s, x], argTypes := #[t, t] }) (e : TypeId) (i : TypeInfo) (ht : P.underlying t = some (.slice e)) (hi : P.info? e = some i)
    (g : Nat) (hs : a.eval s = .slice (some ⟨g, 0, none⟩) 0 0) (hx : a.eval x = .slice none 0 0) (h : wpList P ops Q rest (a.put o.dst (.slice (some ⟨g, 0, none⟩) 0 0)) w) : wpList P ops Q (o :: rest) a w :=
  wpList_plain hgd fun K hK => by
    have hr := run_append_none (P := P) t o.type e i ht hi g w
    unfold Oper.wp execOp
    simp only [ho, resolve, invoke, builtin, Sem.run_bind, Sem.run_pure, Result.andThen_ok, List.map_toArray, List.map_cons, List.map_nil, hs, hx, hr]
    exact hK _ _ h
set_option maxRecDepth 100000 in
theorem ralloc_badH_no {w : World} {v : Value} {bs lm : Int} {ws : List Int} {g : Option Nat} (h : MdAt w v bs lm ws g) (hk : SpOk bs lm ws) (k c f m s : Int) (hh : hvB k c f = false) (hi : idB m s = false) :
    Calls Try.prog 26 #[v, .agg #[.int .i64 k, .int .i64 c, .int .i64 f], .agg #[.int .i64 m, .int .i64 s]] w fun e w' => e = .returned (.tuple #[v, .int .i64 0, .int .i64 1]) ∧ Below w.heap.size w w' := by
  have h1 := fun W => rencode_no k c f hh W
  have h2 := fun W => rencodeID_no m s hi W
  obtain ⟨a, cap, rfl, hr⟩ := h
  clear hr
  generalize ws.length = n at *
  generalize encI k c f = x at *
  generalize idI m s = z at *
  clear hh hi
  go_enter Try.func26, Try.ntmps26
  go_wp2_with fail
  refine (h1 _).mono ?_
  rintro e w1 ⟨rfl, hb1⟩
  have q0 : w1.cell? ⟨w.heap.size, 0, none⟩ = some (.int .i64 bs) := bcellv hb1 (by simp [go_sem])
  have q1 : w1.cell? ⟨w.heap.size, 1, none⟩ = some (.int .i64 lm) := bcellv hb1 (by simp [go_sem])
  have q2 : w1.cell? ⟨w.heap.size, 2, none⟩ = some (.slice a n cap) := bcellv hb1 (by simp [go_sem])
  have p0 : w1.cell? ⟨w.heap.size + 1, 0, none⟩ = some (.int .i64 k) := bcellv hb1 (by simp [go_sem])
  have p1 : w1.cell? ⟨w.heap.size + 1, 1, none⟩ = some (.int .i64 c) := bcellv hb1 (by simp [go_sem])
  have p2 : w1.cell? ⟨w.heap.size + 1, 2, none⟩ = some (.int .i64 f) := bcellv hb1 (by simp [go_sem])
  have i0 : w1.cell? ⟨w.heap.size + 2, 0, none⟩ = some (.int .i64 m) := bcellv hb1 (by simp [go_sem])
  have i1 : w1.cell? ⟨w.heap.size + 2, 1, none⟩ = some (.int .i64 s) := bcellv hb1 (by simp [go_sem])
  have r0 : w1.cell? ⟨w.heap.size + 3, 0, none⟩ = some (.int .i64 0) := bcellv hb1 (by simp [go_sem])
  have r1 : w1.cell? ⟨w.heap.size + 3, 1, none⟩ = some (.int .i64 0) := bcellv hb1 (by simp [go_sem])
  have r2 : w1.cell? ⟨w.heap.size + 3, 2, none⟩ = some (.slice none 0 0) := bcellv hb1 (by simp [go_sem])
  have r3 : ∀ i, w1.frozen? ⟨w.heap.size + 3, i, none⟩ = false := fun i => by have := frozen_of_block (bblock hb1 (alloc_get _ _)) i; simp only [World.size_alloc, Nat.add_assoc, Nat.reduceAdd] at this; exact this
  go_wp2_with fail
  refine (h2 _).mono ?_
  rintro e w2 ⟨rfl, hb2⟩
  have r0' := r0
  have q0 : w2.cell? ⟨w.heap.size, 0, none⟩ = some (.int .i64 bs) := bcellv hb2 (q0)
  have q1 : w2.cell? ⟨w.heap.size, 1, none⟩ = some (.int .i64 lm) := bcellv hb2 (q1)
  have q2 : w2.cell? ⟨w.heap.size, 2, none⟩ = some (.slice a n cap) := bcellv hb2 (q2)
  have p0 : w2.cell? ⟨w.heap.size + 1, 0, none⟩ = some (.int .i64 k) := bcellv hb2 (p0)
  have p1 : w2.cell? ⟨w.heap.size + 1, 1, none⟩ = some (.int .i64 c) := bcellv hb2 (p1)
  have p2 : w2.cell? ⟨w.heap.size + 1, 2, none⟩ = some (.int .i64 f) := bcellv hb2 (p2)
  have i0 : w2.cell? ⟨w.heap.size + 2, 0, none⟩ = some (.int .i64 m) := bcellv hb2 (i0)
  have i1 : w2.cell? ⟨w.heap.size + 2, 1, none⟩ = some (.int .i64 s) := bcellv hb2 (i1)
  have r0 : w2.cell? ⟨w.heap.size + 3, 0, none⟩ = some (.int .i64 0) := bcellv hb2 (r0)
  have r1 : w2.cell? ⟨w.heap.size + 3, 1, none⟩ = some (.int .i64 0) := bcellv hb2 (r1)
  have r2 : w2.cell? ⟨w.heap.size + 3, 2, none⟩ = some (.slice none 0 0) := bcellv hb2 (r2)
  have r3 : ∀ i, w2.frozen? ⟨w.heap.size + 3, i, none⟩ = false := fun i => (World.frozen?_of_block (a := ⟨w.heap.size + 3, i, none⟩) (hb2.block (w.heap.size + 3) (World.block_lt_of_cell? _ _ r0'))).trans (r3 i)
  clear h1 h2
  go_wp2
  exact bodyPost_ret (v := .tuple #[.agg #[.int .i64 bs, .int .i64 lm, .slice a n cap], .int .i64 0, .int .i64 1]) (by simp [results, Try.results26, go_sem, r0, r1, r2]) rfl ⟨rfl, by (repeat (first | exact Below.refl _ _ | assumption | refine Below.drew ?_ | refine below_drewN ?_ _ | refine balloc ?_ _ | refine Below.setCell ?_ (by first | (simp; done) | (simp; omega) | omega) _ | refine bchain (by assumption) ?_))⟩
set_option maxRecDepth 100000 in
theorem ralloc_badH_yes {w : World} {v : Value} {bs lm : Int} {ws : List Int} {g : Option Nat} (h : MdAt w v bs lm ws g) (hk : SpOk bs lm ws) (k c f m s : Int) (hh : hvB k c f = false) (hi : idB m s = true) :
    Calls Try.prog 26 #[v, .agg #[.int .i64 k, .int .i64 c, .int .i64 f], .agg #[.int .i64 m, .int .i64 s]] w fun e w' => e = .returned (.tuple #[v, .int .i64 0, .int .i64 1]) ∧ Below w.heap.size w w' := by
  have h1 := fun W => rencode_no k c f hh W
  have h2 := fun W => rencodeID_yes m s hi W
  obtain ⟨a, cap, rfl, hr⟩ := h
  clear hr
  generalize ws.length = n at *
  generalize encI k c f = x at *
  generalize idI m s = z at *
  clear hh hi
  go_enter Try.func26, Try.ntmps26
  go_wp2_with fail
  refine (h1 _).mono ?_
  rintro e w1 ⟨rfl, hb1⟩
  have q0 : w1.cell? ⟨w.heap.size, 0, none⟩ = some (.int .i64 bs) := bcellv hb1 (by simp [go_sem])
  have q1 : w1.cell? ⟨w.heap.size, 1, none⟩ = some (.int .i64 lm) := bcellv hb1 (by simp [go_sem])
  have q2 : w1.cell? ⟨w.heap.size, 2, none⟩ = some (.slice a n cap) := bcellv hb1 (by simp [go_sem])
  have p0 : w1.cell? ⟨w.heap.size + 1, 0, none⟩ = some (.int .i64 k) := bcellv hb1 (by simp [go_sem])
  have p1 : w1.cell? ⟨w.heap.size + 1, 1, none⟩ = some (.int .i64 c) := bcellv hb1 (by simp [go_sem])
  have p2 : w1.cell? ⟨w.heap.size + 1, 2, none⟩ = some (.int .i64 f) := bcellv hb1 (by simp [go_sem])
  have i0 : w1.cell? ⟨w.heap.size + 2, 0, none⟩ = some (.int .i64 m) := bcellv hb1 (by simp [go_sem])
  have i1 : w1.cell? ⟨w.heap.size + 2, 1, none⟩ = some (.int .i64 s) := bcellv hb1 (by simp [go_sem])
  have r0 : w1.cell? ⟨w.heap.size + 3, 0, none⟩ = some (.int .i64 0) := bcellv hb1 (by simp [go_sem])
  have r1 : w1.cell? ⟨w.heap.size + 3, 1, none⟩ = some (.int .i64 0) := bcellv hb1 (by simp [go_sem])
  have r2 : w1.cell? ⟨w.heap.size + 3, 2, none⟩ = some (.slice none 0 0) := bcellv hb1 (by simp [go_sem])
  have r3 : ∀ i, w1.frozen? ⟨w.heap.size + 3, i, none⟩ = false := fun i => by have := frozen_of_block (bblock hb1 (alloc_get _ _)) i; simp only [World.size_alloc, Nat.add_assoc, Nat.reduceAdd] at this; exact this
  go_wp2_with fail
  refine (h2 _).mono ?_
  rintro e w2 ⟨rfl, hb2⟩
  have r0' := r0
  have q0 : w2.cell? ⟨w.heap.size, 0, none⟩ = some (.int .i64 bs) := bcellv hb2 (q0)
  have q1 : w2.cell? ⟨w.heap.size, 1, none⟩ = some (.int .i64 lm) := bcellv hb2 (q1)
  have q2 : w2.cell? ⟨w.heap.size, 2, none⟩ = some (.slice a n cap) := bcellv hb2 (q2)
  have p0 : w2.cell? ⟨w.heap.size + 1, 0, none⟩ = some (.int .i64 k) := bcellv hb2 (p0)
  have p1 : w2.cell? ⟨w.heap.size + 1, 1, none⟩ = some (.int .i64 c) := bcellv hb2 (p1)
  have p2 : w2.cell? ⟨w.heap.size + 1, 2, none⟩ = some (.int .i64 f) := bcellv hb2 (p2)
  have i0 : w2.cell? ⟨w.heap.size + 2, 0, none⟩ = some (.int .i64 m) := bcellv hb2 (i0)
  have i1 : w2.cell? ⟨w.heap.size + 2, 1, none⟩ = some (.int .i64 s) := bcellv hb2 (i1)
  have r0 : w2.cell? ⟨w.heap.size + 3, 0, none⟩ = some (.int .i64 0) := bcellv hb2 (r0)
  have r1 : w2.cell? ⟨w.heap.size + 3, 1, none⟩ = some (.int .i64 0) := bcellv hb2 (r1)
  have r2 : w2.cell? ⟨w.heap.size + 3, 2, none⟩ = some (.slice none 0 0) := bcellv hb2 (r2)
  have r3 : ∀ i, w2.frozen? ⟨w.heap.size + 3, i, none⟩ = false := fun i => (World.frozen?_of_block (a := ⟨w.heap.size + 3, i, none⟩) (hb2.block (w.heap.size + 3) (World.block_lt_of_cell? _ _ r0'))).trans (r3 i)
  clear h1 h2
  go_wp2
  exact bodyPost_ret (v := .tuple #[.agg #[.int .i64 bs, .int .i64 lm, .slice a n cap], .int .i64 0, .int .i64 1]) (by simp [results, Try.results26, go_sem, r0, r1, r2]) rfl ⟨rfl, by (repeat (first | exact Below.refl _ _ | assumption | refine Below.drew ?_ | refine below_drewN ?_ _ | refine balloc ?_ _ | refine Below.setCell ?_ (by first | (simp; done) | (simp; omega) | omega) _ | refine bchain (by assumption) ?_))⟩
set_option maxRecDepth 100000 in
theorem ralloc_badI {w : World} {v : Value} {bs lm : Int} {ws : List Int} {g : Option Nat} (h : MdAt w v bs lm ws g) (hk : SpOk bs lm ws) (k c f m s : Int) (hh : hvB k c f = true) (hi : idB m s = false) :
    Calls Try.prog 26 #[v, .agg #[.int .i64 k, .int .i64 c, .int .i64 f], .agg #[.int .i64 m, .int .i64 s]] w fun e w' => e = .returned (.tuple #[v, .int .i64 0, .int .i64 1]) ∧ Below w.heap.size w w' := by
  have h1 := fun W => rencode_yes k c f hh W
  have h2 := fun W => rencodeID_no m s hi W
  obtain ⟨a, cap, rfl, hr⟩ := h
  clear hr
  generalize ws.length = n at *
  generalize encI k c f = x at *
  generalize idI m s = z at *
  clear hh hi
  go_enter Try.func26, Try.ntmps26
  go_wp2_with fail
  refine (h1 _).mono ?_
  rintro e w1 ⟨rfl, hb1⟩
  have q0 : w1.cell? ⟨w.heap.size, 0, none⟩ = some (.int .i64 bs) := bcellv hb1 (by simp [go_sem])
  have q1 : w1.cell? ⟨w.heap.size, 1, none⟩ = some (.int .i64 lm) := bcellv hb1 (by simp [go_sem])
  have q2 : w1.cell? ⟨w.heap.size, 2, none⟩ = some (.slice a n cap) := bcellv hb1 (by simp [go_sem])
  have p0 : w1.cell? ⟨w.heap.size + 1, 0, none⟩ = some (.int .i64 k) := bcellv hb1 (by simp [go_sem])
  have p1 : w1.cell? ⟨w.heap.size + 1, 1, none⟩ = some (.int .i64 c) := bcellv hb1 (by simp [go_sem])
  have p2 : w1.cell? ⟨w.heap.size + 1, 2, none⟩ = some (.int .i64 f) := bcellv hb1 (by simp [go_sem])
  have i0 : w1.cell? ⟨w.heap.size + 2, 0, none⟩ = some (.int .i64 m) := bcellv hb1 (by simp [go_sem])
  have i1 : w1.cell? ⟨w.heap.size + 2, 1, none⟩ = some (.int .i64 s) := bcellv hb1 (by simp [go_sem])
  have r0 : w1.cell? ⟨w.heap.size + 3, 0, none⟩ = some (.int .i64 0) := bcellv hb1 (by simp [go_sem])
  have r1 : w1.cell? ⟨w.heap.size + 3, 1, none⟩ = some (.int .i64 0) := bcellv hb1 (by simp [go_sem])
  have r2 : w1.cell? ⟨w.heap.size + 3, 2, none⟩ = some (.slice none 0 0) := bcellv hb1 (by simp [go_sem])
  have r3 : ∀ i, w1.frozen? ⟨w.heap.size + 3, i, none⟩ = false := fun i => by have := frozen_of_block (bblock hb1 (alloc_get _ _)) i; simp only [World.size_alloc, Nat.add_assoc, Nat.reduceAdd] at this; exact this
  go_wp2_with fail
  refine (h2 _).mono ?_
  rintro e w2 ⟨rfl, hb2⟩
  have r0' := r0
  have q0 : w2.cell? ⟨w.heap.size, 0, none⟩ = some (.int .i64 bs) := bcellv hb2 (q0)
  have q1 : w2.cell? ⟨w.heap.size, 1, none⟩ = some (.int .i64 lm) := bcellv hb2 (q1)
  have q2 : w2.cell? ⟨w.heap.size, 2, none⟩ = some (.slice a n cap) := bcellv hb2 (q2)
  have p0 : w2.cell? ⟨w.heap.size + 1, 0, none⟩ = some (.int .i64 k) := bcellv hb2 (p0)
  have p1 : w2.cell? ⟨w.heap.size + 1, 1, none⟩ = some (.int .i64 c) := bcellv hb2 (p1)
  have p2 : w2.cell? ⟨w.heap.size + 1, 2, none⟩ = some (.int .i64 f) := bcellv hb2 (p2)
  have i0 : w2.cell? ⟨w.heap.size + 2, 0, none⟩ = some (.int .i64 m) := bcellv hb2 (i0)
  have i1 : w2.cell? ⟨w.heap.size + 2, 1, none⟩ = some (.int .i64 s) := bcellv hb2 (i1)
  have r0 : w2.cell? ⟨w.heap.size + 3, 0, none⟩ = some (.int .i64 0) := bcellv hb2 (r0)
  have r1 : w2.cell? ⟨w.heap.size + 3, 1, none⟩ = some (.int .i64 0) := bcellv hb2 (r1)
  have r2 : w2.cell? ⟨w.heap.size + 3, 2, none⟩ = some (.slice none 0 0) := bcellv hb2 (r2)
  have r3 : ∀ i, w2.frozen? ⟨w.heap.size + 3, i, none⟩ = false := fun i => (World.frozen?_of_block (a := ⟨w.heap.size + 3, i, none⟩) (hb2.block (w.heap.size + 3) (World.block_lt_of_cell? _ _ r0'))).trans (r3 i)
  clear h1 h2
  go_wp2
  exact bodyPost_ret (v := .tuple #[.agg #[.int .i64 bs, .int .i64 lm, .slice a n cap], .int .i64 0, .int .i64 1]) (by simp [results, Try.results26, go_sem, r0, r1, r2]) rfl ⟨rfl, by (repeat (first | exact Below.refl _ _ | assumption | refine Below.drew ?_ | refine below_drewN ?_ _ | refine balloc ?_ _ | refine Below.setCell ?_ (by first | (simp; done) | (simp; omega) | omega) _ | refine bchain (by assumption) ?_))⟩
set_option maxRecDepth 100000 in
set_option maxHeartbeats 1000000 in
theorem ralloc_full {w : World} {v : Value} {bs lm : Int} {ws : List Int} {g : Option Nat} (h : MdAt w v bs lm ws g) (hk : SpOk bs lm ws) (k c f m s : Int) (hh : hvB k c f = true) (hi : idB m s = true) (hf : lm < bs + ws.length + wordsI f) :
    Calls Try.prog 26 #[v, .agg #[.int .i64 k, .int .i64 c, .int .i64 f], .agg #[.int .i64 m, .int .i64 s]] w fun e w' => e = .returned (.tuple #[v, .int .i64 0, .int .i64 8]) ∧ Below w.heap.size w w' := by
  have h1 := fun W => rencode_yes k c f hh W
  have h2 := fun W => rencodeID_yes m s hi W
  have h3 := fun W => rwords_yes k c f hh W
  have h4 := fun (W : World) (H : MdAt W v bs lm ws g) => rtop_any H hk
  obtain ⟨y0, y1, y2⟩ := wordsI_bd hh
  have b0 := hk.b0
  have b1 := hk.top
  have b2 := hk.lm1
  obtain ⟨a, cap, rfl, hr⟩ := h
  obtain ⟨n, hn⟩ : ∃ n, ws.length = n := ⟨_, rfl⟩
  obtain ⟨y, hy⟩ : ∃ y, wordsI f = y := ⟨_, rfl⟩
  obtain ⟨x, hx⟩ : ∃ x, encI k c f = x := ⟨_, rfl⟩
  obtain ⟨z, hz⟩ : ∃ z, idI m s = z := ⟨_, rfl⟩
  have HX := Lib.hid hx
  have HZ := Lib.hid hz
  have HY := Lib.hid hy
  rw [hy] at h3 y0 y1 y2 hf
  rw [hx] at h1
  rw [hz] at h2
  rw [hn] at h4 b1 hf ⊢
  clear hx hz hy
  go_enter Try.func26, Try.ntmps26
  go_wp2_with fail
  refine (h1 _).mono ?_
  rintro e w1 ⟨rfl, hb1⟩
  have q0 : w1.cell? ⟨w.heap.size, 0, none⟩ = some (.int .i64 bs) := bcellv hb1 (by simp [go_sem])
  have q1 : w1.cell? ⟨w.heap.size, 1, none⟩ = some (.int .i64 lm) := bcellv hb1 (by simp [go_sem])
  have q2 : w1.cell? ⟨w.heap.size, 2, none⟩ = some (.slice a n cap) := bcellv hb1 (by simp [go_sem])
  have p0 : w1.cell? ⟨w.heap.size + 1, 0, none⟩ = some (.int .i64 k) := bcellv hb1 (by simp [go_sem])
  have p1 : w1.cell? ⟨w.heap.size + 1, 1, none⟩ = some (.int .i64 c) := bcellv hb1 (by simp [go_sem])
  have p2 : w1.cell? ⟨w.heap.size + 1, 2, none⟩ = some (.int .i64 f) := bcellv hb1 (by simp [go_sem])
  have i0 : w1.cell? ⟨w.heap.size + 2, 0, none⟩ = some (.int .i64 m) := bcellv hb1 (by simp [go_sem])
  have i1 : w1.cell? ⟨w.heap.size + 2, 1, none⟩ = some (.int .i64 s) := bcellv hb1 (by simp [go_sem])
  have r0 : w1.cell? ⟨w.heap.size + 3, 0, none⟩ = some (.int .i64 0) := bcellv hb1 (by simp [go_sem])
  have r1 : w1.cell? ⟨w.heap.size + 3, 1, none⟩ = some (.int .i64 0) := bcellv hb1 (by simp [go_sem])
  have r2 : w1.cell? ⟨w.heap.size + 3, 2, none⟩ = some (.slice none 0 0) := bcellv hb1 (by simp [go_sem])
  have r3 : ∀ i, w1.frozen? ⟨w.heap.size + 3, i, none⟩ = false := fun i => by have := frozen_of_block (bblock hb1 (alloc_get _ _)) i; simp only [World.size_alloc, Nat.add_assoc, Nat.reduceAdd] at this; exact this
  go_wp2_with fail
  refine (h2 _).mono ?_
  rintro e w2 ⟨rfl, hb2⟩
  have r0' := r0
  have q0 : w2.cell? ⟨w.heap.size, 0, none⟩ = some (.int .i64 bs) := bcellv hb2 (q0)
  have q1 : w2.cell? ⟨w.heap.size, 1, none⟩ = some (.int .i64 lm) := bcellv hb2 (q1)
  have q2 : w2.cell? ⟨w.heap.size, 2, none⟩ = some (.slice a n cap) := bcellv hb2 (q2)
  have p0 : w2.cell? ⟨w.heap.size + 1, 0, none⟩ = some (.int .i64 k) := bcellv hb2 (p0)
  have p1 : w2.cell? ⟨w.heap.size + 1, 1, none⟩ = some (.int .i64 c) := bcellv hb2 (p1)
  have p2 : w2.cell? ⟨w.heap.size + 1, 2, none⟩ = some (.int .i64 f) := bcellv hb2 (p2)
  have i0 : w2.cell? ⟨w.heap.size + 2, 0, none⟩ = some (.int .i64 m) := bcellv hb2 (i0)
  have i1 : w2.cell? ⟨w.heap.size + 2, 1, none⟩ = some (.int .i64 s) := bcellv hb2 (i1)
  have r0 : w2.cell? ⟨w.heap.size + 3, 0, none⟩ = some (.int .i64 0) := bcellv hb2 (r0)
  have r1 : w2.cell? ⟨w.heap.size + 3, 1, none⟩ = some (.int .i64 0) := bcellv hb2 (r1)
  have r2 : w2.cell? ⟨w.heap.size + 3, 2, none⟩ = some (.slice none 0 0) := bcellv hb2 (r2)
  have r3 : ∀ i, w2.frozen? ⟨w.heap.size + 3, i, none⟩ = false := fun i => (World.frozen?_of_block (a := ⟨w.heap.size + 3, i, none⟩) (hb2.block (w.heap.size + 3) (World.block_lt_of_cell? _ _ r0'))).trans (r3 i)
  go_wp2_with fail
  refine (h3 _).mono ?_
  rintro e w3 ⟨rfl, hb3⟩
  have r0' := r0
  have q0 : w3.cell? ⟨w.heap.size, 0, none⟩ = some (.int .i64 bs) := bcellv hb3 (q0)
  have q1 : w3.cell? ⟨w.heap.size, 1, none⟩ = some (.int .i64 lm) := bcellv hb3 (q1)
  have q2 : w3.cell? ⟨w.heap.size, 2, none⟩ = some (.slice a n cap) := bcellv hb3 (q2)
  have p0 : w3.cell? ⟨w.heap.size + 1, 0, none⟩ = some (.int .i64 k) := bcellv hb3 (p0)
  have p1 : w3.cell? ⟨w.heap.size + 1, 1, none⟩ = some (.int .i64 c) := bcellv hb3 (p1)
  have p2 : w3.cell? ⟨w.heap.size + 1, 2, none⟩ = some (.int .i64 f) := bcellv hb3 (p2)
  have i0 : w3.cell? ⟨w.heap.size + 2, 0, none⟩ = some (.int .i64 m) := bcellv hb3 (i0)
  have i1 : w3.cell? ⟨w.heap.size + 2, 1, none⟩ = some (.int .i64 s) := bcellv hb3 (i1)
  have r0 : w3.cell? ⟨w.heap.size + 3, 0, none⟩ = some (.int .i64 0) := bcellv hb3 (r0)
  have r1 : w3.cell? ⟨w.heap.size + 3, 1, none⟩ = some (.int .i64 0) := bcellv hb3 (r1)
  have r2 : w3.cell? ⟨w.heap.size + 3, 2, none⟩ = some (.slice none 0 0) := bcellv hb3 (r2)
  have r3 : ∀ i, w3.frozen? ⟨w.heap.size + 3, i, none⟩ = false := fun i => (World.frozen?_of_block (a := ⟨w.heap.size + 3, i, none⟩) (hb3.block (w.heap.size + 3) (World.block_lt_of_cell? _ _ r0'))).trans (r3 i)
  have hbw3 : Below w.heap.size w w3 := by (repeat (first | exact Below.refl _ _ | assumption | refine Below.drew ?_ | refine below_drewN ?_ _ | refine balloc ?_ _ | refine Below.setCell ?_ (by first | (simp; done) | (simp; omega) | omega) _ | refine bchain (by assumption) ?_))
  have hm3 : MdAt w3 (.agg #[.int .i64 bs, .int .i64 lm, .slice a n cap]) bs lm ws g := MdAt.below ⟨a, cap, by rw [hn], hr⟩ hbw3
  go_wp2_with fail
  have o0 : ∀ x, (over w3 x).cell? ⟨w.heap.size, 0, none⟩ = some (.int .i64 bs) := over_cell q0
  have o1 : ∀ x, (over w3 x).cell? ⟨w.heap.size, 1, none⟩ = some (.int .i64 lm) := over_cell q1
  have o2 : ∀ x, (over w3 x).cell? ⟨w.heap.size, 2, none⟩ = some (.slice a n cap) := over_cell q2
  (refine wp_region_over (by kernel_rfl) (by kernel_rfl) ?_); (repeat (go_big_quiet_step ((first | (go_at_call 41; exact calls_over (h4 _ (hm3.below (over_below _ _)))))))); (refine wpQuiet_nil ?_)
  intro w4 hb4
  clear o0 o1 o2
  have r0' := r0
  have q0 : w4.cell? ⟨w.heap.size, 0, none⟩ = some (.int .i64 bs) := bcellv hb4 (q0)
  have q1 : w4.cell? ⟨w.heap.size, 1, none⟩ = some (.int .i64 lm) := bcellv hb4 (q1)
  have q2 : w4.cell? ⟨w.heap.size, 2, none⟩ = some (.slice a n cap) := bcellv hb4 (q2)
  have p0 : w4.cell? ⟨w.heap.size + 1, 0, none⟩ = some (.int .i64 k) := bcellv hb4 (p0)
  have p1 : w4.cell? ⟨w.heap.size + 1, 1, none⟩ = some (.int .i64 c) := bcellv hb4 (p1)
  have p2 : w4.cell? ⟨w.heap.size + 1, 2, none⟩ = some (.int .i64 f) := bcellv hb4 (p2)
  have i0 : w4.cell? ⟨w.heap.size + 2, 0, none⟩ = some (.int .i64 m) := bcellv hb4 (i0)
  have i1 : w4.cell? ⟨w.heap.size + 2, 1, none⟩ = some (.int .i64 s) := bcellv hb4 (i1)
  have r0 : w4.cell? ⟨w.heap.size + 3, 0, none⟩ = some (.int .i64 0) := bcellv hb4 (r0)
  have r1 : w4.cell? ⟨w.heap.size + 3, 1, none⟩ = some (.int .i64 0) := bcellv hb4 (r1)
  have r2 : w4.cell? ⟨w.heap.size + 3, 2, none⟩ = some (.slice none 0 0) := bcellv hb4 (r2)
  have r3 : ∀ i, w4.frozen? ⟨w.heap.size + 3, i, none⟩ = false := fun i => (World.frozen?_of_block (a := ⟨w.heap.size + 3, i, none⟩) (hb4.block (w.heap.size + 3) (World.block_lt_of_cell? _ _ r0'))).trans (r3 i)
  clear h1 h2 h3 h4
  go_wp2
  exact bodyPost_ret (v := .tuple #[.agg #[.int .i64 bs, .int .i64 lm, .slice a n cap], .int .i64 0, .int .i64 8]) (by simp [results, Try.results26, go_sem, r0, r1, r2]) rfl ⟨rfl, by (repeat (first | exact Below.refl _ _ | assumption | refine Below.drew ?_ | refine below_drewN ?_ _ | refine balloc ?_ _ | refine Below.setCell ?_ (by first | (simp; done) | (simp; omega) | omega) _ | refine bchain (by assumption) ?_))⟩
end Go.Proofs.Ytafailcjdkmdhaa
