/-
  refmeshref06.Truncate.
-/
import Derived.Test.YtafailcjdkmdhaaRAlloc2
namespace Go.Proofs.Ytafailcjdkmdhaa
open Go.RowKit
set_option linter.unusedSimpArgs false
set_option linter.unusedVariables false

theorem okT_iff {bs : Int} {ws : List Int} {x : Int} : okT bs ws x ↔ (x = bs + ws.length ∧ bs + (stopAt ws 0 : Nat) = x) ∨ x ∈ objA bs ws := by
  unfold okT seqL hitT objA
  constructor
  · rintro ⟨y, hy, h1, h2⟩
    rcases List.mem_append.1 hy with hy | hy
    · obtain ⟨j, hj, rfl⟩ := List.mem_map.1 hy
      exact .inr (List.mem_map.2 ⟨j, hj, h1⟩)
    · rw [List.mem_singleton] at hy
      subst hy
      rcases h2 with h2 | h2
      · cases h2
      · exact .inl ⟨h2, h1⟩
  · rintro (⟨h1, h2⟩ | h)
    · exact ⟨_, List.mem_append.2 (.inr (List.mem_singleton.2 rfl)), h2, .inr h1⟩
    · obtain ⟨j, hj, h1⟩ := List.mem_map.1 h
      exact ⟨(bs + (j : Int), true), List.mem_append.2 (.inl (List.mem_map.2 ⟨j, hj, rfl⟩)), h1, .inl rfl⟩
theorem okT_bd {bs : Int} {ws : List Int} {x : Int} (h : okT bs ws x) : bs ≤ x ∧ x ≤ bs + ws.length := by
  obtain ⟨y, hy, h1, _⟩ := h
  have := seqL_bd hy
  omega
theorem take_mem {zs : List Int} {x z : Int} {t : Nat} (h : zs[t]? = some z) : x ∈ zs.take (t + 1) ↔ x ∈ zs.take t ∨ z = x := by
  have hl := (List.getElem?_eq_some_iff.1 h).1
  rw [List.take_succ_eq_append_getElem hl, List.mem_append, List.mem_singleton]
  have : zs[t] = z := by
    have := List.getElem?_eq_getElem hl
    rw [this] at h
    exact Option.some.inj h
  rw [this]
  constructor
  · rintro (h | h)
    · exact .inl h
    · exact .inr h.symm
  · rintro (h | h)
    · exact .inl h
    · exact .inr h.symm
set_option maxRecDepth 100000 in
set_option maxHeartbeats 2000000 in
theorem rtrunc_no {w : World} {v : Value} {bs lm : Int} {ws : List Int} {g : Option Nat} (h : MdAt w v bs lm ws g) (hk : SpOk bs lm ws) (x0 : Int) (hok : ¬ okT bs ws x0) :
    Calls Try.prog 37 #[v, .int .i64 x0] w fun e w' => e = .returned (.tuple #[v, .int .i64 2]) ∧ Below w.heap.size w w' := by
  have hW := fun (W : World) (H : MdAt W v bs lm ws g) => rwalk_any H hk
  have hT := fun (W : World) (H : MdAt W v bs lm ws g) => rtop_any H hk
  obtain ⟨x, hx⟩ : ∃ x, x = x0 := ⟨_, rfl⟩
  rw [← hx] at hok ⊢
  rw [okT_iff] at hok
  have HX := Lib.hid hx
  clear hx
  obtain ⟨i0', hi0, hz0, hz1, hz2⟩ := info_parts u64_info'
  have hml : maxLen = 9223372036854775807 := rfl
  have b0 := hk.b0
  have b1 := hk.top
  have b2 := hk.lm1
  have hzl := objs_len (ws := ws) ws.length 0 (by omega) (by omega)
  have hxl : (objA bs ws).length = (objs ws 0).length := by unfold objA; simp
  obtain ⟨A, cap, rfl, hr⟩ := h
  have h1 : ∀ o o', MdAt ((w.alloc o).alloc o') (.agg #[.int .i64 bs, .int .i64 lm, .slice A ws.length cap]) bs lm ws g := fun o o' => MdAt.below ⟨A, cap, rfl, hr⟩ (balloc (balloc (Below.refl _ _) _) _)
  have hcap := hr.1
  obtain ⟨n, hn⟩ : ∃ n, ws.length = n := ⟨_, rfl⟩
  obtain ⟨zs, hzs⟩ : ∃ zs, objA bs ws = zs := ⟨_, rfl⟩
  obtain ⟨st, hst⟩ : ∃ st : Int, bs + ((stopAt ws 0 : Nat) : Int) = st := ⟨_, rfl⟩
  simp only [hn, hzs, hst] at hW hT h1 hok b1 hzl hxl hcap ⊢
  have HN := Lib.hid hn
  have HOK := Lib.hid hok
  clear hst hzs hn hok
  go_enter Try.func37, Try.ntmps37
  go_wp2_with fail
  refine (hW _ (h1 _ _)).mono ?_
  rintro e w1 ⟨v', rfl, hrow, hb1⟩
  have iv := IntsV.of_row hrow
  have e0 : w1.heap[w.heap.size]? = some (.cells #[.int .i64 bs, .int .i64 lm, .slice A n cap] 43 (0, 0)) := bblock hb1 (by repeat (first | exact alloc_at _ (by simp) | refine alloc_lt _ ?_))
  have e1 : w1.heap[w.heap.size + 1]? = some (.cells #[.int .i64 0, .int .i64 0, .slice none 0 0] 43 (0, 0)) := bblock hb1 (by repeat (first | exact alloc_at _ (by simp) | refine alloc_lt _ ?_))
  have m1 := (h1 _ _).below hb1
  have hbw1 : Below w.heap.size w w1 := by (repeat (first | exact Below.refl _ _ | assumption | refine Below.drew ?_ | refine below_drewN ?_ _ | refine balloc ?_ _ | refine Below.setCell ?_ (by first | (simp; done) | (simp; omega) | omega) _ | refine bchain (by assumption) ?_))
  clear hrow hb1 h1 hW
  have q0 : w1.cell? ⟨w.heap.size, 0, none⟩ = some (.int .i64 bs) := by rw [cell_of_block e0]; rfl
  have q1 : w1.cell? ⟨w.heap.size, 1, none⟩ = some (.int .i64 lm) := by rw [cell_of_block e0]; rfl
  have q2 : w1.cell? ⟨w.heap.size, 2, none⟩ = some (.slice A n cap) := by rw [cell_of_block e0]; rfl
  go_wp2_with fail
  refine (hT _ m1).mono ?_
  rintro e w2 ⟨rfl, hb2⟩
  have e0 := bblock hb2 e0
  have e1 := bblock hb2 e1
  have iv := iv.below hb2
  have hbw2 : Below w.heap.size w w2 := by (repeat (first | exact Below.refl _ _ | assumption | refine Below.drew ?_ | refine below_drewN ?_ _ | refine balloc ?_ _ | refine Below.setCell ?_ (by first | (simp; done) | (simp; omega) | omega) _ | refine bchain (by assumption) ?_))
  clear m1 hT q0 q1 q2 hb2 hbw1
  obtain ⟨a2, c2, rfl, n2, m2, r2⟩ := iv
  obtain ⟨m, hm⟩ : ∃ m, zs.length = m := ⟨_, rfl⟩
  rw [hm] at n2 hxl ⊢
  have HM := Lib.hid hm
  clear hm
  by_cases cx : x = bs + (n : Int)
  · have cb : (x == bs + (n : Int)) = true := by rw [beq_iff_eq]; exact cx
    have hin : ∀ b : Bool, b = (st == x) → (b = true ↔ ((x = bs + (n : Int) ∧ st = x) ∨ x ∈ zs.take 0)) := by rintro b rfl; simp [cx]
    have HIN := Lib.hid hin
    clear cx hin
    go_wp2_with fail
    go_loopw [8, 9] (fun p q wr => ∃ (t : Nat) (b : Bool), q = .int .i64 t ∧ t ≤ m ∧ p = .bool b ∧ (b = true ↔ ((x = bs + (n : Int) ∧ st = x) ∨ x ∈ zs.take t)) ∧ wr.heap[w.heap.size]? = some (.cells #[.int .i64 bs, .int .i64 lm, .slice A n cap] 43 (0, 0)) ∧ wr.heap[w.heap.size + 1]? = some (.cells #[.int .i64 0, .int .i64 0, .slice none 0 0] 43 (0, 0)) ∧ Below w.heap.size w wr ∧ Below w2.heap.size w2 wr) (fun p q wr => m - natOf q)
    case atStart => exact ⟨0, _, rfl, Nat.zero_le _, rfl, HIN.out _ rfl, e0, e1, hbw2, Below.refl _ _⟩
    case round =>
      obtain ⟨t, b, rfl, ht, rfl, hb, e0, e1, hbw, hbr⟩ := hrel
      clear HIN cb
      by_cases hlt : t < m
      · rcases r2 with r2 | ⟨b2, o2, rfl, r2⟩
        · have h0 := HM.out; rw [r2] at h0; simp at h0; omega
        obtain ⟨z, hz⟩ : ∃ z, zs[t]? = some z := ⟨_, List.getElem?_eq_getElem (by rw [HM.out]; omega)⟩
        have qz : wr.cell? ⟨b2, o2 + t, none⟩ = some (.int .i64 z) := bcellv hbr (r2 t z hz)
        have htm := take_mem (x := x) hz
        have s1 : ((t : Int)).toNat = t := by omega
        clear r2 hz
        cases b with
        | true =>
          have HB := Lib.hid (show (true = true ↔ ((x = bs + (n : Int) ∧ st = x) ∨ x ∈ zs.take (t + 1))) by rw [htm]; have := hb.1 rfl; exact ⟨fun _ => by rcases this with h | h; exact .inl h; exact .inr (.inl h), fun _ => rfl⟩)
          clear hb htm
          go_wp2
          go_roundw
          case rel => exact ⟨t + 1, true, by go_num, by omega, rfl, HB.out, e0, e1, hbw, hbr⟩
          case measure => simp [natOf]; omega
        | false =>
          have HB := Lib.hid (show ∀ c : Bool, c = (z == x) → (c = true ↔ ((x = bs + (n : Int) ∧ st = x) ∨ x ∈ zs.take (t + 1))) by
            rintro c rfl
            rw [htm, beq_iff_eq]
            have : ¬ ((x = bs + (n : Int) ∧ st = x) ∨ x ∈ zs.take t) := fun h => by have := hb.2 h; cases this
            constructor
            · exact fun h => .inr (.inr h)
            · rintro (h | h | h)
              · exact absurd (.inl h) this
              · exact absurd (.inr h) this
              · exact h)
          clear hb htm
          go_wp2
          go_roundw
          case rel => exact ⟨t + 1, _, by go_num, by omega, rfl, HB.out _ rfl, e0, e1, hbw, hbr⟩
          case measure => simp [natOf]; omega
      · have htl : zs.take t = zs := List.take_of_length_le (by rw [HM.out]; omega)
        rw [htl] at hb
        clear htl r2 n2
        cases b with
        | true => exact absurd (hb.1 rfl) HOK.out
        | false =>
          clear hb
          have q0 : wr.cell? ⟨w.heap.size, 0, none⟩ = some (.int .i64 bs) := by rw [cell_of_block e0]; rfl
          have q1 : wr.cell? ⟨w.heap.size, 1, none⟩ = some (.int .i64 lm) := by rw [cell_of_block e0]; rfl
          have q2 : wr.cell? ⟨w.heap.size, 2, none⟩ = some (.slice A n cap) := by rw [cell_of_block e0]; rfl
          have u0 : wr.cell? ⟨w.heap.size + 1, 0, none⟩ = some (.int .i64 0) := by rw [cell_of_block e1]; rfl
          have u1 : wr.cell? ⟨w.heap.size + 1, 1, none⟩ = some (.int .i64 0) := by rw [cell_of_block e1]; rfl
          have u2 : wr.cell? ⟨w.heap.size + 1, 2, none⟩ = some (.slice none 0 0) := by rw [cell_of_block e1]; rfl
          have u3 : ∀ i, wr.frozen? ⟨w.heap.size + 1, i, none⟩ = false := frozen_of_block e1
          clear e0 e1
          go_wp2
          exact bodyPost_ret (v := .tuple #[.agg #[.int .i64 bs, .int .i64 lm, .slice A n cap], .int .i64 2]) (by simp [results, Try.results37, go_sem, u0, u1, u2]) rfl ⟨rfl, by (repeat (first | exact Below.refl _ _ | assumption | refine Below.drew ?_ | refine below_drewN ?_ _ | refine balloc ?_ _ | refine Below.setCell ?_ (by first | (simp; done) | (simp; omega) | omega) _ | refine bchain (by assumption) ?_))⟩
  · have cb : (x == bs + (n : Int)) = false := by rw [beq_eq_false_iff_ne]; exact cx
    have hin : (false = true ↔ ((x = bs + (n : Int) ∧ st = x) ∨ x ∈ zs.take 0)) := by simp [cx]
    have HIN := Lib.hid hin
    clear cx hin
    go_wp2_with fail
    go_loopw [8, 9] (fun p q wr => ∃ (t : Nat) (b : Bool), q = .int .i64 t ∧ t ≤ m ∧ p = .bool b ∧ (b = true ↔ ((x = bs + (n : Int) ∧ st = x) ∨ x ∈ zs.take t)) ∧ wr.heap[w.heap.size]? = some (.cells #[.int .i64 bs, .int .i64 lm, .slice A n cap] 43 (0, 0)) ∧ wr.heap[w.heap.size + 1]? = some (.cells #[.int .i64 0, .int .i64 0, .slice none 0 0] 43 (0, 0)) ∧ Below w.heap.size w wr ∧ Below w2.heap.size w2 wr) (fun p q wr => m - natOf q)
    case atStart => exact ⟨0, _, rfl, Nat.zero_le _, rfl, HIN.out, e0, e1, hbw2, Below.refl _ _⟩
    case round =>
      obtain ⟨t, b, rfl, ht, rfl, hb, e0, e1, hbw, hbr⟩ := hrel
      clear HIN cb
      by_cases hlt : t < m
      · rcases r2 with r2 | ⟨b2, o2, rfl, r2⟩
        · have h0 := HM.out; rw [r2] at h0; simp at h0; omega
        obtain ⟨z, hz⟩ : ∃ z, zs[t]? = some z := ⟨_, List.getElem?_eq_getElem (by rw [HM.out]; omega)⟩
        have qz : wr.cell? ⟨b2, o2 + t, none⟩ = some (.int .i64 z) := bcellv hbr (r2 t z hz)
        have htm := take_mem (x := x) hz
        have s1 : ((t : Int)).toNat = t := by omega
        clear r2 hz
        cases b with
        | true =>
          have HB := Lib.hid (show (true = true ↔ ((x = bs + (n : Int) ∧ st = x) ∨ x ∈ zs.take (t + 1))) by rw [htm]; have := hb.1 rfl; exact ⟨fun _ => by rcases this with h | h; exact .inl h; exact .inr (.inl h), fun _ => rfl⟩)
          clear hb htm
          go_wp2
          go_roundw
          case rel => exact ⟨t + 1, true, by go_num, by omega, rfl, HB.out, e0, e1, hbw, hbr⟩
          case measure => simp [natOf]; omega
        | false =>
          have HB := Lib.hid (show ∀ c : Bool, c = (z == x) → (c = true ↔ ((x = bs + (n : Int) ∧ st = x) ∨ x ∈ zs.take (t + 1))) by
            rintro c rfl
            rw [htm, beq_iff_eq]
            have : ¬ ((x = bs + (n : Int) ∧ st = x) ∨ x ∈ zs.take t) := fun h => by have := hb.2 h; cases this
            constructor
            · exact fun h => .inr (.inr h)
            · rintro (h | h | h)
              · exact absurd (.inl h) this
              · exact absurd (.inr h) this
              · exact h)
          clear hb htm
          go_wp2
          go_roundw
          case rel => exact ⟨t + 1, _, by go_num, by omega, rfl, HB.out _ rfl, e0, e1, hbw, hbr⟩
          case measure => simp [natOf]; omega
      · have htl : zs.take t = zs := List.take_of_length_le (by rw [HM.out]; omega)
        rw [htl] at hb
        clear htl r2 n2
        cases b with
        | true => exact absurd (hb.1 rfl) HOK.out
        | false =>
          clear hb
          have q0 : wr.cell? ⟨w.heap.size, 0, none⟩ = some (.int .i64 bs) := by rw [cell_of_block e0]; rfl
          have q1 : wr.cell? ⟨w.heap.size, 1, none⟩ = some (.int .i64 lm) := by rw [cell_of_block e0]; rfl
          have q2 : wr.cell? ⟨w.heap.size, 2, none⟩ = some (.slice A n cap) := by rw [cell_of_block e0]; rfl
          have u0 : wr.cell? ⟨w.heap.size + 1, 0, none⟩ = some (.int .i64 0) := by rw [cell_of_block e1]; rfl
          have u1 : wr.cell? ⟨w.heap.size + 1, 1, none⟩ = some (.int .i64 0) := by rw [cell_of_block e1]; rfl
          have u2 : wr.cell? ⟨w.heap.size + 1, 2, none⟩ = some (.slice none 0 0) := by rw [cell_of_block e1]; rfl
          have u3 : ∀ i, wr.frozen? ⟨w.heap.size + 1, i, none⟩ = false := frozen_of_block e1
          clear e0 e1
          go_wp2
          exact bodyPost_ret (v := .tuple #[.agg #[.int .i64 bs, .int .i64 lm, .slice A n cap], .int .i64 2]) (by simp [results, Try.results37, go_sem, u0, u1, u2]) rfl ⟨rfl, by (repeat (first | exact Below.refl _ _ | assumption | refine Below.drew ?_ | refine below_drewN ?_ _ | refine balloc ?_ _ | refine Below.setCell ?_ (by first | (simp; done) | (simp; omega) | omega) _ | refine bchain (by assumption) ?_))⟩
set_option maxRecDepth 100000 in
set_option maxHeartbeats 2000000 in
theorem rtrunc_ok {w : World} {v : Value} {bs lm : Int} {ws : List Int} {g : Option Nat} (h : MdAt w v bs lm ws g) (hk : SpOk bs lm ws) (t0 : Nat) (ht0 : t0 ≤ ws.length) (hok : okT bs ws (bs + (t0 : Int))) :
    Calls Try.prog 37 #[v, .int .i64 (bs + (t0 : Int))] w fun e w' => MadeAt w (fun v' => .tuple #[v', .int .i64 0]) bs lm (ws.take t0) e w' := by
  have hW := fun (W : World) (H : MdAt W v bs lm ws g) => rwalk_any H hk
  have hT := fun (W : World) (H : MdAt W v bs lm ws g) => rtop_any H hk
  obtain ⟨x, hx⟩ : ∃ x, x = (bs + (t0 : Int)) := ⟨_, rfl⟩
  rw [← hx] at hok ⊢
  rw [okT_iff] at hok
  have HX := Lib.hid hx
  clear hx
  obtain ⟨i0', hi0, hz0, hz1, hz2⟩ := info_parts u64_info'
  have hml : maxLen = 9223372036854775807 := rfl
  have b0 := hk.b0
  have b1 := hk.top
  have b2 := hk.lm1
  have hzl := objs_len (ws := ws) ws.length 0 (by omega) (by omega)
  have hxl : (objA bs ws).length = (objs ws 0).length := by unfold objA; simp
  obtain ⟨A, cap, rfl, hr⟩ := h
  have h1 : ∀ o o', MdAt ((w.alloc o).alloc o') (.agg #[.int .i64 bs, .int .i64 lm, .slice A ws.length cap]) bs lm ws g := fun o o' => MdAt.below ⟨A, cap, rfl, hr⟩ (balloc (balloc (Below.refl _ _) _) _)
  have hcap := hr.1
  obtain ⟨n, hn⟩ : ∃ n, ws.length = n := ⟨_, rfl⟩
  obtain ⟨zs, hzs⟩ : ∃ zs, objA bs ws = zs := ⟨_, rfl⟩
  obtain ⟨st, hst⟩ : ∃ st : Int, bs + ((stopAt ws 0 : Nat) : Int) = st := ⟨_, rfl⟩
  simp only [hn, hzs, hst] at ht0 hW hT h1 hok b1 hzl hxl hcap ⊢
  have HN := Lib.hid hn
  have HOK := Lib.hid hok
  clear hst hzs hn hok
  go_enter Try.func37, Try.ntmps37
  go_wp2_with fail
  refine (hW _ (h1 _ _)).mono ?_
  rintro e w1 ⟨v', rfl, hrow, hb1⟩
  have iv := IntsV.of_row hrow
  have e0 : w1.heap[w.heap.size]? = some (.cells #[.int .i64 bs, .int .i64 lm, .slice A n cap] 43 (0, 0)) := bblock hb1 (by repeat (first | exact alloc_at _ (by simp) | refine alloc_lt _ ?_))
  have e1 : w1.heap[w.heap.size + 1]? = some (.cells #[.int .i64 0, .int .i64 0, .slice none 0 0] 43 (0, 0)) := bblock hb1 (by repeat (first | exact alloc_at _ (by simp) | refine alloc_lt _ ?_))
  have m1 := (h1 _ _).below hb1
  have hbw1 : Below w.heap.size w w1 := by (repeat (first | exact Below.refl _ _ | assumption | refine Below.drew ?_ | refine below_drewN ?_ _ | refine balloc ?_ _ | refine Below.setCell ?_ (by first | (simp; done) | (simp; omega) | omega) _ | refine bchain (by assumption) ?_))
  clear hrow hb1 h1 hW
  have q0 : w1.cell? ⟨w.heap.size, 0, none⟩ = some (.int .i64 bs) := by rw [cell_of_block e0]; rfl
  have q1 : w1.cell? ⟨w.heap.size, 1, none⟩ = some (.int .i64 lm) := by rw [cell_of_block e0]; rfl
  have q2 : w1.cell? ⟨w.heap.size, 2, none⟩ = some (.slice A n cap) := by rw [cell_of_block e0]; rfl
  go_wp2_with fail
  refine (hT _ m1).mono ?_
  rintro e w2 ⟨rfl, hb2⟩
  have e0 := bblock hb2 e0
  have e1 := bblock hb2 e1
  have iv := iv.below hb2
  have hbw2 : Below w.heap.size w w2 := by (repeat (first | exact Below.refl _ _ | assumption | refine Below.drew ?_ | refine below_drewN ?_ _ | refine balloc ?_ _ | refine Below.setCell ?_ (by first | (simp; done) | (simp; omega) | omega) _ | refine bchain (by assumption) ?_))
  clear m1 hT q0 q1 q2 hb2 hbw1
  obtain ⟨a2, c2, rfl, n2, m2, r2⟩ := iv
  obtain ⟨m, hm⟩ : ∃ m, zs.length = m := ⟨_, rfl⟩
  rw [hm] at n2 hxl ⊢
  have HM := Lib.hid hm
  clear hm
  by_cases cx : x = bs + (n : Int)
  · have cb : (x == bs + (n : Int)) = true := by rw [beq_iff_eq]; exact cx
    have hin : ∀ b : Bool, b = (st == x) → (b = true ↔ ((x = bs + (n : Int) ∧ st = x) ∨ x ∈ zs.take 0)) := by rintro b rfl; simp [cx]
    have HIN := Lib.hid hin
    clear cx hin
    go_wp2_with fail
    go_loopw [8, 9] (fun p q wr => ∃ (t : Nat) (b : Bool), q = .int .i64 t ∧ t ≤ m ∧ p = .bool b ∧ (b = true ↔ ((x = bs + (n : Int) ∧ st = x) ∨ x ∈ zs.take t)) ∧ wr.heap[w.heap.size]? = some (.cells #[.int .i64 bs, .int .i64 lm, .slice A n cap] 43 (0, 0)) ∧ wr.heap[w.heap.size + 1]? = some (.cells #[.int .i64 0, .int .i64 0, .slice none 0 0] 43 (0, 0)) ∧ Below w.heap.size w wr ∧ Below w2.heap.size w2 wr) (fun p q wr => m - natOf q)
    case atStart => exact ⟨0, _, rfl, Nat.zero_le _, rfl, HIN.out _ rfl, e0, e1, hbw2, Below.refl _ _⟩
    case round =>
      obtain ⟨t, b, rfl, ht, rfl, hb, e0, e1, hbw, hbr⟩ := hrel
      clear HIN cb
      by_cases hlt : t < m
      · rcases r2 with r2 | ⟨b2, o2, rfl, r2⟩
        · have h0 := HM.out; rw [r2] at h0; simp at h0; omega
        obtain ⟨z, hz⟩ : ∃ z, zs[t]? = some z := ⟨_, List.getElem?_eq_getElem (by rw [HM.out]; omega)⟩
        have qz : wr.cell? ⟨b2, o2 + t, none⟩ = some (.int .i64 z) := bcellv hbr (r2 t z hz)
        have htm := take_mem (x := x) hz
        have s1 : ((t : Int)).toNat = t := by omega
        clear r2 hz
        cases b with
        | true =>
          have HB := Lib.hid (show (true = true ↔ ((x = bs + (n : Int) ∧ st = x) ∨ x ∈ zs.take (t + 1))) by rw [htm]; have := hb.1 rfl; exact ⟨fun _ => by rcases this with h | h; exact .inl h; exact .inr (.inl h), fun _ => rfl⟩)
          clear hb htm
          go_wp2
          go_roundw
          case rel => exact ⟨t + 1, true, by go_num, by omega, rfl, HB.out, e0, e1, hbw, hbr⟩
          case measure => simp [natOf]; omega
        | false =>
          have HB := Lib.hid (show ∀ c : Bool, c = (z == x) → (c = true ↔ ((x = bs + (n : Int) ∧ st = x) ∨ x ∈ zs.take (t + 1))) by
            rintro c rfl
            rw [htm, beq_iff_eq]
            have : ¬ ((x = bs + (n : Int) ∧ st = x) ∨ x ∈ zs.take t) := fun h => by have := hb.2 h; cases this
            constructor
            · exact fun h => .inr (.inr h)
            · rintro (h | h | h)
              · exact absurd (.inl h) this
              · exact absurd (.inr h) this
              · exact h)
          clear hb htm
          go_wp2
          go_roundw
          case rel => exact ⟨t + 1, _, by go_num, by omega, rfl, HB.out _ rfl, e0, e1, hbw, hbr⟩
          case measure => simp [natOf]; omega
      · have htl : zs.take t = zs := List.take_of_length_le (by rw [HM.out]; omega)
        rw [htl] at hb
        clear htl r2 n2
        cases b with
        | false => exact absurd (hb.2 HOK.out) (by simp)
        | true =>
          clear hb
          obtain rfl : x = bs + (t0 : Int) := HX.out
          have q0 : wr.cell? ⟨w.heap.size, 0, none⟩ = some (.int .i64 bs) := by rw [cell_of_block e0]; rfl
          have q1 : wr.cell? ⟨w.heap.size, 1, none⟩ = some (.int .i64 lm) := by rw [cell_of_block e0]; rfl
          have q2 : wr.cell? ⟨w.heap.size, 2, none⟩ = some (.slice A n cap) := by rw [cell_of_block e0]; rfl
          have q2' := bcellv (balloc (Below.refl _ wr) (.cells #[] 32)) q2
          have q0' := bcellv (balloc (Below.refl _ wr) (.cells #[] 32)) q0
          have hr1 : RowAt wr A cap ws g := hr.keep (fun G o e ho => (hbw.block G (Array.getElem?_eq_some_iff.1 ho).1).trans ho)
          have hnews : NewsAt (wr.alloc (.cells #[] 32)) A t0 cap ((ws.take t0).map (Value.int .u64)) := (hr1.news (t := t0) (by rw [HN.out]; omega)).below (balloc (Below.refl _ wr) _)
          have hown0 := World.ownsRow_made wr (base := wr.heap.size) (e := 32) (size := 1) #[] 0 (Nat.le_refl _) (Nat.zero_le _) rfl
          have hlen : ((ws.take t0).map (Value.int .u64)).length = t0 := by rw [List.length_map, List.length_take, HN.out]; omega
          have hlen2 : (ws.take t0).length = t0 := by rw [List.length_take, HN.out]; omega
          have s1 : IntKind.i64.wrap (bs + (t0 : Int) - bs) = (t0 : Int) := by rw [show bs + (t0 : Int) - bs = (t0 : Int) by omega]; exact IntWalk.i64_in _ (by omega)
          have s2 : (bs + (t0 : Int) - bs).toNat = t0 := by omega
          have s3 : (0 : Int) ≤ bs + (t0 : Int) - bs := by omega
          have s4 : bs + (t0 : Int) - bs ≤ (cap : Int) := by omega
          have hadd : cap ≠ 0 → A.map (fun x : Addr => x.add (0 * 1)) = A := by
            intro hc
            obtain ⟨_, _, e3⟩ := hr1
            rcases e3 with ⟨_, e3⟩ | ⟨G, _, _, e3, _⟩
            · exact absurd e3 hc
            · rw [e3]; rfl
          have hsl : ∀ wx, (Instr.slice 41 (.slice A n cap) none (some (.int .i64 (t0 : Int))) none).run Try.prog wx = .ok (.slice A t0 cap) wx := by
            intro wx
            rw [run_slice_h (t := 41) (a := A) (len := n) (cap := cap) (ht := Try.underlying41) (kh := .i64) (h := (t0 : Int)) (h0 := by omega) (h2 := by omega)]
            have hso : (sizeOf (Try.prog.elem 41)).run Try.prog wx = .ok 1 wx := by kernel_rfl
            rw [hso]
            show Result.ok (sliced A 0 t0 cap 1) wx = _
            unfold sliced
            by_cases hc : cap = 0
            · simp [hc]
            · rw [if_neg (by omega), hadd hc]; simp
          clear hadd
          have hzw : w.heap.size + 2 ≤ wr.heap.size := by have := (Array.getElem?_eq_some_iff.1 e1).1; omega
          have HL := Lib.hid hlen
          have HL2 := Lib.hid hlen2
          clear hlen hlen2 hr1 m2
          go_wp2_with (at_builtin; refine wpList_append_fresh rfl _ _ 41 rfl wr.heap.size 32 i0' (.int .u64 0) 1 8 Try.underlying41 hi0 hz0 hz1 hz2 rfl (by decide) wr.heap.size rfl hown0 A t0 cap ((ws.take t0).map (Value.int .u64)) rfl (by rw [HL.out, Nat.mul_one]) hnews (u64_one _) (by omega) (by omega) (by simp) ?_; intro gv cv w3 hown1 hgrow1; have hb3 : Below wr.heap.size wr w3 := ((Below.refl _ wr).alloc (Nat.le_refl _) _).grown hgrow1 (by simp) (fun k e => by cases e; exact Nat.le_refl _); have e0 := bblock hb3 e0; have e1 := bblock hb3 e1; have hg := (hown1.lt gv rfl).1; have hbw3 : Below w.heap.size w w3 := (by (repeat (first | exact Below.refl _ _ | assumption | refine Below.drew ?_ | refine below_drewN ?_ _ | refine balloc ?_ _ | refine Below.setCell ?_ (by first | (simp; done) | (simp; omega) | omega) _ | refine bchain (by assumption) ?_))); have hrow := RowAt.of_row (ws := ws.take t0) (by rw [HL2.out]; exact hown1); obtain ⟨a2, cap2, g2, e2, hr2, hg2⟩ := hrow; simp only [Value.slice.injEq] at e2; obtain ⟨rfl, -, rfl⟩ := e2; have q0 : w3.cell? ⟨w.heap.size, 0, none⟩ = some (.int .i64 bs) := (by rw [cell_of_block e0]; rfl); have q1 : w3.cell? ⟨w.heap.size, 1, none⟩ = some (.int .i64 lm) := (by rw [cell_of_block e0]; rfl); have q2 : w3.cell? ⟨w.heap.size, 2, none⟩ = some (.slice A n cap) := (by rw [cell_of_block e0]; rfl); have q3 : ∀ i, w3.frozen? ⟨w.heap.size, i, none⟩ = false := frozen_of_block e0; have u0 : w3.cell? ⟨w.heap.size + 1, 0, none⟩ = some (.int .i64 0) := (by rw [cell_of_block e1]; rfl); have u1 : w3.cell? ⟨w.heap.size + 1, 1, none⟩ = some (.int .i64 0) := (by rw [cell_of_block e1]; rfl); have u2 : w3.cell? ⟨w.heap.size + 1, 2, none⟩ = some (.slice none 0 0) := (by rw [cell_of_block e1]; rfl); have u3 : ∀ i, w3.frozen? ⟨w.heap.size + 1, i, none⟩ = false := frozen_of_block e1; clear hgrow1 e0 e1 hb3)
          have hrf := (((hr2.apart ⟨w.heap.size, 2, none⟩ (.slice (some ⟨gv, 0, none⟩) t0 cv) (fun G e => by have := hg2 G e; show G ≠ w.heap.size; omega)).apart ⟨w.heap.size + 1, 0, none⟩ (.int .i64 bs) (fun G e => by have := hg2 G e; show G ≠ w.heap.size + 1; omega)).apart ⟨w.heap.size + 1, 1, none⟩ (.int .i64 lm) (fun G e => by have := hg2 G e; show G ≠ w.heap.size + 1; omega)).apart ⟨w.heap.size + 1, 2, none⟩ (.slice (some ⟨gv, 0, none⟩) t0 cv) (fun G e => by have := hg2 G e; show G ≠ w.heap.size + 1; omega)
          refine bodyPost_ret (v := .tuple #[.agg #[.int .i64 bs, .int .i64 lm, .slice (some ⟨gv, 0, none⟩) t0 cv], .int .i64 0]) (by simp [results, Try.results37, go_sem, u0, u1, u2]) rfl ⟨_, g2, rfl, ⟨some ⟨gv, 0, none⟩, cv, by rw [HL2.out], hrf⟩, fun G h => by have := hg2 G h; omega, ?_⟩
          exact (((hbw3.setCell (p := ⟨w.heap.size, 2, none⟩) (Nat.le_refl _) _).setCell (p := ⟨w.heap.size + 1, 0, none⟩) (by show w.heap.size ≤ w.heap.size + 1; omega) _).setCell (p := ⟨w.heap.size + 1, 1, none⟩) (by show w.heap.size ≤ w.heap.size + 1; omega) _).setCell (p := ⟨w.heap.size + 1, 2, none⟩) (by show w.heap.size ≤ w.heap.size + 1; omega) _
  · have cb : (x == bs + (n : Int)) = false := by rw [beq_eq_false_iff_ne]; exact cx
    have hin : (false = true ↔ ((x = bs + (n : Int) ∧ st = x) ∨ x ∈ zs.take 0)) := by simp [cx]
    have HIN := Lib.hid hin
    clear cx hin
    go_wp2_with fail
    go_loopw [8, 9] (fun p q wr => ∃ (t : Nat) (b : Bool), q = .int .i64 t ∧ t ≤ m ∧ p = .bool b ∧ (b = true ↔ ((x = bs + (n : Int) ∧ st = x) ∨ x ∈ zs.take t)) ∧ wr.heap[w.heap.size]? = some (.cells #[.int .i64 bs, .int .i64 lm, .slice A n cap] 43 (0, 0)) ∧ wr.heap[w.heap.size + 1]? = some (.cells #[.int .i64 0, .int .i64 0, .slice none 0 0] 43 (0, 0)) ∧ Below w.heap.size w wr ∧ Below w2.heap.size w2 wr) (fun p q wr => m - natOf q)
    case atStart => exact ⟨0, _, rfl, Nat.zero_le _, rfl, HIN.out, e0, e1, hbw2, Below.refl _ _⟩
    case round =>
      obtain ⟨t, b, rfl, ht, rfl, hb, e0, e1, hbw, hbr⟩ := hrel
      clear HIN cb
      by_cases hlt : t < m
      · rcases r2 with r2 | ⟨b2, o2, rfl, r2⟩
        · have h0 := HM.out; rw [r2] at h0; simp at h0; omega
        obtain ⟨z, hz⟩ : ∃ z, zs[t]? = some z := ⟨_, List.getElem?_eq_getElem (by rw [HM.out]; omega)⟩
        have qz : wr.cell? ⟨b2, o2 + t, none⟩ = some (.int .i64 z) := bcellv hbr (r2 t z hz)
        have htm := take_mem (x := x) hz
        have s1 : ((t : Int)).toNat = t := by omega
        clear r2 hz
        cases b with
        | true =>
          have HB := Lib.hid (show (true = true ↔ ((x = bs + (n : Int) ∧ st = x) ∨ x ∈ zs.take (t + 1))) by rw [htm]; have := hb.1 rfl; exact ⟨fun _ => by rcases this with h | h; exact .inl h; exact .inr (.inl h), fun _ => rfl⟩)
          clear hb htm
          go_wp2
          go_roundw
          case rel => exact ⟨t + 1, true, by go_num, by omega, rfl, HB.out, e0, e1, hbw, hbr⟩
          case measure => simp [natOf]; omega
        | false =>
          have HB := Lib.hid (show ∀ c : Bool, c = (z == x) → (c = true ↔ ((x = bs + (n : Int) ∧ st = x) ∨ x ∈ zs.take (t + 1))) by
            rintro c rfl
            rw [htm, beq_iff_eq]
            have : ¬ ((x = bs + (n : Int) ∧ st = x) ∨ x ∈ zs.take t) := fun h => by have := hb.2 h; cases this
            constructor
            · exact fun h => .inr (.inr h)
            · rintro (h | h | h)
              · exact absurd (.inl h) this
              · exact absurd (.inr h) this
              · exact h)
          clear hb htm
          go_wp2
          go_roundw
          case rel => exact ⟨t + 1, _, by go_num, by omega, rfl, HB.out _ rfl, e0, e1, hbw, hbr⟩
          case measure => simp [natOf]; omega
      · have htl : zs.take t = zs := List.take_of_length_le (by rw [HM.out]; omega)
        rw [htl] at hb
        clear htl r2 n2
        cases b with
        | false => exact absurd (hb.2 HOK.out) (by simp)
        | true =>
          clear hb
          obtain rfl : x = bs + (t0 : Int) := HX.out
          have q0 : wr.cell? ⟨w.heap.size, 0, none⟩ = some (.int .i64 bs) := by rw [cell_of_block e0]; rfl
          have q1 : wr.cell? ⟨w.heap.size, 1, none⟩ = some (.int .i64 lm) := by rw [cell_of_block e0]; rfl
          have q2 : wr.cell? ⟨w.heap.size, 2, none⟩ = some (.slice A n cap) := by rw [cell_of_block e0]; rfl
          have q2' := bcellv (balloc (Below.refl _ wr) (.cells #[] 32)) q2
          have q0' := bcellv (balloc (Below.refl _ wr) (.cells #[] 32)) q0
          have hr1 : RowAt wr A cap ws g := hr.keep (fun G o e ho => (hbw.block G (Array.getElem?_eq_some_iff.1 ho).1).trans ho)
          have hnews : NewsAt (wr.alloc (.cells #[] 32)) A t0 cap ((ws.take t0).map (Value.int .u64)) := (hr1.news (t := t0) (by rw [HN.out]; omega)).below (balloc (Below.refl _ wr) _)
          have hown0 := World.ownsRow_made wr (base := wr.heap.size) (e := 32) (size := 1) #[] 0 (Nat.le_refl _) (Nat.zero_le _) rfl
          have hlen : ((ws.take t0).map (Value.int .u64)).length = t0 := by rw [List.length_map, List.length_take, HN.out]; omega
          have hlen2 : (ws.take t0).length = t0 := by rw [List.length_take, HN.out]; omega
          have s1 : IntKind.i64.wrap (bs + (t0 : Int) - bs) = (t0 : Int) := by rw [show bs + (t0 : Int) - bs = (t0 : Int) by omega]; exact IntWalk.i64_in _ (by omega)
          have s2 : (bs + (t0 : Int) - bs).toNat = t0 := by omega
          have s3 : (0 : Int) ≤ bs + (t0 : Int) - bs := by omega
          have s4 : bs + (t0 : Int) - bs ≤ (cap : Int) := by omega
          have hadd : cap ≠ 0 → A.map (fun x : Addr => x.add (0 * 1)) = A := by
            intro hc
            obtain ⟨_, _, e3⟩ := hr1
            rcases e3 with ⟨_, e3⟩ | ⟨G, _, _, e3, _⟩
            · exact absurd e3 hc
            · rw [e3]; rfl
          have hsl : ∀ wx, (Instr.slice 41 (.slice A n cap) none (some (.int .i64 (t0 : Int))) none).run Try.prog wx = .ok (.slice A t0 cap) wx := by
            intro wx
            rw [run_slice_h (t := 41) (a := A) (len := n) (cap := cap) (ht := Try.underlying41) (kh := .i64) (h := (t0 : Int)) (h0 := by omega) (h2 := by omega)]
            have hso : (sizeOf (Try.prog.elem 41)).run Try.prog wx = .ok 1 wx := by kernel_rfl
            rw [hso]
            show Result.ok (sliced A 0 t0 cap 1) wx = _
            unfold sliced
            by_cases hc : cap = 0
            · simp [hc]
            · rw [if_neg (by omega), hadd hc]; simp
          clear hadd
          have hzw : w.heap.size + 2 ≤ wr.heap.size := by have := (Array.getElem?_eq_some_iff.1 e1).1; omega
          have HL := Lib.hid hlen
          have HL2 := Lib.hid hlen2
          clear hlen hlen2 hr1 m2
          go_wp2_with (at_builtin; refine wpList_append_fresh rfl _ _ 41 rfl wr.heap.size 32 i0' (.int .u64 0) 1 8 Try.underlying41 hi0 hz0 hz1 hz2 rfl (by decide) wr.heap.size rfl hown0 A t0 cap ((ws.take t0).map (Value.int .u64)) rfl (by rw [HL.out, Nat.mul_one]) hnews (u64_one _) (by omega) (by omega) (by simp) ?_; intro gv cv w3 hown1 hgrow1; have hb3 : Below wr.heap.size wr w3 := ((Below.refl _ wr).alloc (Nat.le_refl _) _).grown hgrow1 (by simp) (fun k e => by cases e; exact Nat.le_refl _); have e0 := bblock hb3 e0; have e1 := bblock hb3 e1; have hg := (hown1.lt gv rfl).1; have hbw3 : Below w.heap.size w w3 := (by (repeat (first | exact Below.refl _ _ | assumption | refine Below.drew ?_ | refine below_drewN ?_ _ | refine balloc ?_ _ | refine Below.setCell ?_ (by first | (simp; done) | (simp; omega) | omega) _ | refine bchain (by assumption) ?_))); have hrow := RowAt.of_row (ws := ws.take t0) (by rw [HL2.out]; exact hown1); obtain ⟨a2, cap2, g2, e2, hr2, hg2⟩ := hrow; simp only [Value.slice.injEq] at e2; obtain ⟨rfl, -, rfl⟩ := e2; have q0 : w3.cell? ⟨w.heap.size, 0, none⟩ = some (.int .i64 bs) := (by rw [cell_of_block e0]; rfl); have q1 : w3.cell? ⟨w.heap.size, 1, none⟩ = some (.int .i64 lm) := (by rw [cell_of_block e0]; rfl); have q2 : w3.cell? ⟨w.heap.size, 2, none⟩ = some (.slice A n cap) := (by rw [cell_of_block e0]; rfl); have q3 : ∀ i, w3.frozen? ⟨w.heap.size, i, none⟩ = false := frozen_of_block e0; have u0 : w3.cell? ⟨w.heap.size + 1, 0, none⟩ = some (.int .i64 0) := (by rw [cell_of_block e1]; rfl); have u1 : w3.cell? ⟨w.heap.size + 1, 1, none⟩ = some (.int .i64 0) := (by rw [cell_of_block e1]; rfl); have u2 : w3.cell? ⟨w.heap.size + 1, 2, none⟩ = some (.slice none 0 0) := (by rw [cell_of_block e1]; rfl); have u3 : ∀ i, w3.frozen? ⟨w.heap.size + 1, i, none⟩ = false := frozen_of_block e1; clear hgrow1 e0 e1 hb3)
          have hrf := (((hr2.apart ⟨w.heap.size, 2, none⟩ (.slice (some ⟨gv, 0, none⟩) t0 cv) (fun G e => by have := hg2 G e; show G ≠ w.heap.size; omega)).apart ⟨w.heap.size + 1, 0, none⟩ (.int .i64 bs) (fun G e => by have := hg2 G e; show G ≠ w.heap.size + 1; omega)).apart ⟨w.heap.size + 1, 1, none⟩ (.int .i64 lm) (fun G e => by have := hg2 G e; show G ≠ w.heap.size + 1; omega)).apart ⟨w.heap.size + 1, 2, none⟩ (.slice (some ⟨gv, 0, none⟩) t0 cv) (fun G e => by have := hg2 G e; show G ≠ w.heap.size + 1; omega)
          refine bodyPost_ret (v := .tuple #[.agg #[.int .i64 bs, .int .i64 lm, .slice (some ⟨gv, 0, none⟩) t0 cv], .int .i64 0]) (by simp [results, Try.results37, go_sem, u0, u1, u2]) rfl ⟨_, g2, rfl, ⟨some ⟨gv, 0, none⟩, cv, by rw [HL2.out], hrf⟩, fun G h => by have := hg2 G h; omega, ?_⟩
          exact (((hbw3.setCell (p := ⟨w.heap.size, 2, none⟩) (Nat.le_refl _) _).setCell (p := ⟨w.heap.size + 1, 0, none⟩) (by show w.heap.size ≤ w.heap.size + 1; omega) _).setCell (p := ⟨w.heap.size + 1, 1, none⟩) (by show w.heap.size ≤ w.heap.size + 1; omega) _).setCell (p := ⟨w.heap.size + 1, 2, none⟩) (by show w.heap.size ≤ w.heap.size + 1; omega) _
end Go.Proofs.Ytafailcjdkmdhaa
