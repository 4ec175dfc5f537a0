/-
  refmeshtop.memory: the walk.
-/
import Derived.Test.YtgjaafcagnkfdaaTsW
namespace Go.Proofs.Ytgjaafcagnkfdaa
open Go.RowKit Go.Maps
set_option linter.unusedSimpArgs false
set_option linter.unusedVariables false

def MemP (w : World) (l : List OpC) (e : Ending) (w' : World) : Prop :=
  ∃ bO bY tb mb gO gY q, e = .returned (.tuple #[.agg #[.pointer (some ⟨bO, 0, none⟩), .pointer (some ⟨bY, 0, none⟩)], .pointer (some ⟨tb, 0, none⟩), q]) ∧ MemAt w' bO bY 2000 16779216 (mrun l).wo (mrun l).wy gO gY ∧ TabAt w' tb mb (mrun l).ca ∧ WrdsV w' q (mrun l).rt ∧ (∀ G, q.ownBlock = some G → ¬ MS bO bY gO gY G) ∧ ¬ MS bO bY gO gY tb ∧ ¬ MS bO bY gO gY mb ∧ Below w.heap.size w w' ∧ (∀ k, MS bO bY gO gY k → w.heap.size ≤ k) ∧ w.heap.size ≤ tb ∧ w.heap.size ≤ mb
set_option maxRecDepth 100000 in
set_option maxHeartbeats 8000000 in
theorem memory_any (a : Option Addr) (l : List OpC) (cap : Nat) (hcap : l.length ≤ cap) (hc63 : cap ≤ 9223372036854775807) (h60 : l.length ≤ 60) (w : World) (hops : OpsC w a l) : Calls Try.prog 5 #[.slice a l.length cap] w (MemP w l) := by
  obtain ⟨i0, hi0, hz0, hz1, hz2⟩ := info_parts int_info
  obtain ⟨j0, hj0, yz0, yz1, yz2⟩ := info_parts u64_info
  have hml : maxLen = 9223372036854775807 := rfl
  have n1 := fun W => onew_any 2000 W
  unfold NewMem at n1
  rw [show nmL 2000 = 2000 by decide, show (16777216 : Int) + 2000 = 16779216 by decide] at n1
  have hb0 : Below w.heap.size w (w.alloc (.cells #[.pointer none, .pointer none] 26)) := balloc (Below.refl _ _) _
  have k0 := alloc_get w (.cells #[.pointer none, .pointer none] 26 (0, 0))
  go_enter Try.func5, Try.ntmps5
  go_wp2_with fail
  refine (n1 _).mono ?_
  rintro e w1 ⟨bO, bY, hbO, hbY, rfl, hm1, hb1⟩
  have k1 := bblock hb1 k0
  have hB1 := bchain hb1 hb0
  clear n1 hb0 k0
  go_wp2_with fail
  refine (cnew_any _).mono ?_
  rintro e w2 ⟨tb, mb, rfl, ht2, hb2, htb, hmb⟩
  have k2 := bblock hb2 k1
  have hB2 := bchain hb2 hB1
  have hm2 := hm1.below hb2
  have hbal := balloc (Below.refl _ w2) (.cells #[.pointer (some ⟨bO, 0, none⟩), .pointer (some ⟨bY, 0, none⟩)] 26)
  have ltb := (Array.getElem?_eq_some_iff.1 ht2.blk).1
  have ltm : mb < w2.heap.size := by
    obtain ⟨D, h1, _⟩ := ht2.sn
    exact h1.lt
  rw [World.size_alloc] at hbO hbY
  have hz1s := hb1.size
  rw [World.size_alloc] at hz1s
  have hfr1 := hm1.fresh
  have hMM : MmAt (w2.alloc (.cells #[.pointer (some ⟨bO, 0, none⟩), .pointer (some ⟨bY, 0, none⟩)] 26)) w.heap.size (w2.heap.size + 1) w.heap.size w2.heap.size tb mb bO bY ⟨[], [], [], [], []⟩ none none (.slice none 0 0) (.slice none 0 0) := by
    have hms : ∀ k, MS bO bY none none k → w.heap.size + 1 ≤ k ∧ k < w1.heap.size := fun k hk => by
      have h1 : k < w1.heap.size := by
        by_cases hc : w1.heap.size ≤ k
        · exact absurd hk (hfr1 k hc)
        · omega
      rcases hk with (e | e) | (e | e)
      · omega
      · cases e
      · omega
      · cases e
    have hsz2 := hb2.size
    refine ⟨hm2.below hbal, ht2.below hbal, World.ownsRow_nil _ _ _ _, World.ownsRow_nil _ _ _ _, fun G e => (by cases e), fun G e => (by cases e), ⟨fun h => by have := hms _ h; omega, fun h => by have := hms _ h; omega, fun h => by have := hms _ h; omega, fun h => by have := hms _ h; omega⟩, fun k hk => by have := hms k hk; omega, ⟨by omega, by omega, by omega, by omega, by omega, by omega, by omega, by omega, Nat.le_refl _, by omega, by simp, by omega⟩, bblock hbal k2, alloc_get _ _⟩
  have hBw := bchain hbal hB2
  have q50 : (w2.alloc (.cells #[.pointer (some ⟨bO, 0, none⟩), .pointer (some ⟨bY, 0, none⟩)] 26)).cell? ⟨w2.heap.size, 0, none⟩ = some (.pointer (some ⟨bO, 0, none⟩)) := by rw [cell_of_block (alloc_get _ _)]; rfl
  have q51 : (w2.alloc (.cells #[.pointer (some ⟨bO, 0, none⟩), .pointer (some ⟨bY, 0, none⟩)] 26)).cell? ⟨w2.heap.size, 1, none⟩ = some (.pointer (some ⟨bY, 0, none⟩)) := by rw [cell_of_block (alloc_get _ _)]; rfl
  clear hm1 hm2 ht2 hb2 hb1 hB1 hB2 hbal hfr1 k1 k2 hbO hbY htb hmb ltb ltm hz1s
  go_wp2_with fail
  obtain ⟨w3, hw3⟩ : ∃ W, w2.alloc (.cells #[.pointer (some ⟨bO, 0, none⟩), .pointer (some ⟨bY, 0, none⟩)] 26) = W := ⟨_, rfl⟩
  rw [hw3] at hMM hBw ⊢
  obtain ⟨b5, hb5⟩ : ∃ b, w2.heap.size = b := ⟨_, rfl⟩
  obtain ⟨N, hN⟩ : ∃ N, b5 + 1 = N := ⟨_, rfl⟩
  rw [hb5] at hMM ⊢
  rw [hN] at hMM
  obtain ⟨b2, hb2⟩ : ∃ b, w.heap.size = b := ⟨_, rfl⟩
  rw [hb2] at hMM ⊢
  have HB2E := Lib.hid hb2
  clear hw3 hb5 hN q50 q51 hb2
  go_loopw [7, 8, 33] (fun p q i wr => ∃ (t : Nat) (gO gY : Option Nat), t ≤ l.length ∧ i = .int .i64 t ∧ MmAt wr b2 N b2 b5 tb mb bO bY (mrun (l.take t)) gO gY p q ∧ Below b2 w wr) (fun _ _ i _ => l.length - (intOf i).toNat)
  case atStart => exact ⟨0, _, _, Nat.zero_le _, rfl, hMM, by rw [← HB2E.out]; exact hBw⟩
  case round =>
    clear hMM hBw
    obtain ⟨t, gO, gY, htl, rfl, hH, hBr⟩ := hrel
    have k50 : wr.cell? ⟨b5, 0, none⟩ = some (.pointer (some ⟨bO, 0, none⟩)) := by rw [cell_of_block hH.k5]; rfl
    have k51 : wr.cell? ⟨b5, 1, none⟩ = some (.pointer (some ⟨bY, 0, none⟩)) := by rw [cell_of_block hH.k5]; rfl
    have z5 : b5 < wr.heap.size := (Array.getElem?_eq_some_iff.1 hH.k5).1
    by_cases hlt : t < l.length
    · obtain ⟨o, ho⟩ : ∃ o, l[t]? = some o := ⟨_, List.getElem?_eq_getElem hlt⟩
      rcases hops with h0 | ⟨b, off, rfl, hbz, hO⟩
      · rw [h0] at hlt; simp at hlt
      obtain ⟨c0, c1, c2, c3, ok⟩ := hO t o ho
      have hbr' : Below w.heap.size w wr := by rw [HB2E.out]; exact hBr
      have c0 := bcellv hbr' c0
      have c1 := bcellv hbr' c1
      have c2 := bcellv hbr' c2
      have c3 := bcellv hbr' c3
      have cz := World.block_lt_of_cell? _ _ c0
      have HRUN := Lib.hid (show mrun (l.take (t + 1)) = mst (mrun (l.take t)) o by rw [take_snoc7 ho, mrun_snoc])
      have hbd := mrun_bd l t htl
      obtain ⟨s, hs⟩ : ∃ s, mrun (l.take t) = s := ⟨_, rfl⟩
      rw [hs] at hH HRUN hbd
      obtain ⟨kd, A, B, nf⟩ := o
      dsimp only at c0 c1 c2 c3
      obtain ⟨⟨o0, o1⟩, ⟨o2, o3⟩, ⟨o4, o5⟩, o6, o7⟩ := ok
      dsimp only at o0 o1 o2 o3 o4 o5 o6 o7
      have hl1 := hbd.a
      have hl2 := hbd.b
      have hl3 := hbd.c
      have HD := Lib.hid hbd.d
      have s1 : ((t : Int)).toNat = t := by omega
      have hd : decide ((t : Int) < (l.length : Int)) = true := by simpa using hlt
      have hf : Int.tmod nf 5 = nf % 5 := Int.tmod_eq_emod_of_nonneg o6
      have hf5 : 0 ≤ nf % 5 ∧ nf % 5 < 5 := by omega
      have hw8 : IntKind.u8.wrap (nf % 5) = nf % 5 := by simp [IntKind.wrap, IntKind.bits, IntKind.signed]; omega
      have hw9 : IntKind.i64.wrap (nf % 5) = nf % 5 := IntWalk.i64_in _ (by omega)
      have hwl : IntKind.i64.wrap (1 + (s.l.length : Int)) = 1 + (s.l.length : Int) := IntWalk.i64_in _ (by omega)
      obtain ⟨a7, c7, ru, hc7, hc7b⟩ := row_form hH.rp
      have hb3 := balloc (Below.refl _ wr) (.cells #[.int .u8 kd, .int .u8 A, .int .u8 B, .int .u8 nf] 38)
      have HB3 := Lib.hid hb3
      have HH := Lib.hid hH
      have HBR := Lib.hid hbr'
      have HBX := Lib.hid (show Below b2 w (wr.alloc (.cells #[.int .u8 kd, .int .u8 A, .int .u8 B, .int .u8 nf] 38)) by rw [← HB2E.out]; exact bchain hb3 hbr')
      subst ru
      clear hbr' hO hs hbd ho hb3 hBr
      by_cases hk1 : kd ≤ 1
      · have hdk : decide (kd ≤ 1) = true := by simpa using hk1
        by_cases hk0 : kd = 0
        · subst hk0
          have hA := alloc_any (HH.out.below HB3.out).mem.old (HH.out.below HB3.out).mem.okO 0 1 (nf % 5) 1 (1 + (s.l.length : Int))
          have hk := alOk (HH.out.below HB3.out).mem.okO 0 1 (nf % 5) 1 (1 + (s.l.length : Int))
          by_cases hE : alE 0 2000 s.wo 0 1 (nf % 5) 1 (1 + (s.l.length : Int)) = 0
          · have hrun : mrun (l.take (t + 1)) = ⟨alW 0 2000 s.wo 0 1 (nf % 5) 1 (1 + (s.l.length : Int)), s.wy, s.l ++ [alA 0 2000 s.wo 0 1 (nf % 5) 1 (1 + (s.l.length : Int))], s.ca, s.rt⟩ := by rw [HRUN.out]; unfold mst; rw [if_pos (by simp)]; unfold mAl; simp only [show ((0 : Int) == 1) = false from rfl]; rw [if_pos hE]
            rw [hE] at hA
            have HK := Lib.hid hk
            have HRN := Lib.hid hrun
            obtain ⟨ad, had⟩ : ∃ ad, alA 0 2000 s.wo 0 1 (nf % 5) 1 (1 + (s.l.length : Int)) = ad := ⟨_, rfl⟩
            rw [had] at hA HRN
            have HA := Lib.hid hA
            clear hk hA hrun had hE
            go_wp2_with fail
            refine HA.out.mono ?_
            rintro e w5 ⟨rfl, hn⟩
            have hk := HK.out
            obtain ⟨g', hm5, hM5, hg5⟩ := mem_old' (HH.out.below HB3.out).mem hn hk
            have hmono : Mods (fun k => MS bO bY gO gY k ∨ k = mb) _ w5 := hM5.mono (fun k hk => .inl hk)
            have hw5 := (HH.out.below HB3.out).write hm5 ((HH.out.below HB3.out).tab.mods hM5 (HH.out.ts).1 (HH.out.ts).2.1) hmono (fun k hk => by rcases hk with (e | e) | e <;> first | exact .inl (.inr e) | exact .inl (.inl (.inl e)) | exact (hg5 k e).imp (fun h => .inl (.inr h)) id)
            have hB5 := HBX.out.trans hw5.2
            have HW5 := Lib.hid hw5.1
            have HB5 := Lib.hid hB5
            have hown := hw5.1.rp
            have hz5 : N ≤ w5.heap.size := hw5.1.ne.2.2.2.2.2.2.2.2.2.2.1
            clear hn hk hm5 hM5 hg5 hmono hw5 hB5 HA
            go_wp2_with (at_builtin; refine wpList_append_news rfl _ _ 42 rfl N 3 i0 (.int .i64 0) 1 8 Try.underlying42 hi0 hz0 hz1 hz2 rfl (by decide) _ _ _ rfl (hown.alloc _) (some ⟨w5.heap.size, 0, none⟩) 1 1 [.int .i64 ad] rfl rfl (.inr ⟨_, rfl, cell_one_new _ _ _⟩) (by simp [Value.oneCell']) (by omega) (by omega) (by simp; omega) ?_; intro v' w6 hown' hgrow hat; have HP := Lib.hid (HW5.out.pushl hown' hgrow hat); clear hown' hgrow hat)
            go_wp2_with fail
            go_roundw
            case rel => exact ⟨t + 1, _, _, by omega, by go_num, by rw [HRN.out]; exact HP.out.1, HB5.out.trans HP.out.2⟩
            case measure => simp [intOf]; omega
          · have hrun : mrun (l.take (t + 1)) = ⟨alW 0 2000 s.wo 0 1 (nf % 5) 1 (1 + (s.l.length : Int)), s.wy, s.l, s.ca, s.rt⟩ := by rw [HRUN.out]; unfold mst; rw [if_pos (by simp)]; unfold mAl; simp only [show ((0 : Int) == 1) = false from rfl]; rw [if_neg hE]
            obtain ⟨ev, hev⟩ : ∃ ev, alE 0 2000 s.wo 0 1 (nf % 5) 1 (1 + (s.l.length : Int)) = ev := ⟨_, rfl⟩
            rw [hev] at hA hE
            have hd9 : (ev == 0) = false := by simpa using hE
            have HK := Lib.hid hk
            have HRN := Lib.hid hrun
            have HA := Lib.hid hA
            clear hk hA hrun hev
            go_wp2_with fail
            refine HA.out.mono ?_
            rintro e w5 ⟨rfl, hn⟩
            have hk := HK.out
            obtain ⟨g', hm5, hM5, hg5⟩ := mem_old' (HH.out.below HB3.out).mem hn hk
            have hmono : Mods (fun k => MS bO bY gO gY k ∨ k = mb) _ w5 := hM5.mono (fun k hk => .inl hk)
            have hw5 := (HH.out.below HB3.out).write hm5 ((HH.out.below HB3.out).tab.mods hM5 (HH.out.ts).1 (HH.out.ts).2.1) hmono (fun k hk => by rcases hk with (e | e) | e <;> first | exact .inl (.inr e) | exact .inl (.inl (.inl e)) | exact (hg5 k e).imp (fun h => .inl (.inr h)) id)
            have HW5 := Lib.hid hw5.1
            have HB5 := Lib.hid (HBX.out.trans hw5.2)
            clear hn hk hm5 hM5 hg5 hmono hw5 HA
            go_wp2_with fail
            go_roundw
            case rel => exact ⟨t + 1, _, _, by omega, by go_num, by rw [HRN.out]; exact HW5.out, HB5.out⟩
            case measure => simp [intOf]; omega

        · have hk11 : kd = 1 := by omega
          subst hk11
          have hA := alloc_any (HH.out.below HB3.out).mem.yng (HH.out.below HB3.out).mem.okY 0 1 (nf % 5) 1 (1 + (s.l.length : Int))
          have hk := alOk (HH.out.below HB3.out).mem.okY 0 1 (nf % 5) 1 (1 + (s.l.length : Int))
          by_cases hE : alE 16777216 16779216 s.wy 0 1 (nf % 5) 1 (1 + (s.l.length : Int)) = 0
          · have hrun : mrun (l.take (t + 1)) = ⟨s.wo, alW 16777216 16779216 s.wy 0 1 (nf % 5) 1 (1 + (s.l.length : Int)), s.l ++ [alA 16777216 16779216 s.wy 0 1 (nf % 5) 1 (1 + (s.l.length : Int))], s.ca, s.rt⟩ := by rw [HRUN.out]; unfold mst; rw [if_pos (by simp)]; unfold mAl; simp only [beq_self_eq_true]; rw [if_pos hE]
            rw [hE] at hA
            have HK := Lib.hid hk
            have HRN := Lib.hid hrun
            obtain ⟨ad, had⟩ : ∃ ad, alA 16777216 16779216 s.wy 0 1 (nf % 5) 1 (1 + (s.l.length : Int)) = ad := ⟨_, rfl⟩
            rw [had] at hA HRN
            have HA := Lib.hid hA
            clear hk hA hrun had hE
            go_wp2_with fail
            refine HA.out.mono ?_
            rintro e w5 ⟨rfl, hn⟩
            have hk := HK.out
            obtain ⟨g', hm5, hM5, hg5⟩ := mem_yng' (HH.out.below HB3.out).mem hn hk
            have hmono : Mods (fun k => MS bO bY gO gY k ∨ k = mb) _ w5 := hM5.mono (fun k hk => .inl hk)
            have hw5 := (HH.out.below HB3.out).write hm5 ((HH.out.below HB3.out).tab.mods hM5 (HH.out.ts).1 (HH.out.ts).2.1) hmono (fun k hk => by rcases hk with e | (e | e) <;> first | exact .inl (.inl e) | exact .inl (.inr (.inl e)) | exact (hg5 k e).imp (fun h => .inr (.inr h)) id)
            have hB5 := HBX.out.trans hw5.2
            have HW5 := Lib.hid hw5.1
            have HB5 := Lib.hid hB5
            have hown := hw5.1.rp
            have hz5 : N ≤ w5.heap.size := hw5.1.ne.2.2.2.2.2.2.2.2.2.2.1
            clear hn hk hm5 hM5 hg5 hmono hw5 hB5 HA
            go_wp2_with (at_builtin; refine wpList_append_news rfl _ _ 42 rfl N 3 i0 (.int .i64 0) 1 8 Try.underlying42 hi0 hz0 hz1 hz2 rfl (by decide) _ _ _ rfl (hown.alloc _) (some ⟨w5.heap.size, 0, none⟩) 1 1 [.int .i64 ad] rfl rfl (.inr ⟨_, rfl, cell_one_new _ _ _⟩) (by simp [Value.oneCell']) (by omega) (by omega) (by simp; omega) ?_; intro v' w6 hown' hgrow hat; have HP := Lib.hid (HW5.out.pushl hown' hgrow hat); clear hown' hgrow hat)
            go_wp2_with fail
            go_roundw
            case rel => exact ⟨t + 1, _, _, by omega, by go_num, by rw [HRN.out]; exact HP.out.1, HB5.out.trans HP.out.2⟩
            case measure => simp [intOf]; omega
          · have hrun : mrun (l.take (t + 1)) = ⟨s.wo, alW 16777216 16779216 s.wy 0 1 (nf % 5) 1 (1 + (s.l.length : Int)), s.l, s.ca, s.rt⟩ := by rw [HRUN.out]; unfold mst; rw [if_pos (by simp)]; unfold mAl; simp only [beq_self_eq_true]; rw [if_neg hE]
            obtain ⟨ev, hev⟩ : ∃ ev, alE 16777216 16779216 s.wy 0 1 (nf % 5) 1 (1 + (s.l.length : Int)) = ev := ⟨_, rfl⟩
            rw [hev] at hA hE
            have hd9 : (ev == 0) = false := by simpa using hE
            have HK := Lib.hid hk
            have HRN := Lib.hid hrun
            have HA := Lib.hid hA
            clear hk hA hrun hev
            go_wp2_with fail
            refine HA.out.mono ?_
            rintro e w5 ⟨rfl, hn⟩
            have hk := HK.out
            obtain ⟨g', hm5, hM5, hg5⟩ := mem_yng' (HH.out.below HB3.out).mem hn hk
            have hmono : Mods (fun k => MS bO bY gO gY k ∨ k = mb) _ w5 := hM5.mono (fun k hk => .inl hk)
            have hw5 := (HH.out.below HB3.out).write hm5 ((HH.out.below HB3.out).tab.mods hM5 (HH.out.ts).1 (HH.out.ts).2.1) hmono (fun k hk => by rcases hk with e | (e | e) <;> first | exact .inl (.inl e) | exact .inl (.inr (.inl e)) | exact (hg5 k e).imp (fun h => .inr (.inr h)) id)
            have HW5 := Lib.hid hw5.1
            have HB5 := Lib.hid (HBX.out.trans hw5.2)
            clear hn hk hm5 hM5 hg5 hmono hw5 HA
            go_wp2_with fail
            go_roundw
            case rel => exact ⟨t + 1, _, _, by omega, by go_num, by rw [HRN.out]; exact HW5.out, HB5.out⟩
            case measure => simp [intOf]; omega

      · have hdk : decide (kd ≤ 1) = false := by simpa using hk1
        by_cases hl0 : s.l.length = 0
        · have hrun : mrun (l.take (t + 1)) = s := by rw [HRUN.out]; unfold mst; rw [if_neg hk1, if_pos hl0]
          have HRN := Lib.hid hrun
          have hdl : ((s.l.length : Int) == 0) = true := by rw [hl0]; rfl
          clear hH hrun
          go_wp2_with fail
          go_roundw
          case rel => exact ⟨t + 1, gO, gY, by omega, by go_num, by rw [HRN.out]; exact HH.out.below HB3.out, HBX.out⟩
          case measure => simp [intOf]; omega
        · have hdl : ((s.l.length : Int) == 0) = false := beq_eq_false_iff_ne.2 (by omega)
          obtain ⟨An, rfl⟩ : ∃ An : Nat, A = An := ⟨A.toNat, by omega⟩
          obtain ⟨Bn, rfl⟩ : ∃ Bn : Nat, B = Bn := ⟨B.toNat, by omega⟩
          have hA := mPk_get hl0 An
          have hB := mPk_get hl0 Bn
          have hxA := HD.out _ (mPk_mem hl0 (An : Int))
          have hxB := HD.out _ (mPk_mem hl0 (Bn : Int))
          obtain ⟨G, cc, e7, qA⟩ := row_cellI hH.rp hA
          obtain ⟨G', cc', e7', qB⟩ := row_cellI hH.rp hB
          rw [e7] at e7'
          simp only [Value.slice.injEq, Option.some.injEq, Addr.mk.injEq, and_true, true_and] at e7'
          obtain ⟨rfl, rfl⟩ := e7'
          simp only [Value.slice.injEq] at e7
          obtain ⟨rfl, _, rfl⟩ := e7
          have mA : Int.tmod (An : Int) (s.l.length : Int) = ((An % s.l.length : Nat) : Int) := rfl
          have mB : Int.tmod (Bn : Int) (s.l.length : Int) = ((Bn % s.l.length : Nat) : Int) := rfl
          have lA : An % s.l.length < s.l.length := Nat.mod_lt _ (by omega)
          have lB : Bn % s.l.length < s.l.length := Nat.mod_lt _ (by omega)
          have tA : (((An % s.l.length : Nat) : Int)).toNat = An % s.l.length := by omega
          have tB : (((Bn % s.l.length : Nat) : Int)).toNat = Bn % s.l.length := by omega
          have lA' : ((An % s.l.length : Nat) : Int) < (s.l.length : Int) := by omega
          have lB' : ((Bn % s.l.length : Nat) : Int) < (s.l.length : Int) := by omega
          have wA : IntKind.i64.wrap ((An % s.l.length : Nat) : Int) = ((An % s.l.length : Nat) : Int) := IntWalk.i64_in _ (by omega)
          have wB : IntKind.i64.wrap ((Bn % s.l.length : Nat) : Int) = ((Bn % s.l.length : Nat) : Int) := IntWalk.i64_in _ (by omega)
          have wA2 : IntKind.i64.wrap (An : Int) = (An : Int) := IntWalk.i64_in _ (by omega)
          have wB2 : IntKind.i64.wrap (Bn : Int) = (Bn : Int) := IntWalk.i64_in _ (by omega)
          have HRUN2 := Lib.hid (show mrun (l.take (t + 1)) = if kd = 2 then mSt s (mPk s.l (An : Int)) (nf % 5) (mPk s.l (Bn : Int) * 4 + 2) else if kd = 3 then mSt s (mPk s.l (An : Int)) (nf % 5) (4 * (Bn : Int) + 1) else if kd = 4 then mRt s (mPk s.l (Bn : Int) * 4 + 2) else s by rw [HRUN.out]; unfold mst; rw [if_neg hk1, if_neg hl0])
          obtain ⟨x, hx⟩ : ∃ x, mPk s.l (An : Int) = x := ⟨_, rfl⟩
          obtain ⟨y, hy⟩ : ∃ y, mPk s.l (Bn : Int) = y := ⟨_, rfl⟩
          rw [hx] at qA hxA HRUN2
          rw [hy] at qB hxB HRUN2
          have wy1 : IntKind.u64.wrap y = y := u64_wraps _ (by omega) (by omega)
          have wy2 : IntKind.u64.wrap (y * 4) = y * 4 := u64_wraps _ (by omega) (by omega)
          have wy3 : IntKind.u64.wrap (y * 4 + 2) = y * 4 + 2 := u64_wraps _ (by omega) (by omega)
          have wb1 : IntKind.u64.wrap (Bn : Int) = (Bn : Int) := u64_wraps _ (by omega) (by omega)
          have wb2 : IntKind.u64.wrap (4 * (Bn : Int)) = 4 * (Bn : Int) := u64_wraps _ (by omega) (by omega)
          have wb3 : IntKind.u64.wrap (4 * (Bn : Int) + 1) = 4 * (Bn : Int) + 1 := u64_wraps _ (by omega) (by omega)
          have kv := alloc_get wr (.cells #[.int .u8 kd, .int .u8 (An : Int), .int .u8 (Bn : Int), .int .u8 nf] 38 (0, 0))
          have qA := bcellv HB3.out qA
          have qB := bcellv HB3.out qB
          have k50 := bcellv HB3.out k50
          have k51 := bcellv HB3.out k51
          have zG := World.block_lt_of_cell? _ _ qA
          have HN5 := Lib.hid hH.ne
          obtain ⟨V, hV⟩ : ∃ V, wr.heap.size = V := ⟨_, rfl⟩
          obtain ⟨w4, hw4⟩ : ∃ W, wr.alloc (.cells #[.int .u8 kd, .int .u8 (An : Int), .int .u8 (Bn : Int), .int .u8 nf] 38) = W := ⟨_, rfl⟩
          have z54 : b5 < w4.heap.size := by rw [← hw4]; simp; omega
          rw [hw4] at HB3 HBX kv qA qB k50 k51 zG
          rw [hV] at kv
          have v0 : w4.cell? ⟨V, 0, none⟩ = some (.int .u8 kd) := by rw [cell_of_block kv]; rfl
          have v1 : w4.cell? ⟨V, 1, none⟩ = some (.int .u8 (An : Int)) := by rw [cell_of_block kv]; rfl
          have v2 : w4.cell? ⟨V, 2, none⟩ = some (.int .u8 (Bn : Int)) := by rw [cell_of_block kv]; rfl
          have v3 : w4.cell? ⟨V, 3, none⟩ = some (.int .u8 nf) := by rw [cell_of_block kv]; rfl
          have zV : V < w4.heap.size := (Array.getElem?_eq_some_iff.1 kv).1
          have hux : U64 (y * 4 + 2) := U64.of (by omega) (by omega)
          have hub : U64 (4 * (Bn : Int) + 1) := U64.of (by omega) (by omega)
          clear hA hB hx hy kv hH
          by_cases h2 : kd = 2
          · subst h2
            have HRN := Lib.hid (HRUN2.out.trans (if_pos rfl))
            unfold mSt at HRN
            go_wp2_with fail
            go_quiet (fail)
            obtain ⟨wq, hwq⟩ : ∃ W, w4.drewN nq = W := ⟨_, rfl⟩
            have hq4 : Below w4.heap.size w4 wq := by rw [← hwq]; exact below_drewN (Below.refl _ _) nq
            rw [hwq]
            have HBX := Lib.hid (show Below b2 w wq from HBX.out.trans (hq4.mono (by have := HN5.out.2.2.2.2.1; have := HB3.out.size; have := HN5.out.2.2.2.2.2.2.2.2.2.2.1; omega)))
            have HB3 := Lib.hid (show Below wr.heap.size wr wq from bchain hq4 HB3.out)
            have v0 := bcellv hq4 v0
            have v3 := bcellv hq4 v3
            have k50 := bcellv hq4 k50
            have k51 := bcellv hq4 k51
            have v2 := bcellv hq4 v2
            have z54 := Nat.lt_of_lt_of_le z54 hq4.size
            have zV := Nat.lt_of_lt_of_le zV hq4.size
            clear hwq hq4
            have hBs := bst_any (HH.out.below HB3.out).mem (HH.out.below HB3.out).tab ⟨HH.out.ts.1, HH.out.ts.2.1⟩ (by omega) x (nf % 5) (y * 4 + 2) hux (by omega) (by omega)
            go_wp2_with fail
            refine hBs.mono ?_
            rintro e w5 ⟨ev, rfl, hm5, ht5, hM5⟩
            have hw5 := (HH.out.below HB3.out).write hm5 ht5 hM5 (fun k hk => .inl hk)
            have HW5 := Lib.hid hw5.1
            have HB5 := Lib.hid (HBX.out.trans hw5.2)
            clear hm5 ht5 hM5 hw5 hBs
            go_wp2_with fail
            go_roundw
            case rel => exact ⟨t + 1, gO, gY, by omega, by go_num, by rw [HRN.out]; exact HW5.out, HB5.out⟩
            case measure => simp [intOf]; omega
          · by_cases h3 : kd = 3
            · subst h3
              have HRN := Lib.hid (HRUN2.out.trans ((if_neg (by decide)).trans (if_pos rfl)))
              unfold mSt at HRN
              go_wp2_with fail
              go_quiet (fail)
              obtain ⟨wq, hwq⟩ : ∃ W, w4.drewN nq = W := ⟨_, rfl⟩
              have hq4 : Below w4.heap.size w4 wq := by rw [← hwq]; exact below_drewN (Below.refl _ _) nq
              rw [hwq]
              have HBX := Lib.hid (show Below b2 w wq from HBX.out.trans (hq4.mono (by have := HN5.out.2.2.2.2.1; have := HB3.out.size; have := HN5.out.2.2.2.2.2.2.2.2.2.2.1; omega)))
              have HB3 := Lib.hid (show Below wr.heap.size wr wq from bchain hq4 HB3.out)
              have v0 := bcellv hq4 v0
              have v3 := bcellv hq4 v3
              have k50 := bcellv hq4 k50
              have k51 := bcellv hq4 k51
              have v2 := bcellv hq4 v2
              have z54 := Nat.lt_of_lt_of_le z54 hq4.size
              have zV := Nat.lt_of_lt_of_le zV hq4.size
              clear hwq hq4
              have hBs := bst_any (HH.out.below HB3.out).mem (HH.out.below HB3.out).tab ⟨HH.out.ts.1, HH.out.ts.2.1⟩ (by omega) x (nf % 5) (4 * (Bn : Int) + 1) hub (by omega) (by omega)
              go_wp2_with fail
              refine hBs.mono ?_
              rintro e w5 ⟨ev, rfl, hm5, ht5, hM5⟩
              have hw5 := (HH.out.below HB3.out).write hm5 ht5 hM5 (fun k hk => .inl hk)
              have HW5 := Lib.hid hw5.1
              have HB5 := Lib.hid (HBX.out.trans hw5.2)
              clear hm5 ht5 hM5 hw5 hBs
              go_wp2_with fail
              go_roundw
              case rel => exact ⟨t + 1, gO, gY, by omega, by go_num, by rw [HRN.out]; exact HW5.out, HB5.out⟩
              case measure => simp [intOf]; omega
            · have hd2 : (kd == 2) = false := beq_eq_false_iff_ne.2 h2
              have hd3 : (kd == 3) = false := beq_eq_false_iff_ne.2 h3
              by_cases h4 : kd = 4
              · subst h4
                have HRN := Lib.hid (HRUN2.out.trans ((if_neg (by decide)).trans ((if_neg (by decide)).trans (if_pos rfl))))
                unfold mRt at HRN
                obtain ⟨a8, c8, r8, _, _⟩ := row_form HH.out.rq
                subst r8
                go_wp2_with fail
                go_quiet (fail)
                obtain ⟨wq, hwq⟩ : ∃ W, w4.drewN nq = W := ⟨_, rfl⟩
                have hq4 : Below w4.heap.size w4 wq := by rw [← hwq]; exact below_drewN (Below.refl _ _) nq
                rw [hwq]
                have HBX := Lib.hid (show Below b2 w wq from HBX.out.trans (hq4.mono (by have := HN5.out.2.2.2.2.1; have := HB3.out.size; have := HN5.out.2.2.2.2.2.2.2.2.2.2.1; omega)))
                have HB3 := Lib.hid (show Below wr.heap.size wr wq from bchain hq4 HB3.out)
                have v0 := bcellv hq4 v0
                have v3 := bcellv hq4 v3
                have k50 := bcellv hq4 k50
                have k51 := bcellv hq4 k51
                have v2 := bcellv hq4 v2
                have z54 := Nat.lt_of_lt_of_le z54 hq4.size
                have zV := Nat.lt_of_lt_of_le zV hq4.size
                clear hwq hq4
                have hown := (HH.out.below HB3.out).rq
                have hz5 : N ≤ wq.heap.size := (HH.out.below HB3.out).ne.2.2.2.2.2.2.2.2.2.2.1
                go_wp2_with (at_builtin; refine wpList_append_news rfl _ _ 28 rfl N 49 j0 (.int .u64 0) 1 8 Try.underlying28 hj0 yz0 yz1 yz2 rfl (by decide) _ _ _ rfl (hown.alloc _) (some ⟨wq.heap.size, 0, none⟩) 1 1 [.int .u64 (y * 4 + 2)] rfl rfl (.inr ⟨_, rfl, cell_one_new _ _ _⟩) (by simp [Value.oneCell']) (by omega) (by omega) (by simp; omega) ?_; intro v' w6 hown' hgrow hat; have HP := Lib.hid ((HH.out.below HB3.out).pushr hown' hgrow hat); clear hown' hgrow hat)
                go_wp2_with fail
                go_roundw
                case rel => exact ⟨t + 1, gO, gY, by omega, by go_num, by rw [HRN.out]; exact HP.out.1, HBX.out.trans HP.out.2⟩
                case measure => simp [intOf]; omega
              · have hd4 : (kd == 4) = false := beq_eq_false_iff_ne.2 h4
                have HRN := Lib.hid (HRUN2.out.trans ((if_neg h2).trans ((if_neg h3).trans (if_neg h4))))
                go_wp2_with fail
                go_quiet (fail)
                obtain ⟨wq, hwq⟩ : ∃ W, w4.drewN nq = W := ⟨_, rfl⟩
                have hq4 : Below w4.heap.size w4 wq := by rw [← hwq]; exact below_drewN (Below.refl _ _) nq
                rw [hwq]
                have HBX := Lib.hid (show Below b2 w wq from HBX.out.trans (hq4.mono (by have := HN5.out.2.2.2.2.1; have := HB3.out.size; have := HN5.out.2.2.2.2.2.2.2.2.2.2.1; omega)))
                have HB3 := Lib.hid (show Below wr.heap.size wr wq from bchain hq4 HB3.out)
                have v0 := bcellv hq4 v0
                have v3 := bcellv hq4 v3
                have k50 := bcellv hq4 k50
                have k51 := bcellv hq4 k51
                have v2 := bcellv hq4 v2
                have z54 := Nat.lt_of_lt_of_le z54 hq4.size
                have zV := Nat.lt_of_lt_of_le zV hq4.size
                clear hwq hq4
                go_wp2_with fail
                go_roundw
                case rel => exact ⟨t + 1, gO, gY, by omega, by go_num, by rw [HRN.out]; exact HH.out.below HB3.out, HBX.out⟩
                case measure => simp [intOf]; omega
    · have hl2 : t = l.length := by omega
      subst hl2
      rw [List.take_length] at hH
      have hd : decide ((l.length : Int) < (l.length : Int)) = false := by simp
      obtain ⟨a8, c8, rfl, _, _⟩ := row_form hH.rq
      have q20 : wr.cell? ⟨b2, 0, none⟩ = some (.pointer none) := by rw [cell_of_block hH.k2]; rfl
      have q21 : wr.cell? ⟨b2, 1, none⟩ = some (.pointer none) := by rw [cell_of_block hH.k2]; rfl
      have f2 : ∀ i, wr.frozen? ⟨b2, i, none⟩ = false := frozen_of_block hH.k2
      have z2 : b2 < wr.heap.size := (Array.getElem?_eq_some_iff.1 hH.k2).1
      have hk2 : ((wr.setCell ⟨b2, 0, none⟩ (.pointer (some ⟨bO, 0, none⟩))).setCell ⟨b2, 1, none⟩ (.pointer (some ⟨bY, 0, none⟩))).heap[b2]? = some (.cells #[.pointer (some ⟨bO, 0, none⟩), .pointer (some ⟨bY, 0, none⟩)] 26 (0, 0)) := block_set (block_set hH.k2)
      have r0 : ((wr.setCell ⟨b2, 0, none⟩ (.pointer (some ⟨bO, 0, none⟩))).setCell ⟨b2, 1, none⟩ (.pointer (some ⟨bY, 0, none⟩))).cell? ⟨b2, 0, none⟩ = some (.pointer (some ⟨bO, 0, none⟩)) := by rw [cell_of_block hk2]; rfl
      have r1 : ((wr.setCell ⟨b2, 0, none⟩ (.pointer (some ⟨bO, 0, none⟩))).setCell ⟨b2, 1, none⟩ (.pointer (some ⟨bY, 0, none⟩))).cell? ⟨b2, 1, none⟩ = some (.pointer (some ⟨bY, 0, none⟩)) := by rw [cell_of_block hk2]; rfl
      have hM : Mods (fun k => k = b2) wr ((wr.setCell ⟨b2, 0, none⟩ (.pointer (some ⟨bO, 0, none⟩))).setCell ⟨b2, 1, none⟩ (.pointer (some ⟨bY, 0, none⟩))) := ((Mods.refl (fun k => k = b2) wr : Mods (fun k => k = b2) wr wr).setCell (p := ⟨b2, 0, none⟩) (.inl rfl) _).setCell (p := ⟨b2, 1, none⟩) (.inl rfl) _
      have hfin : MemP w l (.returned (.tuple #[.agg #[.pointer (some ⟨bO, 0, none⟩), .pointer (some ⟨bY, 0, none⟩)], .pointer (some ⟨tb, 0, none⟩), .slice a8 (mrun l).rt.length c8])) ((wr.setCell ⟨b2, 0, none⟩ (.pointer (some ⟨bO, 0, none⟩))).setCell ⟨b2, 1, none⟩ (.pointer (some ⟨bY, 0, none⟩))) := by
        obtain ⟨n1, n2, n3, n4, n5, n6, n7, n8, n9, n10, n11, n12⟩ := hH.ne
        have hbt : b2 ≠ tb := fun e => by
          have h1 := hH.tab.blk
          have h2 := hH.k2
          rw [← e, h2] at h1
          cases h1
        refine ⟨bO, bY, tb, mb, gO, gY, _, rfl, hH.mem.mods hM (fun k hk e => hH.ts.2.2.1 (by rw [← e]; exact hk)), hH.tab.mods hM (fun e => hbt e.symm) (fun e => n7 e.symm), WrdsV.of_row (row_keep7 hH.rq (fun G o e ho => mblock hM ho (fun h => by have := (row_lt hH.rq G e).2; omega))), hH.qn, hH.ts.1, hH.ts.2.1, ?_, fun k hk => by rw [HB2E.out]; exact hH.ge k hk, by rw [HB2E.out]; exact n1, by rw [HB2E.out]; exact n2⟩
        rw [HB2E.out]
        exact hBr.trans (hM.below (by omega) (fun k hk => by omega))
      have HFIN := Lib.hid hfin
      clear hfin hM hk2 hH hBr
      go_wp2
      exact bodyPost_ret (v := .tuple #[.agg #[.pointer (some ⟨bO, 0, none⟩), .pointer (some ⟨bY, 0, none⟩)], .pointer (some ⟨tb, 0, none⟩), .slice a8 (mrun l).rt.length c8]) (by simp [results, Try.results5, go_sem, r0, r1]) rfl HFIN.out
end Go.Proofs.Ytgjaafcagnkfdaa
