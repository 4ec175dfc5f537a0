/-
  The walk of DistancePropagates.
-/
import Derived.Test.YtbkfjhbebhnijaaDpE
namespace Go.Proofs.Ytbkfjhbebhnijaa
open Go.RowKit Go.Maps Go.WideElems Go.ChangeShapes Go.MapKept
set_option linter.unusedSimpArgs false
set_option linter.unusedVariables false

set_option maxRecDepth 100000 in
set_option maxHeartbeats 16000000 in
theorem dpro_any {v1 v2 : Value} {l : List Stb} {S : List Sce} (w : World) (h1 : StbV w v1 l) (h2 : SceV w v2 S) (hw : ∀ x ∈ l, ∀ y ∈ x.ins, I63 y.c ∧ W64 y.n) :
    Calls Try.prog 10 #[v1, v2] w fun e w' => e = .returned (.bool true) ∧ Below w.heap.size w w' := by
  have HA := Lib.hid (fun W (H : Below w.heap.size w W) (q1 : l.length ≤ 20) (q2 : ∀ (i : Nat) (x : Stb), l[i]? = some x → x.ins.length ≤ 20) (q3 : S.length ≤ 20) => propagate_any (h1.below H) (h2.below H) q1 q2 q3 hw)
  have HB := Lib.hid (fun W (H : Below w.heap.size w W) (q1 : l.length ≤ 20) (q2 : ∀ (i : Nat) (x : Stb), l[i]? = some x → x.ins.length ≤ 20) => rpropagate_any (h1.below H) (h2.below H) q1 q2)
  obtain ⟨a2, c2, rfl, _⟩ := h2
  have HF := Lib.hid (fun W (H : Below w.heap.size w W) => fewstubs_any (h1.below H) a2 S.length c2)
  obtain ⟨a1, c1, rfl, n1, m1, _, r1⟩ := h1
  have R1 := Lib.hid (fun t (ht : t < l.length) => StbV.get r1 ht)
  obtain ⟨n, hn⟩ : ∃ n, l.length = n := ⟨_, rfl⟩
  have HN := Lib.hid hn
  obtain ⟨m, hm⟩ : ∃ n, S.length = n := ⟨_, rfl⟩
  rw [hn] at R1 n1
  simp only [hn, hm] at HA HB HF ⊢
  clear hn hm r1 hw
  go_enter Try.func10, Try.ntmps10
  go_wp2_with fail
  refine (awake_any _).mono ?_
  rintro e w1 ⟨rfl, hb1⟩
  go_wp2_with fail
  refine (HF.out _ hb1).mono ?_
  rintro e w2 ⟨b, rfl, hb, hb2⟩
  have hc2 := bchain hb2 hb1
  have HBB := Lib.hid hb
  clear hb2 hb1 hb
  cases b
  · go_wp2
    go_ret
    exact ⟨by simp, hc2⟩
  · obtain ⟨g1, g2, g3⟩ := HBB.out rfl
    rw [HN.out] at g1
    have HG := Lib.hid g3
    clear g3
    go_wp2_with fail
    refine (HA.out _ hc2 g1 HG.out g2).mono ?_
    rintro e w3 ⟨v3, rfl, hs3, hb3⟩
    have hc3 := bchain hb3 hc2
    obtain ⟨a3, c3, e3, n3, m3, z3, r3⟩ := id hs3
    rw [List.length_map, HN.out] at e3 n3
    subst e3
    have R3 := Lib.hid (fun t (ht : t < n) => StbV.get (t := t) r3 (by rw [List.length_map, HN.out]; exact ht))
    have HS3 := Lib.hid hs3
    clear hs3 r3 z3 hb3
    go_wp2_with fail
    refine (HB.out _ hc3 g1 HG.out).mono ?_
    rintro e w4 ⟨v4, rfl, hs4, hb4⟩
    have hc4 := bchain hb4 hc3
    obtain ⟨a4, c4, e4, _⟩ := id hs4
    rw [List.length_map, HN.out] at e4
    subst e4
    have HSS := Lib.hid (fun W (H : Below w4.heap.size w4 W) => samestubs_any ((HS3.out.below hb4).below H) (hs4.below H))
    clear hs4
    go_wp2_with fail
    refine (HSS.out _ (by (repeat (first | exact Below.refl _ _ | assumption | refine Below.drew ?_ | refine below_drewN ?_ _ | refine balloc ?_ _ | refine Below.setCell ?_ (by first | (simp; done) | (simp; omega) | omega) _ | refine bchain (by assumption) ?_)))).mono ?_
    rintro e w5 ⟨rfl, hb5⟩
    have hc5 := bchain hb5 hc4
    have hd5 := bchain hb5 hb4
    clear hb5 hb4
    go_wp2_with fail
    go_loopw [6] (fun i wr => ∃ t : Nat, t ≤ n ∧ i = .int .i64 t ∧ Below w5.heap.size w5 wr) (fun i _ => n - (intOf i).toNat)
    case atStart => exact ⟨0, Nat.zero_le _, rfl, Below.refl _ _⟩
    case round =>
      obtain ⟨t, ht, rfl, hbr⟩ := hrel
      have hbw := bchain hbr hc5
      have hb3r := bchain hbr hd5
      by_cases htn : t < n
      · obtain ⟨b1, f1, z, e1, hz, p0, p1, p2, p3, i1, p4, j1⟩ := R1.out t htn
        cases e1
        obtain ⟨b3, f3, y, e3, hy, q0, q1, q2, q3, i3, q4, j3⟩ := R3.out t htn
        cases e3
        rw [List.getElem?_map, hz] at hy
        simp only [Option.map_some, Option.some.injEq] at hy
        subst hy
        have hSa := fun W (H : Below wr.heap.size wr W) => same_any (x := z) (((show InsV w3 i3 z.ins from j3).below hb3r).below H) ((j1.below hbw).below H)
        unfold stbA at hSa
        obtain ⟨zo, zn, zr, zd, zi⟩ := z
        unfold proS at q0 q1 q2 q3
        dsimp only at p0 p1 p2 p3 p4 j1 q0 q1 q2 q3 q4 hSa
        obtain ⟨ai, ci, e5, _⟩ := id j1
        subst e5
        obtain ⟨ak, ck, e6, _⟩ := id (show InsV w3 i3 zi from j3)
        subst e6
        have HSA := Lib.hid hSa
        have s1 : ((t : Int)).toNat = t := by omega
        have p0 := bcellv hbw p0
        have p1 := bcellv hbw p1
        have p2 := bcellv hbw p2
        have p3 := bcellv hbw p3
        have p4 := bcellv hbw p4
        have q0 := bcellv hb3r q0
        have q1 := bcellv hb3r q1
        have q2 := bcellv hb3r q2
        have q3 := bcellv hb3r q3
        have q4 := bcellv hb3r q4
        generalize zi.length = ki at *
        generalize stubA zr (zi.map fun y => dOf y.c y.n S) = sd at *
        clear hz j1 j3 hSa
        have p3' : (wr.alloc (.cells #[.int .i64 zo, .int .u64 zn, .bool zr, .int .i64 sd, .slice ak ki ck] 52)).cell? ⟨b1, f1 + t * 5 + 3, none⟩ = some (.int .i64 zd) := bcellv (balloc (Below.refl _ _) _) p3
        go_upto_region 13 with fail
        have kV := alloc_get wr (.cells #[.int .i64 zo, .int .u64 zn, .bool zr, .int .i64 zd, .slice ak ki ck] 52)
        have hb6 : Below wr.heap.size wr (wr.alloc (.cells #[.int .i64 zo, .int .u64 zn, .bool zr, .int .i64 zd, .slice ak ki ck] 52)) := balloc (Below.refl _ _) _
        generalize wr.alloc (.cells #[.int .i64 zo, .int .u64 zn, .bool zr, .int .i64 zd, .slice ak ki ck] 52) = w6 at *
        have o0 : ∀ x, (over w6 x).cell? ⟨b1, f1 + t * 5, none⟩ = _ := over_cell (bcellv hb6 p0)
        have o1 : ∀ x, (over w6 x).cell? ⟨b1, f1 + t * 5 + 1, none⟩ = _ := over_cell (bcellv hb6 p1)
        have o2 : ∀ x, (over w6 x).cell? ⟨b1, f1 + t * 5 + 2, none⟩ = _ := over_cell (bcellv hb6 p2)
        have o3 : ∀ x, (over w6 x).cell? ⟨b1, f1 + t * 5 + 3, none⟩ = _ := over_cell (bcellv hb6 p3)
        have o4 : ∀ x, (over w6 x).cell? ⟨b1, f1 + t * 5 + 4, none⟩ = _ := over_cell (bcellv hb6 p4)
        have u0 : ∀ x, (over w6 x).cell? ⟨wr.heap.size, 0, none⟩ = some (.int .i64 zo) := over_cell (by rw [cell_of_block kV]; rfl)
        have u1 : ∀ x, (over w6 x).cell? ⟨wr.heap.size, 1, none⟩ = some (.int .u64 zn) := over_cell (by rw [cell_of_block kV]; rfl)
        have u2 : ∀ x, (over w6 x).cell? ⟨wr.heap.size, 2, none⟩ = some (.bool zr) := over_cell (by rw [cell_of_block kV]; rfl)
        have u3 : ∀ x, (over w6 x).cell? ⟨wr.heap.size, 3, none⟩ = some (.int .i64 zd) := over_cell (by rw [cell_of_block kV]; rfl)
        have u4 : ∀ x, (over w6 x).cell? ⟨wr.heap.size, 4, none⟩ = some (.slice ak ki ck) := over_cell (by rw [cell_of_block kV]; rfl)
        clear p0 p1 p2 p3 p3' p4 q0 q1 q2 q3 q4 kV
        go_wp2_with fail
        (refine wp_region_over (by kernel_rfl) (by kernel_rfl) ?_); (repeat (go_big_quiet_step (((go_at_call 29; exact calls_over (HSA.out _ (bchain (over_below _ _) hb6))))))); (refine wpQuiet_nil ?_)
        intro w7 hb7
        have hb8 := bchain hb6 hbr
        go_wp2
        go_roundw
        case rel => exact ⟨t + 1, by omega, by go_num, by (repeat (first | exact Below.refl _ _ | assumption | refine Below.drew ?_ | refine below_drewN ?_ _ | refine balloc ?_ _ | refine Below.setCell ?_ (by first | (simp; done) | (simp; omega) | omega) _ | refine bchain (by assumption) ?_))⟩
        case measure => simp [intOf]; omega
      · have htn' : t = n := by omega
        subst htn'
        go_wp2
        go_ret
        exact ⟨by simp, by (repeat (first | exact Below.refl _ _ | assumption | refine Below.drew ?_ | refine below_drewN ?_ _ | refine balloc ?_ _ | refine Below.setCell ?_ (by first | (simp; done) | (simp; omega) | omega) _ | refine bchain (by assumption) ?_))⟩
end Go.Proofs.Ytbkfjhbebhnijaa
