/-
  law 31: distance.Propagate.
-/
import Derived.Test.YtbkfjhbebhnijaaDpC
namespace Go.Proofs.Ytbkfjhbebhnijaa
open Go.RowKit Go.Maps Go.WideElems Go.ChangeShapes Go.MapKept
set_option linter.unusedSimpArgs false
set_option linter.unusedVariables false

def proS (S : List Sce) (x : Stb) : Stb := { x with d := stubA x.r (x.ins.map fun y => dOf y.c y.n S) }
/-- The row of the results after t rounds: the pairs P. -/
def OutP (S : List Sce) (l : List Stb) (t : Nat) (P : List (Stb × Value)) : Prop := P.length = l.length ∧ ∀ (j : Nat) (x : Stb), l[j]? = some x → ∃ iv, P[j]? = some (if j < t then proS S x else x, iv)
theorem OutP.start {S : List Sce} {l : List Stb} {P : List (Stb × Value)} (h : P.map (·.1) = l) : OutP S l 0 P := by
  subst h
  refine ⟨by simp, fun j x hx => ?_⟩
  rw [List.getElem?_map] at hx
  obtain ⟨p, hp, rfl⟩ := Option.map_eq_some_iff.1 hx
  exact ⟨p.2, by rw [hp, if_neg (by omega)]⟩
theorem OutP.at {S : List Sce} {l : List Stb} {t : Nat} {P : List (Stb × Value)} (h : OutP S l t P) (ht : t < l.length) : ∃ x iv, l[t]? = some x ∧ P[t]? = some (x, iv) := by
  obtain ⟨iv, hiv⟩ := h.2 t _ (List.getElem?_eq_getElem ht)
  exact ⟨_, iv, List.getElem?_eq_getElem ht, by rw [hiv, if_neg (by omega)]⟩
theorem OutP.step {S : List Sce} {l : List Stb} {t : Nat} {P : List (Stb × Value)} {x : Stb} (h : OutP S l t P) (hx : l[t]? = some x) (v1 v2 : Value) : OutP S l (t + 1) ((P.set t (x, v1)).set t (proS S x, v2)) := by
  have ht : t < l.length := (List.getElem?_eq_some_iff.1 hx).1
  refine ⟨by rw [List.length_set, List.length_set]; exact h.1, fun j y hy => ?_⟩
  by_cases hj : j = t
  · subst hj
    rw [hx] at hy
    cases hy
    exact ⟨v2, by rw [List.getElem?_set_self (by rw [List.length_set, h.1]; exact ht), if_pos (by omega)]⟩
  · obtain ⟨iv, hiv⟩ := h.2 j y hy
    refine ⟨iv, ?_⟩
    rw [List.getElem?_set_ne (fun e => hj e.symm), List.getElem?_set_ne (fun e => hj e.symm), hiv]
    by_cases h1 : j < t
    · rw [if_pos h1, if_pos (by omega)]
    · rw [if_neg h1, if_neg (by omega)]
theorem OutP.done {S : List Sce} {l : List Stb} {P : List (Stb × Value)} (h : OutP S l l.length P) : P.map (·.1) = l.map (proS S) := by
  refine List.ext_getElem? fun j => ?_
  rw [List.getElem?_map, List.getElem?_map]
  cases hj : l[j]? with
  | none =>
    have : P[j]? = none := List.getElem?_eq_none (by rw [h.1]; exact List.getElem?_eq_none_iff.1 hj)
    rw [this]; rfl
  | some x =>
    obtain ⟨iv, hiv⟩ := h.2 j x hj
    have hlt : j < l.length := (List.getElem?_eq_some_iff.1 hj).1
    rw [hiv, if_pos hlt]; rfl
/-- Where the results lie. -/
def OutV (w : World) (N : Nat) (a : Option Addr) (P : List (Stb × Value)) : Prop := P = [] ∨ ∃ g, a = some ⟨g, 0, none⟩ ∧ RowS w N g P
theorem OutV.below {w w' : World} {N : Nat} {a : Option Addr} {P : List (Stb × Value)} (h : OutV w N a P) (hb : Below w.heap.size w w') : OutV w' N a P := h.imp id (fun ⟨g, e, h⟩ => ⟨g, e, h.below hb⟩)
theorem OutV.stb {w : World} {N n cap : Nat} {a : Option Addr} {P : List (Stb × Value)} (h : OutV w N a P) (hn : P.length = n) (hc : n ≤ cap) (hm : cap ≤ 9223372036854775807) (h0 : a = none → cap = 0) : StbV w (.slice a n cap) (P.map (·.1)) := by
  rcases h with rfl | ⟨g, rfl, h⟩
  · simp at hn
    subst hn
    exact ⟨a, cap, rfl, hc, hm, h0, .inl rfl⟩
  · subst hn
    exact h.stb hc hm
def dRow (S : List Sce) (l : List Ins) (u : Nat) : List Int := (l.take u).map fun y => dOf y.c y.n S
theorem dRow_snoc {S : List Sce} {l : List Ins} {u : Nat} {y : Ins} (h : l[u]? = some y) : dRow S l (u + 1) = dRow S l u ++ [dOf y.c y.n S] := by
  obtain ⟨h1, h2⟩ := List.getElem?_eq_some_iff.1 h
  unfold dRow
  rw [List.take_succ_eq_append_getElem h1, h2, List.map_append]
  rfl
theorem dRow_len {S : List Sce} {l : List Ins} {u : Nat} : (dRow S l u).length ≤ u := by unfold dRow; simp; omega
theorem proS_eq {S : List Sce} {x : Stb} {k : Nat} (h : x.ins.length = k) : proS S x = { x with d := stubA x.r (dRow S x.ins k) } := by
  unfold proS dRow
  rw [← h, List.take_length]
theorem InsV.at {w : World} {a : Option Addr} {n c : Nat} {l : List Ins} (h : InsV w (.slice a n c) l) {t : Nat} (ht : t < n) : ∃ b off : Nat, ∃ y : Ins, a = some ⟨b, off, none⟩ ∧ l[t]? = some y ∧ InsAt w b (off + t * 3) y := by
  obtain ⟨a', c', e, _, _, _, h⟩ := h
  simp only [Value.slice.injEq] at e
  obtain ⟨rfl, rfl, rfl⟩ := e
  exact InsV.get h ht
set_option maxRecDepth 100000 in
set_option maxHeartbeats 16000000 in
theorem propagate_any {w : World} {v1 v2 : Value} {l : List Stb} {S : List Sce} (h1 : StbV w v1 l) (h2 : SceV w v2 S) (hl : l.length ≤ 20) (hins : ∀ (i : Nat) (x : Stb), l[i]? = some x → x.ins.length ≤ 20) (hSl : S.length ≤ 20) (hw : ∀ x ∈ l, ∀ y ∈ x.ins, I63 y.c ∧ W64 y.n) :
    Calls Try.prog 27 #[v1, v2] w fun e w' => ∃ v', e = .returned v' ∧ StbV w' v' (l.map (proS S)) ∧ Below w.heap.size w w' := by
  have hCl := fun W (H : Below w.heap.size w W) => cloneS_any (h1.below H) (by omega)
  have HCl := Lib.hid hCl
  have HI := Lib.hid hins
  have HW := Lib.hid hw
  clear hCl hins hw
  obtain ⟨a1, c1, rfl, n1, m1, _⟩ := h1
  obtain ⟨a2, c2, rfl, n2, m2, hS, r2⟩ := h2
  have r2' := fun t (ht : t < S.length) => SceV.get r2 ht
  have R2 := Lib.hid r2'
  have HS := Lib.hid hS
  clear r2 r2' hS
  obtain ⟨n, hn⟩ : ∃ n, l.length = n := ⟨_, rfl⟩
  have HN := Lib.hid hn
  rw [hn] at n1 hl
  obtain ⟨m, hm⟩ : ∃ n, S.length = n := ⟨_, rfl⟩
  have HM := Lib.hid hm
  rw [hm] at n2 hSl R2
  rw [hn, hm]
  rw [hn] at HCl
  clear hn hm
  have hmm := @run_makeMap Try.prog
  go_enter Try.func27, Try.ntmps27
  go_wp2_with fail
  have hk0 : KnownAt (w.alloc (.map #[] 0)) w.heap.size (S.take 0) := known_made w
  have hb0 : Below w.heap.size w (w.alloc (.map #[] 0)) := balloc (Below.refl _ _) _
  generalize w.alloc (.map #[] 0) = w0 at *
  clear hmm
  go_loopw [22] (fun i wr => ∃ t : Nat, t ≤ m ∧ i = .int .i64 t ∧ KnownAt wr w.heap.size (S.take t) ∧ Below w.heap.size w wr) (fun i _ => m - (intOf i).toNat)
  case atStart => exact ⟨0, Nat.zero_le _, rfl, hk0, hb0⟩
  case round =>
    obtain ⟨t, ht, rfl, hK, hbr⟩ := hrel
    have hzk := hK.lt
    by_cases htn : t < m
    · obtain ⟨b1, f1, x, e1, hz, hx⟩ := R2.out t htn
      cases e1
      obtain ⟨p0, p1, p2, p3, p4, p5, p6, p7, p8, p9, p10, p11⟩ := hx.below hbr
      obtain ⟨hwc, hwn, hwd⟩ := HS.out x (List.mem_of_getElem? hz)
      have hsn := take_snoc hz
      have HSN := Lib.hid hsn
      have hKA := fun W (H : KnownAt W w.heap.size (S.take t)) (h : ((S.take t).find? (isOf x.c x.n)).isSome = true) => H.again h
      have HKA := Lib.hid hKA
      obtain ⟨xc, xn, x2, x3, x4, x5, xd, x7, x8, x9, x10, x11⟩ := x
      dsimp only at p0 p1 p2 p3 p4 p5 p6 p7 p8 p9 p10 p11 hwc hwn hwd HKA
      have HWc := Lib.hid hwc
      have HWn := Lib.hid hwn
      have HWd := Lib.hid hwd
      have s1 : ((t : Int)).toNat = t := by omega
      have hlk := ((hK.below (balloc (Below.refl _ _) _)).below (balloc (Below.refl _ _) _) : KnownAt ((wr.alloc (.cells #[.int .i64 xc, .int .u64 xn, .int .i64 x2, .int .i64 x3, .int .i64 x4, .int .i64 x5, .int .i64 xd, .bool x7, .bool x8, .bool x9, .int .i64 x10, .int .i64 x11] 69)).alloc (.cells #[.int .i64 xc, .int .u64 xn] 71)) w.heap.size (S.take t)).look hwc hwn
      have hK2 : KnownAt ((wr.alloc (.cells #[.int .i64 xc, .int .u64 xn, .int .i64 x2, .int .i64 x3, .int .i64 x4, .int .i64 x5, .int .i64 xd, .bool x7, .bool x8, .bool x9, .int .i64 x10, .int .i64 x11] 69)).alloc (.cells #[.int .i64 xc, .int .u64 xn] 71)) w.heap.size (S.take t) := (hK.below (balloc (Below.refl _ _) _)).below (balloc (Below.refl _ _) _)
      have HK2 := Lib.hid hK2
      clear hz hx hsn hKA hwc hwn hwd hK hK2
      obtain ⟨ok, hok⟩ : ∃ b, ((S.take t).find? (isOf xc xn)).isSome = b := ⟨_, rfl⟩
      rw [hok] at hlk
      have HOK := Lib.hid hok
      clear hok
      generalize knO (S.take t) xc xn = kv at *
      cases ok
      · go_wp2_with (at_mapUpdate; refine wpList_known rfl _ _ _ rfl w.heap.size (S.take t) ⟨xc, xn, x2, x3, x4, x5, xd, x7, x8, x9, x10, x11⟩ rfl HK2.out (by unfold maxLen; rw [List.length_take]; omega) rfl rfl HWc.out HWn.out HWd.out HOK.out ?_; intro w5 hk5 hg5)
        have hb5 : Below w.heap.size w w5 := (by (repeat (first | exact Below.refl _ _ | assumption | refine Below.drew ?_ | refine below_drewN ?_ _ | refine balloc ?_ _ | refine Below.setCell ?_ (by first | (simp; done) | (simp; omega) | omega) _ | refine bchain (by assumption) ?_)) : Below w.heap.size w ((wr.alloc (.cells #[.int .i64 xc, .int .u64 xn, .int .i64 x2, .int .i64 x3, .int .i64 x4, .int .i64 x5, .int .i64 xd, .bool x7, .bool x8, .bool x9, .int .i64 x10, .int .i64 x11] 69)).alloc (.cells #[.int .i64 xc, .int .u64 xn] 71))).grown hg5 (by simp; omega) (fun k e => by cases e; exact Nat.le_refl _)
        go_wp2
        go_roundw
        case rel => exact ⟨t + 1, by omega, by go_num, by rw [HSN.out]; exact hk5, hb5⟩
        case measure => simp [intOf]; omega
      · have hk5 := HKA.out _ HK2.out HOK.out
        have HK5 := Lib.hid hk5
        clear hk5
        go_wp2
        go_roundw
        case rel => exact ⟨t + 1, by omega, by go_num, by rw [HSN.out]; exact HK5.out, by (repeat (first | exact Below.refl _ _ | assumption | refine Below.drew ?_ | refine below_drewN ?_ _ | refine balloc ?_ _ | refine Below.setCell ?_ (by first | (simp; done) | (simp; omega) | omega) _ | refine bchain (by assumption) ?_))⟩
        case measure => simp [intOf]; omega
    · have htn' : t = m := by omega
      subst htn'
      obtain ⟨wo, hwo⟩ : ∃ W, W = wr := ⟨_, rfl⟩
      subst hwo
      have hKS : KnownAt wo w.heap.size S := by rw [← HM.out, List.take_length] at hK; exact hK
      have HKS := Lib.hid hKS
      clear hK hKS hk0
      go_wp2_with fail
      refine (HCl.out _ hbr).mono ?_
      rintro e w3 ⟨v', rfl, P, hR, hP, hb3⟩
      have hK3 := HKS.out.below hb3
      have hbw3 := bchain hb3 hbr
      obtain ⟨a3, c3, rfl, n3, m3, z3, hO⟩ := hR.out
      have hPn : P.length = n := by rw [← HN.out, ← hP, List.length_map]
      rw [hPn] at n3
      have hO3 : OutV w3 wo.heap.size a3 P := hO
      have hP3 := OutP.start (S := S) hP
      have HZ3 := Lib.hid z3
      have hNr := hbr.size
      rw [hPn]
      clear hR hO hP hPn z3 hb3
      go_wp2_with fail
      go_loopw [48] (fun i wq => ∃ t : Nat, t ≤ n ∧ i = .int .i64 t ∧ ∃ P, OutP S l t P ∧ OutV wq wo.heap.size a3 P ∧ KnownAt wq w.heap.size S ∧ Below w.heap.size w wq) (fun i _ => n - (intOf i).toNat)
      case atStart => exact ⟨0, Nat.zero_le _, rfl, P, hP3, hO3, hK3, hbw3⟩
      case round =>
        clear hK3 hbw3 hO3 hP3
        obtain ⟨wq, hwq⟩ : ∃ W, W = wr := ⟨_, rfl⟩
        subst hwq
        obtain ⟨u, hu, rfl, Q, hQ, hO, hK, hbq⟩ := hrel
        have HQ := Lib.hid hQ
        by_cases hun : u < n
        · obtain ⟨x, iv, hx, hp⟩ := hQ.at (by rw [HN.out]; exact hun)
          have hk20 := HI.out u x hx
          have hWx := HW.out x (List.mem_of_getElem? hx)
          obtain ⟨g, rfl, hRow⟩ : ∃ g, a3 = some ⟨g, 0, none⟩ ∧ RowS wq wo.heap.size g Q := by
            rcases hO with rfl | hO
            · simp at hp
            · exact hO
          have hNg := hRow.1
          have hIv : InsK wq wo.heap.size iv x.ins := hRow.2.2 (x, iv) (List.mem_of_getElem? hp)
          have q4 : wq.cell? ⟨g, u * 5 + 4, none⟩ = some iv := hRow.cell hp 4 (by omega)
          have hC := fun W (H : Below wq.heap.size wq W) => clone_any (hIv.ins.below H) (by omega)
          have HC := Lib.hid hC
          have HRow := Lib.hid hRow
          obtain ⟨ai, ci, ei, _⟩ := id hIv
          subst ei
          have hps := proS_eq (S := S) (x := x) rfl
          have HPS := Lib.hid hps
          have HWX := Lib.hid hWx
          obtain ⟨xo, xn, xr, xd, xi⟩ := x
          dsimp only at hk20 q4 HC HPS HWX hIv
          have HX := Lib.hid hx
          have HP := Lib.hid hp
          have hQlen : u < Q.length := (List.getElem?_eq_some_iff.1 hp).1
          have s1 : ((u : Int)).toNat = u := by omega
          obtain ⟨k, hk⟩ : ∃ k, xi.length = k := ⟨_, rfl⟩
          have HKL := Lib.hid hk
          rw [hk] at q4 HC HPS hk20
          dsimp only at HP
          rw [hk] at HP
          clear hk hp hx hIv hC hRow hps hWx hO hQ
          go_wp2_with fail
          refine (HC.out _ (by (repeat (first | exact Below.refl _ _ | assumption | refine Below.drew ?_ | refine below_drewN ?_ _ | refine balloc ?_ _ | refine Below.setCell ?_ (by first | (simp; done) | (simp; omega) | omega) _ | refine bchain (by assumption) ?_)))).mono ?_
          rintro e w4 ⟨v4, rfl, hk4, hb4⟩
          obtain ⟨a4, c4, e4, _⟩ := id (hk4 0)
          rw [HKL.out] at e4
          subst e4
          have hRow4 := HRow.out.below hb4
          have hK4 := hK.below hb4
          have hbw4 := bchain hb4 hbq
          have qf : ∀ i, w4.frozen? ⟨g, i, none⟩ = false := hRow4.frozen
          have q4' : w4.cell? ⟨g, u * 5 + 4, none⟩ = some (.slice ai k ci) := bcellv hb4 q4
          have hset : RowS (w4.setCell ⟨g, u * 5 + 4, none⟩ (.slice a4 k c4)) wo.heap.size g (Q.set u (⟨xo, xn, xr, xd, xi⟩, .slice a4 k c4)) := hRow4.set HP.out (k := 4) (by omega) rfl (fun r hr hne => by
            match r, hr, hne with
            | 0, _, _ => rfl
            | 1, _, _ => rfl
            | 2, _, _ => rfl
            | 3, _, _ => rfl
            | 4, _, h => exact absurd rfl h) (hk4 _)
          have hpset : (Q.set u ((⟨xo, xn, xr, xd, xi⟩ : Stb), Value.slice a4 k c4))[u]? = some (⟨xo, xn, xr, xd, xi⟩, .slice a4 k c4) := List.getElem?_set_self hQlen
          have c4' : (w4.setCell ⟨g, u * 5 + 4, none⟩ (.slice a4 k c4)).cell? ⟨g, u * 5 + 4, none⟩ = some (.slice a4 k c4) := hset.cell hpset 4 (by omega)
          have hK5 : KnownAt (w4.setCell ⟨g, u * 5 + 4, none⟩ (.slice a4 k c4)) w.heap.size S := hK4.kept grown_set (row := some g) (by simp; omega)
          have hbw5 : Below w.heap.size w (w4.setCell ⟨g, u * 5 + 4, none⟩ (.slice a4 k c4)) := hbw4.setCell (p := ⟨g, u * 5 + 4, none⟩) (by show w.heap.size ≤ g; omega) _
          have hI5 : InsV (w4.setCell ⟨g, u * 5 + 4, none⟩ (.slice a4 k c4)) (.slice a4 k c4) xi := (hset.2.2 _ (List.mem_of_getElem? hpset)).ins
          have HS5 := Lib.hid hset
          have HP5 := Lib.hid hpset
          clear hk4 hset hpset hRow4 hb4 hK4
          go_wp2_with fail
          obtain ⟨w5, hw5⟩ : ∃ W, w4.setCell ⟨g, u * 5 + 4, none⟩ (.slice a4 k c4) = W := ⟨_, rfl⟩
          rw [hw5] at c4' hK5 hbw5 hI5 HS5 ⊢
          clear qf q4' q4 hw5
          have HI5 := Lib.hid (fun j (hj : j < k) => InsV.at hI5 hj)
          clear hI5
          go_loopw [14, 67] (fun v14 i wx => ∃ j : Nat, j ≤ k ∧ i = .int .i64 j ∧ QAt wx w5.heap.size v14 (dRow S xi j) ∧ Below w5.heap.size w5 wx) (fun v14 i _ => k - (intOf i).toNat)
          case atStart => exact ⟨0, Nat.zero_le _, rfl, QAt.nil _ _, Below.refl _ _⟩
          case round =>
            obtain ⟨wx, hwx⟩ : ∃ W, W = wr := ⟨_, rfl⟩
            subst hwx
            obtain ⟨j, hj, rfl, hq, hbx⟩ := hrel
            by_cases hjk : j < k
            · obtain ⟨bb, oo, ⟨yc, yn, yo⟩, ea, hy, hya⟩ := HI5.out j hjk
              cases ea
              obtain ⟨y0, y1, y2⟩ := hya.below hbx
              obtain ⟨hwc, hwn⟩ := HWX.out _ (List.mem_of_getElem? hy)
              dsimp only at y0 y1 y2 hwc hwn
              have hlk := ((hK5.below hbx).below (balloc (Below.refl _ _) _) : KnownAt (wx.alloc (.cells #[.int .i64 yc, .int .u64 yn, .int .i64 yo] 63)) w.heap.size S).look hwc hwn
              have HSN := Lib.hid (dRow_snoc (S := S) hy)
              have hql := Nat.le_trans (dRow_len (S := S) (l := xi) (u := j)) (by omega : j ≤ 100000)
              have HQL := Lib.hid hql
              have s2 : ((j : Int)).toNat = j := by omega
              dsimp only at HSN
              have hqw := hq.alloc (.cells #[.int .i64 yc, .int .u64 yn, .int .i64 yo] 63)
              have hbxw : Below w5.heap.size w5 (wx.alloc (.cells #[.int .i64 yc, .int .u64 yn, .int .i64 yo] 63)) := balloc hbx _
              have hzw : w5.heap.size ≤ (wx.alloc (.cells #[.int .i64 yc, .int .u64 yn, .int .i64 yo] 63)).heap.size := hbxw.size
              have hg6 : (wx.alloc (.cells #[.int .i64 yc, .int .u64 yn, .int .i64 yo] 63)).heap.size = wx.heap.size + 1 := by simp
              clear hya hy hwc hwn hql
              obtain ⟨ok, hok⟩ : ∃ b, (S.find? (isOf yc yn)).isSome = b := ⟨_, rfl⟩
              rw [hok] at hlk
              have HOK := Lib.hid hok
              have HDY := Lib.hid (fun h => dOf_yes (S := S) (c := yc) (n := yn) h)
              have HDN := Lib.hid (fun h => dOf_no (S := S) (c := yc) (n := yn) h)
              clear hok
              generalize knO S yc yn = kv at *
              generalize dRow S xi j = row at *
              obtain ⟨a7, c7, e7⟩ := id hqw.form
              subst e7
              cases ok
              · have HDV := Lib.hid (HDN.out HOK.out)
                go_wp2_with (at_builtin; refine step_append_row rfl _ _ rfl rfl 1048576 _ rfl hqw rfl hg6 hbxw hzw HQL.out ?_; intro v' w6 hq6 hb6 hz6)
                go_wp2
                go_roundw
                case rel => exact ⟨j + 1, by omega, by go_num, by rw [HSN.out, HDV.out]; exact hq6, hb6⟩
                case measure => simp [intOf]; omega
              · have HDV := Lib.hid (HDY.out HOK.out)
                go_wp2_with (at_builtin; refine step_append_row rfl _ _ rfl rfl kv _ rfl hqw rfl hg6 hbxw hzw HQL.out ?_; intro v' w6 hq6 hb6 hz6)
                go_wp2
                go_roundw
                case rel => exact ⟨j + 1, by omega, by go_num, by rw [HSN.out, HDV.out]; exact hq6, hb6⟩
                case measure => simp [intOf]; omega
            · have hjk' : j = k := by omega
              subst hjk'
              have hi := hq.ints
              have hS := fun W (H : Below wx.heap.size wx W) => stub_any xr (hi.below H)
              have q2 : wx.cell? ⟨g, u * 5 + 2, none⟩ = some (.bool xr) := (HS5.out.below hbx).cell HP5.out 2 (by omega)
              have hbwx := bchain hbx hbw5
              have hKx := hK5.below hbx
              have hRx := HS5.out.below hbx
              have HRX := Lib.hid hRx
              have HST := Lib.hid hS
              obtain ⟨a7, c7, e7⟩ := id hq.form
              subst e7
              generalize hsv : stubA xr (dRow S xi j) = sv at *
              generalize (dRow S xi j).length = lr at *
              clear hi hS hRx hq
              go_wp2_with fail
              refine (HST.out _ (by (repeat (first | exact Below.refl _ _ | assumption | refine Below.drew ?_ | refine below_drewN ?_ _ | refine balloc ?_ _ | refine Below.setCell ?_ (by first | (simp; done) | (simp; omega) | omega) _ | refine bchain (by assumption) ?_)))).mono ?_
              rintro e w7 ⟨rfl, hb7⟩
              have hR7 := HRX.out.below hb7
              have hK7 := hKx.below hb7
              have hbw7 := bchain hb7 hbwx
              have qf : ∀ i, w7.frozen? ⟨g, i, none⟩ = false := hR7.frozen
              have q3 : w7.cell? ⟨g, u * 5 + 3, none⟩ = some (.int .i64 xd) := hR7.cell HP5.out 3 (by omega)
              have hin7 := hR7.2.2 _ (List.mem_of_getElem? HP5.out)
              have hst : RowS (w7.setCell ⟨g, u * 5 + 3, none⟩ (.int .i64 sv)) wo.heap.size g ((Q.set u (⟨xo, xn, xr, xd, xi⟩, .slice a4 j c4)).set u (⟨xo, xn, xr, sv, xi⟩, .slice a4 j c4)) := hR7.set HP5.out (k := 3) (by omega) rfl (fun r hr hne => by
                match r, hr, hne with
                | 0, _, _ => rfl
                | 1, _, _ => rfl
                | 2, _, _ => rfl
                | 3, _, h => exact absurd rfl h
                | 4, _, _ => rfl) hin7
              have hK8 : KnownAt (w7.setCell ⟨g, u * 5 + 3, none⟩ (.int .i64 sv)) w.heap.size S := hK7.kept grown_set (row := some g) (by simp; omega)
              have hbw8 : Below w.heap.size w (w7.setCell ⟨g, u * 5 + 3, none⟩ (.int .i64 sv)) := hbw7.setCell (p := ⟨g, u * 5 + 3, none⟩) (by show w.heap.size ≤ g; omega) _
              have hfin := HQ.out.step HX.out (.slice a4 j c4) (.slice a4 j c4)
              rw [HPS.out] at hfin
              have HF := Lib.hid hfin
              have HST2 := Lib.hid hst
              have HK8 := Lib.hid hK8
              clear hfin hst hK8 hsv hR7 hK7
              go_wp2
              go_roundw
              case rel => exact ⟨u + 1, by omega, by go_num, _, HF.out, .inr ⟨g, rfl, HST2.out⟩, HK8.out, hbw8⟩
              case measure => simp [intOf]; omega
        · have hun' : u = n := by omega
          subst hun'
          have hfin := hO.stb (by rw [hQ.1, HN.out]) n3 m3 HZ3.out
          rw [← HN.out] at hQ
          rw [hQ.done] at hfin
          clear hQ
          go_wp2
          go_ret
          exact ⟨_, rfl, hfin, hbq⟩
end Go.Proofs.Ytbkfjhbebhnijaa
