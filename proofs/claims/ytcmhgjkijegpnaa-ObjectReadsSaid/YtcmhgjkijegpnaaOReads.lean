/-
  refmeshlaw07.ObjectReads.
-/
import Derived.Test.YtcmhgjkijegpnaaGN
import Derived.Test.YtcmhgjkijegpnaaGH
namespace Go.Proofs.Ytcmhgjkijegpnaa
open Go.RowKit
set_option linter.unusedSimpArgs false
set_option linter.unusedVariables false

/-- Appending what lies elsewhere, or nothing. -/
theorem wpList_append_news {P : Program} {w : World} {ops : Array Oper} {rest : List Oper} {o : Oper} {a : Act} {Q : Exit → Act → World → Prop} (hgd : o.guard = none) (s x : Operand) (t : TypeId)
    (ho : o.op = .call { callee := .builtin .append, args := #[s, x], argTypes := #[t, t] })
    (base : Nat) (e : TypeId) (i : TypeInfo) (z : Value) (size bytes : Nat) (ht : P.underlying t = some (.slice e)) (hi : P.info? e = some i) (hz : i.zero = some z)
    (hsize : i.size = size) (hby : i.bytes = bytes) (hzs : z.cells.size = size) (hsz : 0 < size)
    (v : Value) (n : Nat) (xs : List Value) (hs : a.eval s = v) (hown : w.ownsRow base e size v n xs)
    (A : Option Addr) (m c : Nat) (news : List Value) (hx : a.eval x = .slice A m c) (hl : news.length = m * size) (hnews : NewsAt w A m c news) (h1 : ∀ u ∈ news, u.oneCell' = true)
    (h63 : n + m ≤ maxLen) (hbytes : (n + m) * bytes ≤ 140737488355328) (hbase : base ≤ w.heap.size)
    (h : ∀ v' w', w'.ownsRow base e size v' (n + m) (xs ++ news) → w.grownBy w' v.ownBlock → (v'.ownBlock = v.ownBlock ∨ v'.ownBlock = some w.heap.size) → wpList P ops Q rest (a.put o.dst v') w') : wpList P ops Q (o :: rest) a w :=
  wpList_plain hgd fun K hK => by
    rcases hnews with ⟨rfl, rfl, rfl⟩ | ⟨ad, rfl, hn⟩
    · have h0 : news = [] := List.length_eq_zero_iff.1 (by omega)
      subst h0
      have hr := run_app_none (P := P) base t o.type e i size ht hi hown
      unfold Oper.wp execOp
      simp only [ho, resolve, invoke, builtin, Sem.run_bind, Sem.run_pure, Result.andThen_ok, List.map_toArray, List.map_cons, List.map_nil, hs, hx, hr]
      exact hK _ _ (h v w (by simpa using hown) (grown_refl w _) (.inl rfl))
    · obtain ⟨v', w', hr, h2, h3, _, h5⟩ := run_append_own_at (P := P) w base t o.type e i z size bytes ht hi hz hsize hby hzs hsz v n xs hown ad m c news hl hn h1 h63 hbytes hbase
      unfold Oper.wp execOp
      simp only [ho, resolve, invoke, builtin, Sem.run_bind, Sem.run_pure, Result.andThen_ok, List.map_toArray, List.map_cons, List.map_nil, hs, hx, hr]
      exact hK _ _ (h v' w' h2 h3 h5)
theorem news_of_lst {w : World} {n0 : Nat} {A : Option Addr} {cap : Nat} {l : List Int} (h : w.ownsRow n0 3 1 (.slice A l.length cap) l.length (l.map (Value.int .i64))) : NewsAt w A l.length cap (l.map (Value.int .i64)) := by
  obtain ⟨h1, h2⟩ := h
  rcases h2 with ⟨e, h0⟩ | ⟨g, c, cur, e, _, hh, hn, hm, hs, ht⟩
  · simp only [Value.slice.injEq] at e
    exact .inl ⟨e.1, h0, e.2.2⟩
  · cases e
    refine .inr ⟨_, rfl, fun j u hj => ?_⟩
    have hi : j < l.length := by have := (List.getElem?_eq_some_iff.1 hj).1; simpa using this
    rw [Addr.add_lit, Nat.zero_add, cell_of_block hh, ← Array.getElem?_toList]
    have e : (cur.toList.take (l.length * 1))[j]? = (l.map (Value.int .i64))[j]? := by rw [ht]
    rw [List.getElem?_take_of_lt (by omega)] at e
    rw [e, hj]
theorem int_one (l : List Int) : ∀ u ∈ l.map (Value.int .i64), u.oneCell' = true := by
  intro u hu
  obtain ⟨y, _, rfl⟩ := List.mem_map.1 hu
  rfl
theorem row_open {w : World} {n0 : Nat} {v : Value} {n : Nat} {xs : List Value} (h : w.ownsRow n0 3 1 v n xs) (hn : 0 < n) : ∃ G cap, v = .slice (some ⟨G, 0, none⟩) n cap ∧ n0 ≤ G ∧ G < w.heap.size ∧ n ≤ cap ∧ cap ≤ 9223372036854775807 ∧ ∀ i x, xs[i]? = some x → w.cell? ⟨G, i, none⟩ = some x := by
  obtain ⟨h1, h2⟩ := h
  rcases h2 with ⟨_, h0⟩ | ⟨g, cap, cur, rfl, hb, hh, hc, hm, hs, ht⟩
  · omega
  · refine ⟨g, cap, rfl, hb, (Array.getElem?_eq_some_iff.1 hh).1, hc, hm, fun i x hx => ?_⟩
    have hi : i < xs.length := (List.getElem?_eq_some_iff.1 hx).1
    rw [cell_of_block hh, ← Array.getElem?_toList]
    have e : (cur.toList.take (n * 1))[i]? = xs[i]? := by rw [ht]
    rw [List.getElem?_take_of_lt (by omega)] at e
    rw [e, hx]
set_option maxRecDepth 100000 in
set_option maxHeartbeats 4000000 in
theorem oreads_any (a : Option Addr) (l : List Op7) (cap : Nat) (pa pi : Int) (hcap : l.length ≤ cap) (hc63 : cap ≤ 9223372036854775807) (w : World) (hops : Ops7 w a l) :
    Calls Try.prog 8 #[.slice a l.length cap, .int .i64 pa, .int .i64 pi] w fun e w' => e = .returned (.bool true) ∧ Below w.heap.size w w' := by
  have ha := awake7
  by_cases h : 24 < l.length
  · have hd : decide (24 < l.length) = true := by simpa using h
    clear hops
    generalize l.length = n at *
    go_enter Try.func8, Try.ntmps8
    go_wp2_with fail
    refine (ha _).mono ?_
    rintro e w1 ⟨rfl, hb1⟩
    go_wp2
    go_ret
    exact ⟨rfl, by (repeat (first | exact Below.refl _ _ | assumption | refine Below.drew ?_ | refine below_drewN ?_ _ | refine balloc ?_ _ | refine Below.setCell ?_ (by first | (simp; done) | (simp; omega) | omega) _ | refine bchain (by assumption) ?_))⟩
  · have hB := fun W (H : Below w.heap.size w W) => built7_any a l cap true hcap hc63 (by omega) W (hops.below H)
    have hd : decide (24 < l.length) = false := by simpa using h
    have hXl := run7_len 200 16777416 true l ⟨[], [], []⟩
    simp only [List.length_nil] at hXl
    have hX24 : (run7 200 16777416 true ⟨[], [], []⟩ l).l.length ≤ 24 := by omega
    clear hops hXl
    generalize run7 200 16777416 true ⟨[], [], []⟩ l = X at *
    generalize l.length = n at *
    go_enter Try.func8, Try.ntmps8
    go_wp2_with fail
    refine (ha _).mono ?_
    rintro e w1 ⟨rfl, hb1⟩
    have hw1 : Below w.heap.size w w1 := by (repeat (first | exact Below.refl _ _ | assumption | refine Below.drew ?_ | refine below_drewN ?_ _ | refine balloc ?_ _ | refine Below.setCell ?_ (by first | (simp; done) | (simp; omega) | omega) _ | refine bchain (by assumption) ?_))
    go_wp2_with fail
    refine (hB _ hw1).mono ?_
    rintro e w2 ⟨bO, bY, aO, nO, cO, aY, nY, cY, lv, gO, gY, rO, rY, rfl, hI, hb2⟩
    obtain ⟨A, lc, rfl, _, _, _⟩ := lst_of_row hI.lst
    unfold wcs
    have hw2 := bchain hb2 hw1
    clear hB hb1 hb2 hw1 ha hd
    go_upto_region 8 with fail
    have kx : (w2.alloc (.cells #[.pointer (some ⟨bO, 0, none⟩), .pointer (some ⟨bY, 0, none⟩), .int .i64 0, .int .i64 200, .slice aO nO cO, .int .i64 16777216, .int .i64 16777416, .slice aY nY cY, .slice A X.l.length lc] 47)).heap[w2.heap.size]? = some (.cells #[.pointer (some ⟨bO, 0, none⟩), .pointer (some ⟨bY, 0, none⟩), .int .i64 0, .int .i64 200, .slice aO nO cO, .int .i64 16777216, .int .i64 16777416, .slice aY nY cY, .slice A X.l.length lc] 47 (0, 0)) := alloc_get _ _
    have hI3 := hI.below (balloc (Below.refl _ w2) (.cells #[.pointer (some ⟨bO, 0, none⟩), .pointer (some ⟨bY, 0, none⟩), .int .i64 0, .int .i64 200, .slice aO nO cO, .int .i64 16777216, .int .i64 16777416, .slice aY nY cY, .slice A X.l.length lc] 47))
    have hw3 : Below w.heap.size w (w2.alloc (.cells #[.pointer (some ⟨bO, 0, none⟩), .pointer (some ⟨bY, 0, none⟩), .int .i64 0, .int .i64 200, .slice aO nO cO, .int .i64 16777216, .int .i64 16777416, .slice aY nY cY, .slice A X.l.length lc] 47)) := hw2.alloc hw2.size _
    obtain ⟨p, hp⟩ : ∃ p, w2.heap.size = p := ⟨_, rfl⟩
    have hp0 : w.heap.size ≤ p := by rw [← hp]; exact hw2.size
    obtain ⟨w3, hw3e⟩ : ∃ w3, (w2.alloc (.cells #[.pointer (some ⟨bO, 0, none⟩), .pointer (some ⟨bY, 0, none⟩), .int .i64 0, .int .i64 200, .slice aO nO cO, .int .i64 16777216, .int .i64 16777416, .slice aY nY cY, .slice A X.l.length lc] 47)) = w3 := ⟨_, rfl⟩
    rw [hw3e] at kx hI3 hw3 ⊢
    rw [hp] at kx ⊢
    clear hw3e hp hI hw2
    have kx_0 : w3.cell? ⟨p, 0, none⟩ = some (.pointer (some ⟨bO, 0, none⟩)) := by rw [cell_of_block kx]; rfl
    have kx_1 : w3.cell? ⟨p, 1, none⟩ = some (.pointer (some ⟨bY, 0, none⟩)) := by rw [cell_of_block kx]; rfl
    have kx_2 : w3.cell? ⟨p, 2, none⟩ = some (.int .i64 0) := by rw [cell_of_block kx]; rfl
    have kx_3 : w3.cell? ⟨p, 3, none⟩ = some (.int .i64 200) := by rw [cell_of_block kx]; rfl
    have kx_4 : w3.cell? ⟨p, 4, none⟩ = some (.slice aO nO cO) := by rw [cell_of_block kx]; rfl
    have kx_5 : w3.cell? ⟨p, 5, none⟩ = some (.int .i64 16777216) := by rw [cell_of_block kx]; rfl
    have kx_6 : w3.cell? ⟨p, 6, none⟩ = some (.int .i64 16777416) := by rw [cell_of_block kx]; rfl
    have kx_7 : w3.cell? ⟨p, 7, none⟩ = some (.slice aY nY cY) := by rw [cell_of_block kx]; rfl
    have kx_8 : w3.cell? ⟨p, 8, none⟩ = some (.slice A X.l.length lc) := by rw [cell_of_block kx]; rfl
    have hz_kx : p < w3.heap.size := (Array.getElem?_eq_some_iff.1 kx).1
    obtain ⟨i0, hi, hiz0, hiz1, hiz2⟩ := info_parts int7_info
    have hml : maxLen = 9223372036854775807 := rfl
    have hrow : (w3.alloc (.cells #[.int .i64 pa, .int .i64 (wrap64 (pa + 16777216))] 3)).ownsRow w3.heap.size 3 1 (.slice (some ⟨w3.heap.size, 0, none⟩) 2 2) 2 [.int .i64 pa, .int .i64 (wrap64 (pa + 16777216))] := ⟨by simp, .inr ⟨w3.heap.size, 2, _, rfl, Nat.le_refl _, alloc_get _ _, by omega, by omega, rfl, rfl⟩⟩
    have hnw := news_of_lst (hI3.below (balloc (Below.refl _ w3) (.cells #[.int .i64 pa, .int .i64 (wrap64 (pa + 16777216))] 3))).lst
    have hlm : (X.l.map (Value.int .i64)).length = X.l.length * 1 := by simp
    have h1c := int_one X.l
    go_wp2_with (at_builtin; refine wpList_append_news rfl _ _ 45 rfl w3.heap.size 3 i0 (.int .i64 0) 1 8 Try.underlying45 hi hiz0 hiz1 hiz2 rfl (by decide) _ 2 _ rfl hrow A X.l.length lc (X.l.map (Value.int .i64)) rfl hlm hnw h1c (by omega) (by omega) (by simp) ?_; intro v5 w5 hown hgr hat)
    obtain ⟨G, cP, rfl, hGw, hGh, hGc, hG63, hP⟩ := row_open hown (by omega)
    have hw35 : Below w3.heap.size w3 w5 := ((balloc (Below.refl _ w3) _).grown hgr (by simp) (fun k e => by cases e; exact Nat.le_refl _))
    have hw5 : Below w.heap.size w w5 := bchain hw35 hw3
    have kx := bblock hw35 kx
    have hm5 := hI3.mem.below hw35
    have hr5 := hI3.ref.below hw35
    obtain ⟨L, hLe⟩ : ∃ L : List Int, L = pa :: wrap64 (pa + 16777216) :: X.l := ⟨_, rfl⟩
    have hLl : L.length = 2 + X.l.length := by rw [hLe]; simp; omega
    have hP : ∀ i x, L[i]? = some x → w5.cell? ⟨G, i, none⟩ = some (.int .i64 x) := fun i x hx => hP i _ (by rw [show ([.int .i64 pa, .int .i64 (wrap64 (pa + 16777216))] ++ X.l.map (Value.int .i64) : List Value) = L.map (Value.int .i64) by rw [hLe]; rfl, List.getElem?_map, hx]; rfl)
    clear hI3 hown hgr hrow hnw hlm h1c hw35 hLe hw3 kx_0 kx_1 kx_2 kx_3 kx_4 kx_5 kx_6 kx_7 kx_8
    obtain ⟨m, hm⟩ : ∃ m, 2 + X.l.length = m := ⟨_, rfl⟩
    rw [hm] at hLl hGc ⊢
    generalize X.l.length = xl at *
    go_loopw [10] (fun q wr => ∃ t : Nat, t ≤ m ∧ q = .int .i64 t ∧ Below w5.heap.size w5 wr) (fun q _ => m - (intOf q).toNat)
    case atStart => exact ⟨0, Nat.zero_le _, rfl, Below.refl _ _⟩
    case round =>
      obtain ⟨t, ht, rfl, hbr⟩ := hrel
      by_cases hlt : t < m
      · obtain ⟨pl, hpl⟩ : ∃ pl, L[t]? = some pl := ⟨_, List.getElem?_eq_getElem (by omega)⟩
        have hx : wr.cell? ⟨G, t, none⟩ = some (.int .i64 pl) := bcellv hbr (hP t pl hpl)
        have s1 : ((t : Int)).toNat = t := by omega
        have c1 := fun W (H : Below w5.heap.size w5 W) => mload_any (hm5.below H) pl
        have c2 := fun W (H : Below w5.heap.size w5 W) => rmload_any (hr5.below H) pl
        have c3 := fun W (H : Below w5.heap.size w5 W) => mhdr_any (hm5.below H) pl
        have c4 := fun W (H : Below w5.heap.size w5 W) => rmhdr_any (hr5.below H) pl
        have c5 := fun W (H : Below w5.heap.size w5 W) => mid_any (hm5.below H) pl
        have c6 := fun W (H : Below w5.heap.size w5 W) => rmid_any (hr5.below H) pl
        have c7 := fun W (H : Below w5.heap.size w5 W) => mfield_any (hm5.below H) pl pi
        have c8 := fun W (H : Below w5.heap.size w5 W) => rmfield_any (hr5.below H) pl pi
        have c9 := fun W (H : Below w5.heap.size w5 W) => mstub_any (hm5.below H) pl
        have c10 := fun W (H : Below w5.heap.size w5 W) => rmstub_any (hr5.below H) pl
        have c11 := fun W (H : Below w5.heap.size w5 W) => mresolve_any (hm5.below H) pl
        have c12 := fun W (H : Below w5.heap.size w5 W) => rresolve_any (hr5.below H) pl
        generalize LD X.wo X.wy pl = vLD at *
        generalize LE X.wo X.wy pl = vLE at *
        generalize HK X.wo X.wy pl = vHK at *
        generalize HC X.wo X.wy pl = vHC at *
        generalize HF X.wo X.wy pl = vHF at *
        generalize OM X.wo X.wy pl = vOM at *
        generalize OS X.wo X.wy pl = vOS at *
        generalize HE X.wo X.wy pl = vHE at *
        generalize FV X.wo X.wy pl pi = vFV at *
        generalize FE X.wo X.wy pl pi = vFE at *
        generalize sbN X.wo X.wy pl = vsN at *
        generalize sbU X.wo X.wy pl = vsU at *
        generalize sbE X.wo X.wy pl = vsE at *
        generalize RA X.wo X.wy pl = vRA at *
        generalize RE X.wo X.wy pl = vRE at *
        have kx5 := kx
        have kx := bblock hbr kx5
        clear hP hpl
        have hw10 : Below w5.heap.size w5 wr := hbr
        have hz_kx : p < wr.heap.size := (Array.getElem?_eq_some_iff.1 kx).1
        have kx_0 : wr.cell? ⟨p, 0, none⟩ = some (.pointer (some ⟨bO, 0, none⟩)) := by rw [cell_of_block kx]; rfl
        have kx_1 : wr.cell? ⟨p, 1, none⟩ = some (.pointer (some ⟨bY, 0, none⟩)) := by rw [cell_of_block kx]; rfl
        have kx_2 : wr.cell? ⟨p, 2, none⟩ = some (.int .i64 0) := by rw [cell_of_block kx]; rfl
        have kx_3 : wr.cell? ⟨p, 3, none⟩ = some (.int .i64 200) := by rw [cell_of_block kx]; rfl
        have kx_4 : wr.cell? ⟨p, 4, none⟩ = some (.slice aO nO cO) := by rw [cell_of_block kx]; rfl
        have kx_5 : wr.cell? ⟨p, 5, none⟩ = some (.int .i64 16777216) := by rw [cell_of_block kx]; rfl
        have kx_6 : wr.cell? ⟨p, 6, none⟩ = some (.int .i64 16777416) := by rw [cell_of_block kx]; rfl
        have kx_7 : wr.cell? ⟨p, 7, none⟩ = some (.slice aY nY cY) := by rw [cell_of_block kx]; rfl
        have kx_8 : wr.cell? ⟨p, 8, none⟩ = some (.slice A xl lc) := by rw [cell_of_block kx]; rfl
        go_wp2_with fail
        refine (c1 _ (by (repeat (first | exact Below.refl _ _ | assumption | refine Below.drew ?_ | refine below_drewN ?_ _ | refine balloc ?_ _ | refine Below.setCell ?_ (by first | (simp; done) | (simp; omega) | omega) _ | refine bchain (by assumption) ?_)))).mono ?_
        rintro e w11 ⟨rfl, hb11⟩
        have hB11 : Below wr.heap.size wr w11 := by (repeat (first | exact Below.refl _ _ | assumption | refine Below.drew ?_ | refine below_drewN ?_ _ | refine balloc ?_ _ | refine Below.setCell ?_ (by first | (simp; done) | (simp; omega) | omega) _ | refine bchain (by assumption) ?_))
        have kx := bblock hB11 kx
        have hw11 := bchain hB11 hw10
        clear hz_kx
        have hz_kx : p < w11.heap.size := (Array.getElem?_eq_some_iff.1 kx).1
        clear hB11
        clear kx_0 kx_1 kx_2 kx_3 kx_4 kx_5 kx_6 kx_7 kx_8
        have kx_0 : w11.cell? ⟨p, 0, none⟩ = some (.pointer (some ⟨bO, 0, none⟩)) := by rw [cell_of_block kx]; rfl
        have kx_1 : w11.cell? ⟨p, 1, none⟩ = some (.pointer (some ⟨bY, 0, none⟩)) := by rw [cell_of_block kx]; rfl
        have kx_2 : w11.cell? ⟨p, 2, none⟩ = some (.int .i64 0) := by rw [cell_of_block kx]; rfl
        have kx_3 : w11.cell? ⟨p, 3, none⟩ = some (.int .i64 200) := by rw [cell_of_block kx]; rfl
        have kx_4 : w11.cell? ⟨p, 4, none⟩ = some (.slice aO nO cO) := by rw [cell_of_block kx]; rfl
        have kx_5 : w11.cell? ⟨p, 5, none⟩ = some (.int .i64 16777216) := by rw [cell_of_block kx]; rfl
        have kx_6 : w11.cell? ⟨p, 6, none⟩ = some (.int .i64 16777416) := by rw [cell_of_block kx]; rfl
        have kx_7 : w11.cell? ⟨p, 7, none⟩ = some (.slice aY nY cY) := by rw [cell_of_block kx]; rfl
        have kx_8 : w11.cell? ⟨p, 8, none⟩ = some (.slice A xl lc) := by rw [cell_of_block kx]; rfl
        go_wp2_with fail
        refine (c2 _ (by (repeat (first | exact Below.refl _ _ | assumption | refine Below.drew ?_ | refine below_drewN ?_ _ | refine balloc ?_ _ | refine Below.setCell ?_ (by first | (simp; done) | (simp; omega) | omega) _ | refine bchain (by assumption) ?_)))).mono ?_
        rintro e w12 ⟨rfl, hb12⟩
        have hB12 : Below w11.heap.size w11 w12 := by (repeat (first | exact Below.refl _ _ | assumption | refine Below.drew ?_ | refine below_drewN ?_ _ | refine balloc ?_ _ | refine Below.setCell ?_ (by first | (simp; done) | (simp; omega) | omega) _ | refine bchain (by assumption) ?_))
        have kx := bblock hB12 kx
        have hw12 := bchain hB12 hw11
        clear hz_kx
        have hz_kx : p < w12.heap.size := (Array.getElem?_eq_some_iff.1 kx).1
        clear hB12
        clear kx_0 kx_1 kx_2 kx_3 kx_4 kx_5 kx_6 kx_7 kx_8
        have kx_0 : w12.cell? ⟨p, 0, none⟩ = some (.pointer (some ⟨bO, 0, none⟩)) := by rw [cell_of_block kx]; rfl
        have kx_1 : w12.cell? ⟨p, 1, none⟩ = some (.pointer (some ⟨bY, 0, none⟩)) := by rw [cell_of_block kx]; rfl
        have kx_2 : w12.cell? ⟨p, 2, none⟩ = some (.int .i64 0) := by rw [cell_of_block kx]; rfl
        have kx_3 : w12.cell? ⟨p, 3, none⟩ = some (.int .i64 200) := by rw [cell_of_block kx]; rfl
        have kx_4 : w12.cell? ⟨p, 4, none⟩ = some (.slice aO nO cO) := by rw [cell_of_block kx]; rfl
        have kx_5 : w12.cell? ⟨p, 5, none⟩ = some (.int .i64 16777216) := by rw [cell_of_block kx]; rfl
        have kx_6 : w12.cell? ⟨p, 6, none⟩ = some (.int .i64 16777416) := by rw [cell_of_block kx]; rfl
        have kx_7 : w12.cell? ⟨p, 7, none⟩ = some (.slice aY nY cY) := by rw [cell_of_block kx]; rfl
        have kx_8 : w12.cell? ⟨p, 8, none⟩ = some (.slice A xl lc) := by rw [cell_of_block kx]; rfl
        go_wp2_with fail
        refine (c3 _ (by (repeat (first | exact Below.refl _ _ | assumption | refine Below.drew ?_ | refine below_drewN ?_ _ | refine balloc ?_ _ | refine Below.setCell ?_ (by first | (simp; done) | (simp; omega) | omega) _ | refine bchain (by assumption) ?_)))).mono ?_
        rintro e w13 ⟨rfl, hb13⟩
        have hB13 : Below w12.heap.size w12 w13 := by (repeat (first | exact Below.refl _ _ | assumption | refine Below.drew ?_ | refine below_drewN ?_ _ | refine balloc ?_ _ | refine Below.setCell ?_ (by first | (simp; done) | (simp; omega) | omega) _ | refine bchain (by assumption) ?_))
        have kx := bblock hB13 kx
        have hw13 := bchain hB13 hw12
        clear hz_kx
        have hz_kx : p < w13.heap.size := (Array.getElem?_eq_some_iff.1 kx).1
        clear hB13
        clear kx_0 kx_1 kx_2 kx_3 kx_4 kx_5 kx_6 kx_7 kx_8
        have kx_0 : w13.cell? ⟨p, 0, none⟩ = some (.pointer (some ⟨bO, 0, none⟩)) := by rw [cell_of_block kx]; rfl
        have kx_1 : w13.cell? ⟨p, 1, none⟩ = some (.pointer (some ⟨bY, 0, none⟩)) := by rw [cell_of_block kx]; rfl
        have kx_2 : w13.cell? ⟨p, 2, none⟩ = some (.int .i64 0) := by rw [cell_of_block kx]; rfl
        have kx_3 : w13.cell? ⟨p, 3, none⟩ = some (.int .i64 200) := by rw [cell_of_block kx]; rfl
        have kx_4 : w13.cell? ⟨p, 4, none⟩ = some (.slice aO nO cO) := by rw [cell_of_block kx]; rfl
        have kx_5 : w13.cell? ⟨p, 5, none⟩ = some (.int .i64 16777216) := by rw [cell_of_block kx]; rfl
        have kx_6 : w13.cell? ⟨p, 6, none⟩ = some (.int .i64 16777416) := by rw [cell_of_block kx]; rfl
        have kx_7 : w13.cell? ⟨p, 7, none⟩ = some (.slice aY nY cY) := by rw [cell_of_block kx]; rfl
        have kx_8 : w13.cell? ⟨p, 8, none⟩ = some (.slice A xl lc) := by rw [cell_of_block kx]; rfl
        go_wp2_with fail
        refine (c4 _ (by (repeat (first | exact Below.refl _ _ | assumption | refine Below.drew ?_ | refine below_drewN ?_ _ | refine balloc ?_ _ | refine Below.setCell ?_ (by first | (simp; done) | (simp; omega) | omega) _ | refine bchain (by assumption) ?_)))).mono ?_
        rintro e w14 ⟨rfl, hb14⟩
        have hB14 : Below w13.heap.size w13 w14 := by (repeat (first | exact Below.refl _ _ | assumption | refine Below.drew ?_ | refine below_drewN ?_ _ | refine balloc ?_ _ | refine Below.setCell ?_ (by first | (simp; done) | (simp; omega) | omega) _ | refine bchain (by assumption) ?_))
        have kx := bblock hB14 kx
        have kh : w14.heap[w13.heap.size]? = some (.cells #[.int .i64 vHK, .int .i64 vHC, .int .i64 vHF] 23 (0, 0)) := bblock hb14 (by repeat (first | exact alloc_at _ (by simp) | refine alloc_lt _ ?_))
        have hw14 := bchain hB14 hw13
        clear hz_kx
        have hz_kx : p < w14.heap.size := (Array.getElem?_eq_some_iff.1 kx).1
        have hz_kh : w13.heap.size < w14.heap.size := (Array.getElem?_eq_some_iff.1 kh).1
        clear hB14
        clear kx_0 kx_1 kx_2 kx_3 kx_4 kx_5 kx_6 kx_7 kx_8
        have kx_0 : w14.cell? ⟨p, 0, none⟩ = some (.pointer (some ⟨bO, 0, none⟩)) := by rw [cell_of_block kx]; rfl
        have kx_1 : w14.cell? ⟨p, 1, none⟩ = some (.pointer (some ⟨bY, 0, none⟩)) := by rw [cell_of_block kx]; rfl
        have kx_2 : w14.cell? ⟨p, 2, none⟩ = some (.int .i64 0) := by rw [cell_of_block kx]; rfl
        have kx_3 : w14.cell? ⟨p, 3, none⟩ = some (.int .i64 200) := by rw [cell_of_block kx]; rfl
        have kx_4 : w14.cell? ⟨p, 4, none⟩ = some (.slice aO nO cO) := by rw [cell_of_block kx]; rfl
        have kx_5 : w14.cell? ⟨p, 5, none⟩ = some (.int .i64 16777216) := by rw [cell_of_block kx]; rfl
        have kx_6 : w14.cell? ⟨p, 6, none⟩ = some (.int .i64 16777416) := by rw [cell_of_block kx]; rfl
        have kx_7 : w14.cell? ⟨p, 7, none⟩ = some (.slice aY nY cY) := by rw [cell_of_block kx]; rfl
        have kx_8 : w14.cell? ⟨p, 8, none⟩ = some (.slice A xl lc) := by rw [cell_of_block kx]; rfl
        have kh_0 : w14.cell? ⟨w13.heap.size, 0, none⟩ = some (.int .i64 vHK) := by rw [cell_of_block kh]; rfl
        have kh_1 : w14.cell? ⟨w13.heap.size, 1, none⟩ = some (.int .i64 vHC) := by rw [cell_of_block kh]; rfl
        have kh_2 : w14.cell? ⟨w13.heap.size, 2, none⟩ = some (.int .i64 vHF) := by rw [cell_of_block kh]; rfl
        go_wp2_with fail
        refine (c5 _ (by (repeat (first | exact Below.refl _ _ | assumption | refine Below.drew ?_ | refine below_drewN ?_ _ | refine balloc ?_ _ | refine Below.setCell ?_ (by first | (simp; done) | (simp; omega) | omega) _ | refine bchain (by assumption) ?_)))).mono ?_
        rintro e w15 ⟨rfl, hb15⟩
        have hB15 : Below w14.heap.size w14 w15 := by (repeat (first | exact Below.refl _ _ | assumption | refine Below.drew ?_ | refine below_drewN ?_ _ | refine balloc ?_ _ | refine Below.setCell ?_ (by first | (simp; done) | (simp; omega) | omega) _ | refine bchain (by assumption) ?_))
        have kx := bblock hB15 kx
        have kh := bblock hB15 kh
        have kg : w15.heap[w14.heap.size]? = some (.cells #[.int .i64 vHK, .int .i64 vHC, .int .i64 vHF] 23 (0, 0)) := bblock hb15 (by repeat (first | exact alloc_at _ (by simp) | refine alloc_lt _ ?_))
        have hw15 := bchain hB15 hw14
        clear hz_kx hz_kh
        have hz_kx : p < w15.heap.size := (Array.getElem?_eq_some_iff.1 kx).1
        have hz_kh : w13.heap.size < w15.heap.size := (Array.getElem?_eq_some_iff.1 kh).1
        have hz_kg : w14.heap.size < w15.heap.size := (Array.getElem?_eq_some_iff.1 kg).1
        clear hB15
        clear kx_0 kx_1 kx_2 kx_3 kx_4 kx_5 kx_6 kx_7 kx_8 kh_0 kh_1 kh_2
        have kx_0 : w15.cell? ⟨p, 0, none⟩ = some (.pointer (some ⟨bO, 0, none⟩)) := by rw [cell_of_block kx]; rfl
        have kx_1 : w15.cell? ⟨p, 1, none⟩ = some (.pointer (some ⟨bY, 0, none⟩)) := by rw [cell_of_block kx]; rfl
        have kx_2 : w15.cell? ⟨p, 2, none⟩ = some (.int .i64 0) := by rw [cell_of_block kx]; rfl
        have kx_3 : w15.cell? ⟨p, 3, none⟩ = some (.int .i64 200) := by rw [cell_of_block kx]; rfl
        have kx_4 : w15.cell? ⟨p, 4, none⟩ = some (.slice aO nO cO) := by rw [cell_of_block kx]; rfl
        have kx_5 : w15.cell? ⟨p, 5, none⟩ = some (.int .i64 16777216) := by rw [cell_of_block kx]; rfl
        have kx_6 : w15.cell? ⟨p, 6, none⟩ = some (.int .i64 16777416) := by rw [cell_of_block kx]; rfl
        have kx_7 : w15.cell? ⟨p, 7, none⟩ = some (.slice aY nY cY) := by rw [cell_of_block kx]; rfl
        have kx_8 : w15.cell? ⟨p, 8, none⟩ = some (.slice A xl lc) := by rw [cell_of_block kx]; rfl
        have kh_0 : w15.cell? ⟨w13.heap.size, 0, none⟩ = some (.int .i64 vHK) := by rw [cell_of_block kh]; rfl
        have kh_1 : w15.cell? ⟨w13.heap.size, 1, none⟩ = some (.int .i64 vHC) := by rw [cell_of_block kh]; rfl
        have kh_2 : w15.cell? ⟨w13.heap.size, 2, none⟩ = some (.int .i64 vHF) := by rw [cell_of_block kh]; rfl
        have kg_0 : w15.cell? ⟨w14.heap.size, 0, none⟩ = some (.int .i64 vHK) := by rw [cell_of_block kg]; rfl
        have kg_1 : w15.cell? ⟨w14.heap.size, 1, none⟩ = some (.int .i64 vHC) := by rw [cell_of_block kg]; rfl
        have kg_2 : w15.cell? ⟨w14.heap.size, 2, none⟩ = some (.int .i64 vHF) := by rw [cell_of_block kg]; rfl
        go_wp2_with fail
        refine (c6 _ (by (repeat (first | exact Below.refl _ _ | assumption | refine Below.drew ?_ | refine below_drewN ?_ _ | refine balloc ?_ _ | refine Below.setCell ?_ (by first | (simp; done) | (simp; omega) | omega) _ | refine bchain (by assumption) ?_)))).mono ?_
        rintro e w16 ⟨rfl, hb16⟩
        have hB16 : Below w15.heap.size w15 w16 := by (repeat (first | exact Below.refl _ _ | assumption | refine Below.drew ?_ | refine below_drewN ?_ _ | refine balloc ?_ _ | refine Below.setCell ?_ (by first | (simp; done) | (simp; omega) | omega) _ | refine bchain (by assumption) ?_))
        have kx := bblock hB16 kx
        have kh := bblock hB16 kh
        have kg := bblock hB16 kg
        have ki : w16.heap[w15.heap.size]? = some (.cells #[.int .i64 vOM, .int .i64 vOS] 25 (0, 0)) := bblock hb16 (by repeat (first | exact alloc_at _ (by simp) | refine alloc_lt _ ?_))
        have hw16 := bchain hB16 hw15
        clear hz_kx hz_kh hz_kg
        have hz_kx : p < w16.heap.size := (Array.getElem?_eq_some_iff.1 kx).1
        have hz_kh : w13.heap.size < w16.heap.size := (Array.getElem?_eq_some_iff.1 kh).1
        have hz_kg : w14.heap.size < w16.heap.size := (Array.getElem?_eq_some_iff.1 kg).1
        have hz_ki : w15.heap.size < w16.heap.size := (Array.getElem?_eq_some_iff.1 ki).1
        clear hB16
        clear kx_0 kx_1 kx_2 kx_3 kx_4 kx_5 kx_6 kx_7 kx_8 kh_0 kh_1 kh_2 kg_0 kg_1 kg_2
        have kx_0 : w16.cell? ⟨p, 0, none⟩ = some (.pointer (some ⟨bO, 0, none⟩)) := by rw [cell_of_block kx]; rfl
        have kx_1 : w16.cell? ⟨p, 1, none⟩ = some (.pointer (some ⟨bY, 0, none⟩)) := by rw [cell_of_block kx]; rfl
        have kx_2 : w16.cell? ⟨p, 2, none⟩ = some (.int .i64 0) := by rw [cell_of_block kx]; rfl
        have kx_3 : w16.cell? ⟨p, 3, none⟩ = some (.int .i64 200) := by rw [cell_of_block kx]; rfl
        have kx_4 : w16.cell? ⟨p, 4, none⟩ = some (.slice aO nO cO) := by rw [cell_of_block kx]; rfl
        have kx_5 : w16.cell? ⟨p, 5, none⟩ = some (.int .i64 16777216) := by rw [cell_of_block kx]; rfl
        have kx_6 : w16.cell? ⟨p, 6, none⟩ = some (.int .i64 16777416) := by rw [cell_of_block kx]; rfl
        have kx_7 : w16.cell? ⟨p, 7, none⟩ = some (.slice aY nY cY) := by rw [cell_of_block kx]; rfl
        have kx_8 : w16.cell? ⟨p, 8, none⟩ = some (.slice A xl lc) := by rw [cell_of_block kx]; rfl
        have kh_0 : w16.cell? ⟨w13.heap.size, 0, none⟩ = some (.int .i64 vHK) := by rw [cell_of_block kh]; rfl
        have kh_1 : w16.cell? ⟨w13.heap.size, 1, none⟩ = some (.int .i64 vHC) := by rw [cell_of_block kh]; rfl
        have kh_2 : w16.cell? ⟨w13.heap.size, 2, none⟩ = some (.int .i64 vHF) := by rw [cell_of_block kh]; rfl
        have kg_0 : w16.cell? ⟨w14.heap.size, 0, none⟩ = some (.int .i64 vHK) := by rw [cell_of_block kg]; rfl
        have kg_1 : w16.cell? ⟨w14.heap.size, 1, none⟩ = some (.int .i64 vHC) := by rw [cell_of_block kg]; rfl
        have kg_2 : w16.cell? ⟨w14.heap.size, 2, none⟩ = some (.int .i64 vHF) := by rw [cell_of_block kg]; rfl
        have ki_0 : w16.cell? ⟨w15.heap.size, 0, none⟩ = some (.int .i64 vOM) := by rw [cell_of_block ki]; rfl
        have ki_1 : w16.cell? ⟨w15.heap.size, 1, none⟩ = some (.int .i64 vOS) := by rw [cell_of_block ki]; rfl
        go_wp2_with fail
        refine (c7 _ (by (repeat (first | exact Below.refl _ _ | assumption | refine Below.drew ?_ | refine below_drewN ?_ _ | refine balloc ?_ _ | refine Below.setCell ?_ (by first | (simp; done) | (simp; omega) | omega) _ | refine bchain (by assumption) ?_)))).mono ?_
        rintro e w17 ⟨rfl, hb17⟩
        have hB17 : Below w16.heap.size w16 w17 := by (repeat (first | exact Below.refl _ _ | assumption | refine Below.drew ?_ | refine below_drewN ?_ _ | refine balloc ?_ _ | refine Below.setCell ?_ (by first | (simp; done) | (simp; omega) | omega) _ | refine bchain (by assumption) ?_))
        have kx := bblock hB17 kx
        have kh := bblock hB17 kh
        have kg := bblock hB17 kg
        have ki := bblock hB17 ki
        have kj : w17.heap[w16.heap.size]? = some (.cells #[.int .i64 vOM, .int .i64 vOS] 25 (0, 0)) := bblock hb17 (by repeat (first | exact alloc_at _ (by simp) | refine alloc_lt _ ?_))
        have hw17 := bchain hB17 hw16
        clear hz_kx hz_kh hz_kg hz_ki
        have hz_kx : p < w17.heap.size := (Array.getElem?_eq_some_iff.1 kx).1
        have hz_kh : w13.heap.size < w17.heap.size := (Array.getElem?_eq_some_iff.1 kh).1
        have hz_kg : w14.heap.size < w17.heap.size := (Array.getElem?_eq_some_iff.1 kg).1
        have hz_ki : w15.heap.size < w17.heap.size := (Array.getElem?_eq_some_iff.1 ki).1
        have hz_kj : w16.heap.size < w17.heap.size := (Array.getElem?_eq_some_iff.1 kj).1
        clear hB17
        clear kx_0 kx_1 kx_2 kx_3 kx_4 kx_5 kx_6 kx_7 kx_8 kh_0 kh_1 kh_2 kg_0 kg_1 kg_2 ki_0 ki_1
        have kx_0 : w17.cell? ⟨p, 0, none⟩ = some (.pointer (some ⟨bO, 0, none⟩)) := by rw [cell_of_block kx]; rfl
        have kx_1 : w17.cell? ⟨p, 1, none⟩ = some (.pointer (some ⟨bY, 0, none⟩)) := by rw [cell_of_block kx]; rfl
        have kx_2 : w17.cell? ⟨p, 2, none⟩ = some (.int .i64 0) := by rw [cell_of_block kx]; rfl
        have kx_3 : w17.cell? ⟨p, 3, none⟩ = some (.int .i64 200) := by rw [cell_of_block kx]; rfl
        have kx_4 : w17.cell? ⟨p, 4, none⟩ = some (.slice aO nO cO) := by rw [cell_of_block kx]; rfl
        have kx_5 : w17.cell? ⟨p, 5, none⟩ = some (.int .i64 16777216) := by rw [cell_of_block kx]; rfl
        have kx_6 : w17.cell? ⟨p, 6, none⟩ = some (.int .i64 16777416) := by rw [cell_of_block kx]; rfl
        have kx_7 : w17.cell? ⟨p, 7, none⟩ = some (.slice aY nY cY) := by rw [cell_of_block kx]; rfl
        have kx_8 : w17.cell? ⟨p, 8, none⟩ = some (.slice A xl lc) := by rw [cell_of_block kx]; rfl
        have kh_0 : w17.cell? ⟨w13.heap.size, 0, none⟩ = some (.int .i64 vHK) := by rw [cell_of_block kh]; rfl
        have kh_1 : w17.cell? ⟨w13.heap.size, 1, none⟩ = some (.int .i64 vHC) := by rw [cell_of_block kh]; rfl
        have kh_2 : w17.cell? ⟨w13.heap.size, 2, none⟩ = some (.int .i64 vHF) := by rw [cell_of_block kh]; rfl
        have kg_0 : w17.cell? ⟨w14.heap.size, 0, none⟩ = some (.int .i64 vHK) := by rw [cell_of_block kg]; rfl
        have kg_1 : w17.cell? ⟨w14.heap.size, 1, none⟩ = some (.int .i64 vHC) := by rw [cell_of_block kg]; rfl
        have kg_2 : w17.cell? ⟨w14.heap.size, 2, none⟩ = some (.int .i64 vHF) := by rw [cell_of_block kg]; rfl
        have ki_0 : w17.cell? ⟨w15.heap.size, 0, none⟩ = some (.int .i64 vOM) := by rw [cell_of_block ki]; rfl
        have ki_1 : w17.cell? ⟨w15.heap.size, 1, none⟩ = some (.int .i64 vOS) := by rw [cell_of_block ki]; rfl
        have kj_0 : w17.cell? ⟨w16.heap.size, 0, none⟩ = some (.int .i64 vOM) := by rw [cell_of_block kj]; rfl
        have kj_1 : w17.cell? ⟨w16.heap.size, 1, none⟩ = some (.int .i64 vOS) := by rw [cell_of_block kj]; rfl
        go_wp2_with fail
        refine (c8 _ (by (repeat (first | exact Below.refl _ _ | assumption | refine Below.drew ?_ | refine below_drewN ?_ _ | refine balloc ?_ _ | refine Below.setCell ?_ (by first | (simp; done) | (simp; omega) | omega) _ | refine bchain (by assumption) ?_)))).mono ?_
        rintro e w18 ⟨rfl, hb18⟩
        have hB18 : Below w17.heap.size w17 w18 := by (repeat (first | exact Below.refl _ _ | assumption | refine Below.drew ?_ | refine below_drewN ?_ _ | refine balloc ?_ _ | refine Below.setCell ?_ (by first | (simp; done) | (simp; omega) | omega) _ | refine bchain (by assumption) ?_))
        have kx := bblock hB18 kx
        have kh := bblock hB18 kh
        have kg := bblock hB18 kg
        have ki := bblock hB18 ki
        have kj := bblock hB18 kj
        have hw18 := bchain hB18 hw17
        clear hz_kx hz_kh hz_kg hz_ki hz_kj
        have hz_kx : p < w18.heap.size := (Array.getElem?_eq_some_iff.1 kx).1
        have hz_kh : w13.heap.size < w18.heap.size := (Array.getElem?_eq_some_iff.1 kh).1
        have hz_kg : w14.heap.size < w18.heap.size := (Array.getElem?_eq_some_iff.1 kg).1
        have hz_ki : w15.heap.size < w18.heap.size := (Array.getElem?_eq_some_iff.1 ki).1
        have hz_kj : w16.heap.size < w18.heap.size := (Array.getElem?_eq_some_iff.1 kj).1
        clear hB18
        clear kx_0 kx_1 kx_2 kx_3 kx_4 kx_5 kx_6 kx_7 kx_8 kh_0 kh_1 kh_2 kg_0 kg_1 kg_2 ki_0 ki_1 kj_0 kj_1
        have kx_0 : w18.cell? ⟨p, 0, none⟩ = some (.pointer (some ⟨bO, 0, none⟩)) := by rw [cell_of_block kx]; rfl
        have kx_1 : w18.cell? ⟨p, 1, none⟩ = some (.pointer (some ⟨bY, 0, none⟩)) := by rw [cell_of_block kx]; rfl
        have kx_2 : w18.cell? ⟨p, 2, none⟩ = some (.int .i64 0) := by rw [cell_of_block kx]; rfl
        have kx_3 : w18.cell? ⟨p, 3, none⟩ = some (.int .i64 200) := by rw [cell_of_block kx]; rfl
        have kx_4 : w18.cell? ⟨p, 4, none⟩ = some (.slice aO nO cO) := by rw [cell_of_block kx]; rfl
        have kx_5 : w18.cell? ⟨p, 5, none⟩ = some (.int .i64 16777216) := by rw [cell_of_block kx]; rfl
        have kx_6 : w18.cell? ⟨p, 6, none⟩ = some (.int .i64 16777416) := by rw [cell_of_block kx]; rfl
        have kx_7 : w18.cell? ⟨p, 7, none⟩ = some (.slice aY nY cY) := by rw [cell_of_block kx]; rfl
        have kx_8 : w18.cell? ⟨p, 8, none⟩ = some (.slice A xl lc) := by rw [cell_of_block kx]; rfl
        have kh_0 : w18.cell? ⟨w13.heap.size, 0, none⟩ = some (.int .i64 vHK) := by rw [cell_of_block kh]; rfl
        have kh_1 : w18.cell? ⟨w13.heap.size, 1, none⟩ = some (.int .i64 vHC) := by rw [cell_of_block kh]; rfl
        have kh_2 : w18.cell? ⟨w13.heap.size, 2, none⟩ = some (.int .i64 vHF) := by rw [cell_of_block kh]; rfl
        have kg_0 : w18.cell? ⟨w14.heap.size, 0, none⟩ = some (.int .i64 vHK) := by rw [cell_of_block kg]; rfl
        have kg_1 : w18.cell? ⟨w14.heap.size, 1, none⟩ = some (.int .i64 vHC) := by rw [cell_of_block kg]; rfl
        have kg_2 : w18.cell? ⟨w14.heap.size, 2, none⟩ = some (.int .i64 vHF) := by rw [cell_of_block kg]; rfl
        have ki_0 : w18.cell? ⟨w15.heap.size, 0, none⟩ = some (.int .i64 vOM) := by rw [cell_of_block ki]; rfl
        have ki_1 : w18.cell? ⟨w15.heap.size, 1, none⟩ = some (.int .i64 vOS) := by rw [cell_of_block ki]; rfl
        have kj_0 : w18.cell? ⟨w16.heap.size, 0, none⟩ = some (.int .i64 vOM) := by rw [cell_of_block kj]; rfl
        have kj_1 : w18.cell? ⟨w16.heap.size, 1, none⟩ = some (.int .i64 vOS) := by rw [cell_of_block kj]; rfl
        go_wp2_with fail
        refine (c9 _ (by (repeat (first | exact Below.refl _ _ | assumption | refine Below.drew ?_ | refine below_drewN ?_ _ | refine balloc ?_ _ | refine Below.setCell ?_ (by first | (simp; done) | (simp; omega) | omega) _ | refine bchain (by assumption) ?_)))).mono ?_
        rintro e w19 ⟨rfl, hb19⟩
        have hB19 : Below w18.heap.size w18 w19 := by (repeat (first | exact Below.refl _ _ | assumption | refine Below.drew ?_ | refine below_drewN ?_ _ | refine balloc ?_ _ | refine Below.setCell ?_ (by first | (simp; done) | (simp; omega) | omega) _ | refine bchain (by assumption) ?_))
        have kx := bblock hB19 kx
        have kh := bblock hB19 kh
        have kg := bblock hB19 kg
        have ki := bblock hB19 ki
        have kj := bblock hB19 kj
        have hw19 := bchain hB19 hw18
        clear hz_kx hz_kh hz_kg hz_ki hz_kj
        have hz_kx : p < w19.heap.size := (Array.getElem?_eq_some_iff.1 kx).1
        have hz_kh : w13.heap.size < w19.heap.size := (Array.getElem?_eq_some_iff.1 kh).1
        have hz_kg : w14.heap.size < w19.heap.size := (Array.getElem?_eq_some_iff.1 kg).1
        have hz_ki : w15.heap.size < w19.heap.size := (Array.getElem?_eq_some_iff.1 ki).1
        have hz_kj : w16.heap.size < w19.heap.size := (Array.getElem?_eq_some_iff.1 kj).1
        clear hB19
        clear kx_0 kx_1 kx_2 kx_3 kx_4 kx_5 kx_6 kx_7 kx_8 kh_0 kh_1 kh_2 kg_0 kg_1 kg_2 ki_0 ki_1 kj_0 kj_1
        have kx_0 : w19.cell? ⟨p, 0, none⟩ = some (.pointer (some ⟨bO, 0, none⟩)) := by rw [cell_of_block kx]; rfl
        have kx_1 : w19.cell? ⟨p, 1, none⟩ = some (.pointer (some ⟨bY, 0, none⟩)) := by rw [cell_of_block kx]; rfl
        have kx_2 : w19.cell? ⟨p, 2, none⟩ = some (.int .i64 0) := by rw [cell_of_block kx]; rfl
        have kx_3 : w19.cell? ⟨p, 3, none⟩ = some (.int .i64 200) := by rw [cell_of_block kx]; rfl
        have kx_4 : w19.cell? ⟨p, 4, none⟩ = some (.slice aO nO cO) := by rw [cell_of_block kx]; rfl
        have kx_5 : w19.cell? ⟨p, 5, none⟩ = some (.int .i64 16777216) := by rw [cell_of_block kx]; rfl
        have kx_6 : w19.cell? ⟨p, 6, none⟩ = some (.int .i64 16777416) := by rw [cell_of_block kx]; rfl
        have kx_7 : w19.cell? ⟨p, 7, none⟩ = some (.slice aY nY cY) := by rw [cell_of_block kx]; rfl
        have kx_8 : w19.cell? ⟨p, 8, none⟩ = some (.slice A xl lc) := by rw [cell_of_block kx]; rfl
        have kh_0 : w19.cell? ⟨w13.heap.size, 0, none⟩ = some (.int .i64 vHK) := by rw [cell_of_block kh]; rfl
        have kh_1 : w19.cell? ⟨w13.heap.size, 1, none⟩ = some (.int .i64 vHC) := by rw [cell_of_block kh]; rfl
        have kh_2 : w19.cell? ⟨w13.heap.size, 2, none⟩ = some (.int .i64 vHF) := by rw [cell_of_block kh]; rfl
        have kg_0 : w19.cell? ⟨w14.heap.size, 0, none⟩ = some (.int .i64 vHK) := by rw [cell_of_block kg]; rfl
        have kg_1 : w19.cell? ⟨w14.heap.size, 1, none⟩ = some (.int .i64 vHC) := by rw [cell_of_block kg]; rfl
        have kg_2 : w19.cell? ⟨w14.heap.size, 2, none⟩ = some (.int .i64 vHF) := by rw [cell_of_block kg]; rfl
        have ki_0 : w19.cell? ⟨w15.heap.size, 0, none⟩ = some (.int .i64 vOM) := by rw [cell_of_block ki]; rfl
        have ki_1 : w19.cell? ⟨w15.heap.size, 1, none⟩ = some (.int .i64 vOS) := by rw [cell_of_block ki]; rfl
        have kj_0 : w19.cell? ⟨w16.heap.size, 0, none⟩ = some (.int .i64 vOM) := by rw [cell_of_block kj]; rfl
        have kj_1 : w19.cell? ⟨w16.heap.size, 1, none⟩ = some (.int .i64 vOS) := by rw [cell_of_block kj]; rfl
        go_wp2_with fail
        refine (c10 _ (by (repeat (first | exact Below.refl _ _ | assumption | refine Below.drew ?_ | refine below_drewN ?_ _ | refine balloc ?_ _ | refine Below.setCell ?_ (by first | (simp; done) | (simp; omega) | omega) _ | refine bchain (by assumption) ?_)))).mono ?_
        rintro e w20 ⟨rfl, hb20⟩
        have hB20 : Below w19.heap.size w19 w20 := by (repeat (first | exact Below.refl _ _ | assumption | refine Below.drew ?_ | refine below_drewN ?_ _ | refine balloc ?_ _ | refine Below.setCell ?_ (by first | (simp; done) | (simp; omega) | omega) _ | refine bchain (by assumption) ?_))
        have kx := bblock hB20 kx
        have kh := bblock hB20 kh
        have kg := bblock hB20 kg
        have ki := bblock hB20 ki
        have kj := bblock hB20 kj
        have hw20 := bchain hB20 hw19
        clear hz_kx hz_kh hz_kg hz_ki hz_kj
        have hz_kx : p < w20.heap.size := (Array.getElem?_eq_some_iff.1 kx).1
        have hz_kh : w13.heap.size < w20.heap.size := (Array.getElem?_eq_some_iff.1 kh).1
        have hz_kg : w14.heap.size < w20.heap.size := (Array.getElem?_eq_some_iff.1 kg).1
        have hz_ki : w15.heap.size < w20.heap.size := (Array.getElem?_eq_some_iff.1 ki).1
        have hz_kj : w16.heap.size < w20.heap.size := (Array.getElem?_eq_some_iff.1 kj).1
        clear hB20
        clear kx_0 kx_1 kx_2 kx_3 kx_4 kx_5 kx_6 kx_7 kx_8 kh_0 kh_1 kh_2 kg_0 kg_1 kg_2 ki_0 ki_1 kj_0 kj_1
        have kx_0 : w20.cell? ⟨p, 0, none⟩ = some (.pointer (some ⟨bO, 0, none⟩)) := by rw [cell_of_block kx]; rfl
        have kx_1 : w20.cell? ⟨p, 1, none⟩ = some (.pointer (some ⟨bY, 0, none⟩)) := by rw [cell_of_block kx]; rfl
        have kx_2 : w20.cell? ⟨p, 2, none⟩ = some (.int .i64 0) := by rw [cell_of_block kx]; rfl
        have kx_3 : w20.cell? ⟨p, 3, none⟩ = some (.int .i64 200) := by rw [cell_of_block kx]; rfl
        have kx_4 : w20.cell? ⟨p, 4, none⟩ = some (.slice aO nO cO) := by rw [cell_of_block kx]; rfl
        have kx_5 : w20.cell? ⟨p, 5, none⟩ = some (.int .i64 16777216) := by rw [cell_of_block kx]; rfl
        have kx_6 : w20.cell? ⟨p, 6, none⟩ = some (.int .i64 16777416) := by rw [cell_of_block kx]; rfl
        have kx_7 : w20.cell? ⟨p, 7, none⟩ = some (.slice aY nY cY) := by rw [cell_of_block kx]; rfl
        have kx_8 : w20.cell? ⟨p, 8, none⟩ = some (.slice A xl lc) := by rw [cell_of_block kx]; rfl
        have kh_0 : w20.cell? ⟨w13.heap.size, 0, none⟩ = some (.int .i64 vHK) := by rw [cell_of_block kh]; rfl
        have kh_1 : w20.cell? ⟨w13.heap.size, 1, none⟩ = some (.int .i64 vHC) := by rw [cell_of_block kh]; rfl
        have kh_2 : w20.cell? ⟨w13.heap.size, 2, none⟩ = some (.int .i64 vHF) := by rw [cell_of_block kh]; rfl
        have kg_0 : w20.cell? ⟨w14.heap.size, 0, none⟩ = some (.int .i64 vHK) := by rw [cell_of_block kg]; rfl
        have kg_1 : w20.cell? ⟨w14.heap.size, 1, none⟩ = some (.int .i64 vHC) := by rw [cell_of_block kg]; rfl
        have kg_2 : w20.cell? ⟨w14.heap.size, 2, none⟩ = some (.int .i64 vHF) := by rw [cell_of_block kg]; rfl
        have ki_0 : w20.cell? ⟨w15.heap.size, 0, none⟩ = some (.int .i64 vOM) := by rw [cell_of_block ki]; rfl
        have ki_1 : w20.cell? ⟨w15.heap.size, 1, none⟩ = some (.int .i64 vOS) := by rw [cell_of_block ki]; rfl
        have kj_0 : w20.cell? ⟨w16.heap.size, 0, none⟩ = some (.int .i64 vOM) := by rw [cell_of_block kj]; rfl
        have kj_1 : w20.cell? ⟨w16.heap.size, 1, none⟩ = some (.int .i64 vOS) := by rw [cell_of_block kj]; rfl
        go_wp2_with fail
        refine (c11 _ (by (repeat (first | exact Below.refl _ _ | assumption | refine Below.drew ?_ | refine below_drewN ?_ _ | refine balloc ?_ _ | refine Below.setCell ?_ (by first | (simp; done) | (simp; omega) | omega) _ | refine bchain (by assumption) ?_)))).mono ?_
        rintro e w21 ⟨rfl, hb21⟩
        have hB21 : Below w20.heap.size w20 w21 := by (repeat (first | exact Below.refl _ _ | assumption | refine Below.drew ?_ | refine below_drewN ?_ _ | refine balloc ?_ _ | refine Below.setCell ?_ (by first | (simp; done) | (simp; omega) | omega) _ | refine bchain (by assumption) ?_))
        have kx := bblock hB21 kx
        have kh := bblock hB21 kh
        have kg := bblock hB21 kg
        have ki := bblock hB21 ki
        have kj := bblock hB21 kj
        have hw21 := bchain hB21 hw20
        clear hz_kx hz_kh hz_kg hz_ki hz_kj
        have hz_kx : p < w21.heap.size := (Array.getElem?_eq_some_iff.1 kx).1
        have hz_kh : w13.heap.size < w21.heap.size := (Array.getElem?_eq_some_iff.1 kh).1
        have hz_kg : w14.heap.size < w21.heap.size := (Array.getElem?_eq_some_iff.1 kg).1
        have hz_ki : w15.heap.size < w21.heap.size := (Array.getElem?_eq_some_iff.1 ki).1
        have hz_kj : w16.heap.size < w21.heap.size := (Array.getElem?_eq_some_iff.1 kj).1
        clear hB21
        clear kx_0 kx_1 kx_2 kx_3 kx_4 kx_5 kx_6 kx_7 kx_8 kh_0 kh_1 kh_2 kg_0 kg_1 kg_2 ki_0 ki_1 kj_0 kj_1
        have kx_0 : w21.cell? ⟨p, 0, none⟩ = some (.pointer (some ⟨bO, 0, none⟩)) := by rw [cell_of_block kx]; rfl
        have kx_1 : w21.cell? ⟨p, 1, none⟩ = some (.pointer (some ⟨bY, 0, none⟩)) := by rw [cell_of_block kx]; rfl
        have kx_2 : w21.cell? ⟨p, 2, none⟩ = some (.int .i64 0) := by rw [cell_of_block kx]; rfl
        have kx_3 : w21.cell? ⟨p, 3, none⟩ = some (.int .i64 200) := by rw [cell_of_block kx]; rfl
        have kx_4 : w21.cell? ⟨p, 4, none⟩ = some (.slice aO nO cO) := by rw [cell_of_block kx]; rfl
        have kx_5 : w21.cell? ⟨p, 5, none⟩ = some (.int .i64 16777216) := by rw [cell_of_block kx]; rfl
        have kx_6 : w21.cell? ⟨p, 6, none⟩ = some (.int .i64 16777416) := by rw [cell_of_block kx]; rfl
        have kx_7 : w21.cell? ⟨p, 7, none⟩ = some (.slice aY nY cY) := by rw [cell_of_block kx]; rfl
        have kx_8 : w21.cell? ⟨p, 8, none⟩ = some (.slice A xl lc) := by rw [cell_of_block kx]; rfl
        have kh_0 : w21.cell? ⟨w13.heap.size, 0, none⟩ = some (.int .i64 vHK) := by rw [cell_of_block kh]; rfl
        have kh_1 : w21.cell? ⟨w13.heap.size, 1, none⟩ = some (.int .i64 vHC) := by rw [cell_of_block kh]; rfl
        have kh_2 : w21.cell? ⟨w13.heap.size, 2, none⟩ = some (.int .i64 vHF) := by rw [cell_of_block kh]; rfl
        have kg_0 : w21.cell? ⟨w14.heap.size, 0, none⟩ = some (.int .i64 vHK) := by rw [cell_of_block kg]; rfl
        have kg_1 : w21.cell? ⟨w14.heap.size, 1, none⟩ = some (.int .i64 vHC) := by rw [cell_of_block kg]; rfl
        have kg_2 : w21.cell? ⟨w14.heap.size, 2, none⟩ = some (.int .i64 vHF) := by rw [cell_of_block kg]; rfl
        have ki_0 : w21.cell? ⟨w15.heap.size, 0, none⟩ = some (.int .i64 vOM) := by rw [cell_of_block ki]; rfl
        have ki_1 : w21.cell? ⟨w15.heap.size, 1, none⟩ = some (.int .i64 vOS) := by rw [cell_of_block ki]; rfl
        have kj_0 : w21.cell? ⟨w16.heap.size, 0, none⟩ = some (.int .i64 vOM) := by rw [cell_of_block kj]; rfl
        have kj_1 : w21.cell? ⟨w16.heap.size, 1, none⟩ = some (.int .i64 vOS) := by rw [cell_of_block kj]; rfl
        go_wp2_with fail
        refine (c12 _ (by (repeat (first | exact Below.refl _ _ | assumption | refine Below.drew ?_ | refine below_drewN ?_ _ | refine balloc ?_ _ | refine Below.setCell ?_ (by first | (simp; done) | (simp; omega) | omega) _ | refine bchain (by assumption) ?_)))).mono ?_
        rintro e w22 ⟨rfl, hb22⟩
        have hB22 : Below w21.heap.size w21 w22 := by (repeat (first | exact Below.refl _ _ | assumption | refine Below.drew ?_ | refine below_drewN ?_ _ | refine balloc ?_ _ | refine Below.setCell ?_ (by first | (simp; done) | (simp; omega) | omega) _ | refine bchain (by assumption) ?_))
        have kx := bblock hB22 kx
        have kh := bblock hB22 kh
        have kg := bblock hB22 kg
        have ki := bblock hB22 ki
        have kj := bblock hB22 kj
        have hw22 := bchain hB22 hw21
        clear hz_kx hz_kh hz_kg hz_ki hz_kj
        have hz_kx : p < w22.heap.size := (Array.getElem?_eq_some_iff.1 kx).1
        have hz_kh : w13.heap.size < w22.heap.size := (Array.getElem?_eq_some_iff.1 kh).1
        have hz_kg : w14.heap.size < w22.heap.size := (Array.getElem?_eq_some_iff.1 kg).1
        have hz_ki : w15.heap.size < w22.heap.size := (Array.getElem?_eq_some_iff.1 ki).1
        have hz_kj : w16.heap.size < w22.heap.size := (Array.getElem?_eq_some_iff.1 kj).1
        clear hB22
        clear kx_0 kx_1 kx_2 kx_3 kx_4 kx_5 kx_6 kx_7 kx_8 kh_0 kh_1 kh_2 kg_0 kg_1 kg_2 ki_0 ki_1 kj_0 kj_1
        have kx_0 : w22.cell? ⟨p, 0, none⟩ = some (.pointer (some ⟨bO, 0, none⟩)) := by rw [cell_of_block kx]; rfl
        have kx_1 : w22.cell? ⟨p, 1, none⟩ = some (.pointer (some ⟨bY, 0, none⟩)) := by rw [cell_of_block kx]; rfl
        have kx_2 : w22.cell? ⟨p, 2, none⟩ = some (.int .i64 0) := by rw [cell_of_block kx]; rfl
        have kx_3 : w22.cell? ⟨p, 3, none⟩ = some (.int .i64 200) := by rw [cell_of_block kx]; rfl
        have kx_4 : w22.cell? ⟨p, 4, none⟩ = some (.slice aO nO cO) := by rw [cell_of_block kx]; rfl
        have kx_5 : w22.cell? ⟨p, 5, none⟩ = some (.int .i64 16777216) := by rw [cell_of_block kx]; rfl
        have kx_6 : w22.cell? ⟨p, 6, none⟩ = some (.int .i64 16777416) := by rw [cell_of_block kx]; rfl
        have kx_7 : w22.cell? ⟨p, 7, none⟩ = some (.slice aY nY cY) := by rw [cell_of_block kx]; rfl
        have kx_8 : w22.cell? ⟨p, 8, none⟩ = some (.slice A xl lc) := by rw [cell_of_block kx]; rfl
        have kh_0 : w22.cell? ⟨w13.heap.size, 0, none⟩ = some (.int .i64 vHK) := by rw [cell_of_block kh]; rfl
        have kh_1 : w22.cell? ⟨w13.heap.size, 1, none⟩ = some (.int .i64 vHC) := by rw [cell_of_block kh]; rfl
        have kh_2 : w22.cell? ⟨w13.heap.size, 2, none⟩ = some (.int .i64 vHF) := by rw [cell_of_block kh]; rfl
        have kg_0 : w22.cell? ⟨w14.heap.size, 0, none⟩ = some (.int .i64 vHK) := by rw [cell_of_block kg]; rfl
        have kg_1 : w22.cell? ⟨w14.heap.size, 1, none⟩ = some (.int .i64 vHC) := by rw [cell_of_block kg]; rfl
        have kg_2 : w22.cell? ⟨w14.heap.size, 2, none⟩ = some (.int .i64 vHF) := by rw [cell_of_block kg]; rfl
        have ki_0 : w22.cell? ⟨w15.heap.size, 0, none⟩ = some (.int .i64 vOM) := by rw [cell_of_block ki]; rfl
        have ki_1 : w22.cell? ⟨w15.heap.size, 1, none⟩ = some (.int .i64 vOS) := by rw [cell_of_block ki]; rfl
        have kj_0 : w22.cell? ⟨w16.heap.size, 0, none⟩ = some (.int .i64 vOM) := by rw [cell_of_block kj]; rfl
        have kj_1 : w22.cell? ⟨w16.heap.size, 1, none⟩ = some (.int .i64 vOS) := by rw [cell_of_block kj]; rfl
        go_wp2
        go_roundw
        case rel => exact ⟨t + 1, by omega, by go_num, by (repeat (first | exact Below.refl _ _ | assumption | refine Below.drew ?_ | refine below_drewN ?_ _ | refine balloc ?_ _ | refine Below.setCell ?_ (by first | (simp; done) | (simp; omega) | omega) _ | refine bchain (by assumption) ?_))⟩
        case measure => simp [intOf]; omega
      · go_wp2
        go_ret
        exact ⟨rfl, bchain (by (repeat (first | exact Below.refl _ _ | assumption | refine Below.drew ?_ | refine below_drewN ?_ _ | refine balloc ?_ _ | refine Below.setCell ?_ (by first | (simp; done) | (simp; omega) | omega) _ | refine bchain (by assumption) ?_))) hw5⟩
end Go.Proofs.Ytcmhgjkijegpnaa
