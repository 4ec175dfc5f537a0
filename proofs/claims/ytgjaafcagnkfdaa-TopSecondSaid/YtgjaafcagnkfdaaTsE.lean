/-
  The slots of the old space: the iterator that barrier.slots hands back.
-/
import Derived.Test.YtgjaafcagnkfdaaTsD
import Derived.RangeFuncBox
import Derived.Lib.Walk
namespace Go.Proofs.Ytgjaafcagnkfdaa
open Go.RowKit Go.Shelf
set_option linter.unusedSimpArgs false
set_option linter.unusedVariables false

/-- The block of the row that the variable D holds. -/
def RowIn (W : World) (D k : Nat) : Prop := ∃ v T, W.heap[D]? = some (.cells #[v] T (0, 0)) ∧ v.ownBlock = some k
/-- What a round of the caller's loop may write: the variable D, and the row that it holds. -/
def OutK (D : Nat) (A B : World) : Prop := A.heap.size ≤ B.heap.size ∧ (∀ k o, A.heap[k]? = some o → o.isCells = true → k ≠ D → ¬ RowIn A D k → B.heap[k]? = some o) ∧ ∀ k, RowIn B D k → RowIn A D k ∨ (A.heap.size ≤ k ∧ k < B.heap.size)
theorem OutK.t {D : Nat} {A B C : World} (h : OutK D A B) (k : OutK D B C) : OutK D A C := by
  obtain ⟨h1, h2, h3⟩ := h
  obtain ⟨k1, k2, k3⟩ := k
  refine ⟨Nat.le_trans h1 k1, fun j o ho hc hD hr => k2 j o (h2 j o ho hc hD hr) hc hD (fun hb => ?_), fun j hj => ?_⟩
  · have hlt := (Array.getElem?_eq_some_iff.1 ho).1
    rcases h3 j hb with e | e
    · exact hr e
    · omega
  · rcases k3 j hj with e | e
    · rcases h3 j e with e | e
      · exact .inl e
      · exact .inr ⟨e.1, by omega⟩
    · exact .inr ⟨by omega, e.2⟩
theorem RowIn.of_eq {A B : World} {D k : Nat} (h : RowIn B D k) (e : B.heap[D]? = A.heap[D]?) : RowIn A D k := by
  obtain ⟨v, T, h1, h2⟩ := h
  exact ⟨v, T, by rw [← e]; exact h1, h2⟩
theorem OutK.b {D : Nat} {w : World} (hD : D < w.heap.size) (W : World) (l : Nat) (o o' : Obj) (hl : w.heap.size ≤ l) (ho : W.heap[l]? = some o) (hc : o.isCells = false) (_ : o.isWalk = false) : OutK D W (W.putObj l o') := by
  refine ⟨by simp [World.putObj], fun k o1 h1 hc1 _ _ => ?_, fun k hk => .inl (hk.of_eq (World.putObj_heap_other (by omega)))⟩
  have hne : k ≠ l := fun e => by rw [e] at h1; rw [ho] at h1; cases h1; rw [hc] at hc1; cases hc1
  rw [World.putObj_heap_other hne]
  exact h1
structure FrS (D : Nat) (S : Nat → Prop) (W : World) : Prop where
  dlt : D < W.heap.size
  rlt : ∀ k, RowIn W D k → k < W.heap.size
  all : ∀ k, S k → k ≠ D ∧ ¬ RowIn W D k ∧ ∃ o, W.heap[k]? = some o ∧ o.isCells = true
theorem FrS.below {D : Nat} {S : Nat → Prop} {A B : World} (h : FrS D S A) (hb : Below A.heap.size A B) : FrS D S B := by
  refine ⟨Nat.lt_of_lt_of_le h.dlt hb.size, fun k hk => Nat.lt_of_lt_of_le (h.rlt k (hk.of_eq (hb.block D h.dlt))) hb.size, fun k hk => ?_⟩
  obtain ⟨h1, h2, o, h3, h4⟩ := h.all k hk
  exact ⟨h1, fun hr => h2 (hr.of_eq (hb.block D h.dlt)), o, (hb.block k (Array.getElem?_eq_some_iff.1 h3).1).trans h3, h4⟩
theorem FrS.out {D : Nat} {S : Nat → Prop} {A B : World} (h : FrS D S A) (hk : OutK D A B) : FrS D S B := by
  obtain ⟨k1, k2, k3⟩ := hk
  refine ⟨Nat.lt_of_lt_of_le h.dlt k1, fun k hr => ?_, fun k hs => ?_⟩
  · rcases k3 k hr with e | e
    · exact Nat.lt_of_lt_of_le (h.rlt k e) k1
    · exact e.2
  · obtain ⟨h1, h2, o, h3, h4⟩ := h.all k hs
    refine ⟨h1, fun hr => ?_, o, k2 k o h3 h4 h1 h2, h4⟩
    have hlt := (Array.getElem?_eq_some_iff.1 h3).1
    rcases k3 k hr with e | e
    · exact h2 e
    · omega
theorem FrS.keep {D : Nat} {S : Nat → Prop} {A B : World} (h : FrS D S A) (hk : OutK D A B) {k : Nat} (hs : S k) {o : Obj} (ho : A.heap[k]? = some o) : B.heap[k]? = some o := by
  obtain ⟨h1, h2, o', h3, h4⟩ := h.all k hs
  rw [ho] at h3
  cases h3
  exact hk.2.1 k o ho h4 h1 h2
/-- A block made since lies apart as well. -/
theorem FrS.new {D : Nat} {S : Nat → Prop} {A B : World} (h : FrS D S A) (hb : Below A.heap.size A B) {G : Nat} (hG : A.heap.size ≤ G) {o : Obj} (ho : B.heap[G]? = some o) (hc : o.isCells = true) : FrS D (fun k => S k ∨ k = G) B := by
  have h' := h.below hb
  refine ⟨h'.dlt, h'.rlt, fun k hk => ?_⟩
  rcases hk with hk | rfl
  · exact h'.all k hk
  · refine ⟨by have := h.dlt; omega, fun hr => ?_, o, ho, hc⟩
    have := h.rlt k (hr.of_eq (hb.block D h.dlt))
    omega
/-- The blocks of a memory and of the variable that holds it. -/
def MK (Bn bO bY : Nat) (gO gY : Option Nat) : Nat → Prop := fun k => k = Bn ∨ k = bO ∨ k = bY ∨ gO = some k ∨ gY = some k
theorem MemAt.keepS {A B : World} {bO bY : Nat} {lo ly : Int} {wo wy : List Int} {gO gY : Option Nat} (h : MemAt A bO bY lo ly wo wy gO gY) (hO : ∀ o, A.heap[bO]? = some o → B.heap[bO]? = some o) (hY : ∀ o, A.heap[bY]? = some o → B.heap[bY]? = some o) (hg : ∀ G o, gO = some G → A.heap[G]? = some o → B.heap[G]? = some o) (hy : ∀ G o, gY = some G → A.heap[G]? = some o → B.heap[G]? = some o) : MemAt B bO bY lo ly wo wy gO gY :=
  ⟨h.old.keep hO hg, h.yng.keep hY hy, h.okO, h.okY, h.lim, h.bb, h.gb, h.bg, h.gg⟩
theorem MemAt.out {D : Nat} {S : Nat → Prop} {A B : World} {Bn : Nat} {bO bY : Nat} {lo ly : Int} {wo wy : List Int} {gO gY : Option Nat} (h : MemAt A bO bY lo ly wo wy gO gY) (hf : FrS D S A) (hS : ∀ k, MK Bn bO bY gO gY k → S k) (hk : OutK D A B) : MemAt B bO bY lo ly wo wy gO gY :=
  h.keepS (fun o ho => hf.keep hk (hS _ (.inr (.inl rfl))) ho) (fun o ho => hf.keep hk (hS _ (.inr (.inr (.inl rfl)))) ho) (fun G o e ho => hf.keep hk (hS _ (.inr (.inr (.inr (.inl e))))) ho) (fun G o e ho => hf.keep hk (hS _ (.inr (.inr (.inr (.inr e))))) ho)
/-- The slots of an object with what they hold; those of the old space. -/
def slW (wo wy : List Int) (a : Int) : List (Int × Int) := (slA a (HF wo wy a).toNat).map (fun q => (q, LD wo wy q))
def slQ (wo wy : List Int) (l : List Int) : List (Int × Int) := l.flatMap (slW wo wy)
theorem slQ_snoc (wo wy l : List Int) (a : Int) : slQ wo wy (l ++ [a]) = slQ wo wy l ++ slW wo wy a := by unfold slQ; simp
theorem slQ_split (wo wy : List Int) {l : List Int} {i : Nat} {a : Int} (h : l[i]? = some a) : slQ wo wy l = slQ wo wy (l.take i) ++ slW wo wy a ++ slQ wo wy (l.drop (i + 1)) := by
  obtain ⟨hl, e⟩ := List.getElem?_eq_some_iff.1 h
  have : l = l.take i ++ a :: l.drop (i + 1) := by rw [← e, ← List.drop_eq_getElem_cons hl, List.take_append_drop]
  conv => lhs; rw [this]
  unfold slQ
  simp
theorem slW_get {wo wy : List Int} {a : Int} {j : Nat} (h : j < (HF wo wy a).toNat) : (slW wo wy a)[j]? = some (a + 2 + (j : Int), LD wo wy (a + 2 + (j : Int))) := by
  unfold slW slA
  simp [h]
theorem slW_len (wo wy : List Int) (a : Int) : (slW wo wy a).length = (HF wo wy a).toNat := by unfold slW; rw [List.length_map, slA_len]
theorem slot_rng {wo wy : List Int} {a : Int} {j : Int} (hl : (wo.length : Int) ≤ 16777216) (h : HE wo wy a = 0) (hj : 0 ≤ j ∧ j < HF wo wy a) : bsA (a + 2 + j) = bsA a ∧ wsA wo wy (a + 2 + j) = wsA wo wy a ∧ bsA a ≤ a ∧ a + 2 + j < bsA a + (wsA wo wy a).length := by
  have h0 : hdE (bsA a) (wsA wo wy a) a = 0 := h
  obtain ⟨h1, h2, h3, h4⟩ := hd_bd h0
  have h5 := wordsI_bd h3
  have h6 := inB_iff.1 h1
  have hf : HF wo wy a = hdF (bsA a) (wsA wo wy a) a := rfl
  rw [hf] at hj
  by_cases ha : 16777216 ≤ a
  · have e1 : bsA (a + 2 + j) = bsA a := by unfold bsA; rw [if_pos (by omega), if_pos ha]
    have e2 : wsA wo wy (a + 2 + j) = wsA wo wy a := by unfold wsA; rw [if_pos (by omega), if_pos ha]
    exact ⟨e1, e2, h6.1, by omega⟩
  · have e0 : bsA a = 0 := by unfold bsA; rw [if_neg ha]
    have e3 : wsA wo wy a = wo := by unfold wsA; rw [if_neg ha]
    rw [e0, e3] at h4 h6 h5 hj
    have e1 : bsA (a + 2 + j) = bsA a := by unfold bsA; rw [if_neg (by omega), if_neg ha]
    have e2 : wsA wo wy (a + 2 + j) = wsA wo wy a := by unfold wsA; rw [if_neg (by omega), if_neg ha]
    exact ⟨e1, e2, by rw [e0]; exact h6.1, by rw [e0, e3]; omega⟩
theorem slot_le {wo wy : List Int} {a : Int} {j : Int} (hl : (wo.length : Int) ≤ 16777216) (h : HE wo wy a = 0) (hj : 0 ≤ j ∧ j < HF wo wy a) : LE wo wy (a + 2 + j) = 0 := by
  obtain ⟨e1, e2, e3, e4⟩ := slot_rng hl h hj
  unfold LE ioE
  rw [e1, e2, inB_iff.2 ⟨by omega, e4⟩]
  rfl
theorem slots_any {w : World} {bO bY : Nat} {lo ly : Int} {wo wy : List Int} {gO gY : Option Nat} (hm : MemAt w bO bY lo ly wo wy gO gY) : Calls Try.prog 56 #[.agg #[.pointer (some ⟨bO, 0, none⟩), .pointer (some ⟨bY, 0, none⟩)]] w fun e w' => e = .returned (.func (.func 62) #[] #[.pointer (some ⟨w.heap.size, 0, none⟩)]) ∧ w' = w.alloc (.cells #[.pointer (some ⟨bO, 0, none⟩), .pointer (some ⟨bY, 0, none⟩)] 26) := by
  have hmf : ∀ (fn : Fn) (first cap : Array Value) (w : World), (Instr.makeFunc fn first cap).run Try.prog w = .ok (.func fn first cap) w := fun _ _ _ _ => rfl
  clear hm
  go_enter Try.func56, Try.ntmps56
  go_wp2
  go_ret
  exact ⟨rfl, rfl⟩
set_option maxRecDepth 100000 in
set_option maxHeartbeats 4000000 in
theorem slots1_in (n : Nat) (hn : 1 ≤ n) (l Bn D : Nat) {bO bY : Nat} {lo ly : Int} {wo wy : List Int} {gO gY : Option Nat} (hrec : ∀ a ∈ objA 0 wo, HE wo wy a = 0 ∧ HK wo wy a = 0) (N0 : Nat) (J Jx : List (Int × Int) → World → Prop) (hJ : AbidesFrom N0 J) (hJx : AbidesFrom N0 Jx)
    (hY : ∀ pre (x : Int × Int) W, x ∈ slQ wo wy (objA 0 wo) → J pre W → pre.length < (slQ wo wy (objA 0 wo)).length → YieldAt Fence.wide (n - 1) Try.prog l #[.int .i64 x.1, .int .u64 x.2] W fun e W' =>
      (e = .returned (.bool true) ∧ J (pre ++ [x]) W' ∧ OutK D W W') ∨ (e = .returned (.bool false) ∧ Jx (pre ++ [x]) W'))
    (W : World) (hBn : W.heap[Bn]? = some (.cells #[.pointer (some ⟨bO, 0, none⟩), .pointer (some ⟨bY, 0, none⟩)] 26 (0, 0))) (hm : MemAt W bO bY lo ly wo wy gO gY) (hf : FrS D (MK Bn bO bY gO gY) W) (h0 : J [] W) :
    CallsIn Fence.wide n Try.prog 62 #[.func (.yield l) #[] #[], .pointer (some ⟨Bn, 0, none⟩)] W fun e W' => (∃ v, e = .returned v) ∧
      ((∃ ys, ys = slQ wo wy (objA 0 wo) ∧ J ys W') ∨ (∃ pre, pre <+: slQ wo wy (objA 0 wo) ∧ Jx pre W')) := by
  have hlen0 : (wo.length : Int) ≤ 16777216 := by have := hm.okO.top; have := hm.lim; omega
  have hob := objects_any hm.old hm.okO
  have hR0 : ∀ a ∈ objA 0 wo, 0 ≤ a ∧ a ≤ 1099511627776 := fun a ha => HE_rng hm (hrec a ha).1
  obtain ⟨OL, hOL⟩ : ∃ OL, objA 0 wo = OL := ⟨_, rfl⟩
  rw [hOL] at hrec hR0 hY hob ⊢
  refine callsIn_of_wp Try.func62 rfl trivial ?_ rfl
  simp only [Try.ntmps62, List.size_toArray, List.length_cons, List.length_nil, Nat.reduceAdd, Nat.reduceSub, Array.replicate_succ, Array.replicate_zero, List.push_toArray, List.append_toArray, List.nil_append, List.cons_append]
  have b0 : W.cell? ⟨Bn, 0, none⟩ = some (.pointer (some ⟨bO, 0, none⟩)) := by rw [cell_of_block hBn]; rfl
  gi_wp2_with fail
  refine ⟨trivial, (callsIn_wide.2 hob).mono ?_⟩
  rintro e w1 ⟨v1, rfl, hrow, hb1⟩
  obtain ⟨A1, c1, rfl, hc1, hc1b⟩ := row_form hrow
  have hJ1 := abgo hJ h0 hb1
  have hBn1 := bblock hb1 hBn
  have hm1 := hm.below hb1
  have hfG : ∃ S : Nat → Prop, FrS D S w1 ∧ (∀ k, MK Bn bO bY gO gY k → S k) ∧ (OL = [] ∨ ∃ G, A1 = some ⟨G, 0, none⟩ ∧ S G ∧ ∀ (i : Nat) (a : Int), OL[i]? = some a → w1.cell? ⟨G, i, none⟩ = some (.int .i64 a)) := by
    obtain ⟨_, h2⟩ := hrow
    rcases h2 with ⟨_, h2⟩ | ⟨G, cap, cur, e, hge, hh, hcc, hmm, hs, ht⟩
    · exact ⟨_, hf.below hb1, fun k hk => hk, .inl (List.length_eq_zero_iff.1 h2)⟩
    · simp only [Value.slice.injEq] at e
      obtain ⟨rfl, _, rfl⟩ := e
      refine ⟨_, hf.new hb1 hge hh rfl, fun k hk => .inl hk, .inr ⟨G, rfl, .inr rfl, fun i a ha => ?_⟩⟩
      rw [cell_of_block hh, ← Array.getElem?_toList]
      have hi := (List.getElem?_eq_some_iff.1 ha).1
      have e : (cur.toList.take (OL.length * 1))[i]? = (OL.map (Value.int .i64))[i]? := by rw [ht]
      rw [List.getElem?_take_of_lt (by omega)] at e
      rw [e, List.getElem?_map, ha]
      rfl
  obtain ⟨S, hfS, hSM, hG⟩ := hfG
  clear hrow hf hm hBn h0 hb1 b0 hOL hob
  gi_wp2_with fail
  gi_loopw [15] (fun q wr => ∃ i : Nat, i ≤ OL.length ∧ q = .int .i64 i ∧ J (slQ wo wy (OL.take i)) wr ∧ MemAt wr bO bY lo ly wo wy gO gY ∧ wr.heap[Bn]? = some (.cells #[.pointer (some ⟨bO, 0, none⟩), .pointer (some ⟨bY, 0, none⟩)] 26 (0, 0)) ∧ FrS D S wr ∧ (OL = [] ∨ ∃ G, A1 = some ⟨G, 0, none⟩ ∧ S G ∧ ∀ (i : Nat) (a : Int), OL[i]? = some a → wr.cell? ⟨G, i, none⟩ = some (.int .i64 a)))
    (fun q wr => OL.length - natOf q)
  case atStart => exact ⟨0, Nat.zero_le _, rfl, hJ1, hm1, hBn1, hfS, hG⟩
  case round =>
    clear hJ1 hm1 hBn1 hfS hG
    obtain ⟨i, hi, rfl, hJr, hmr, hBr, hfr, hGr⟩ := hrel
    by_cases hlt : i < OL.length
    · obtain ⟨a, ha⟩ : ∃ a, OL[i]? = some a := ⟨_, List.getElem?_eq_getElem hlt⟩
      rcases hGr with rfl | ⟨G, rfl, hSG, hGr⟩
      · simp at hlt
      have ca := hGr i a ha
      have cz := World.block_lt_of_cell? _ _ ca
      obtain ⟨e1, e2⟩ := hrec a (List.mem_of_getElem? ha)
      have hra := hR0 a (List.mem_of_getElem? ha)
      have hsp := slQ_split wo wy ha
      have hH := mhdr_any hmr a
      rw [e1, e2] at hH
      obtain ⟨_, f0, f1, _, _⟩ := HE_bd e1
      obtain ⟨m, hm'⟩ : ∃ m : Nat, HF wo wy a = m := ⟨(HF wo wy a).toNat, by omega⟩
      have hwl := slW_len wo wy a
      have hwg := fun j => @slW_get wo wy a j
      rw [hm'] at hH f1 hwl hwg
      rw [show ((m : Int)).toNat = m by omega] at hwl hwg
      generalize HC wo wy a = hc at *
      have b0 : wr.cell? ⟨Bn, 0, none⟩ = some (.pointer (some ⟨bO, 0, none⟩)) := by rw [cell_of_block hBr]; rfl
      have b1 : wr.cell? ⟨Bn, 1, none⟩ = some (.pointer (some ⟨bY, 0, none⟩)) := by rw [cell_of_block hBr]; rfl
      have s1 : ((i : Int)).toNat = i := by omega
      have hd : decide ((i : Int) < (OL.length : Int)) = true := by simpa using hlt
      have HR := Lib.hid (And.intro hmr (And.intro hBr (And.intro hfr hGr)))
      have HH := Lib.hid (And.intro e1 (And.intro hm' (And.intro hsp ha)))
      have HW := Lib.hid (And.intro hwl hwg)
      clear e1 e2 hm' f0 hmr hBr hfr hGr hsp hwl hwg ha
      gi_wp2_with fail
      refine ⟨trivial, (callsIn_wide.2 hH).mono ?_⟩
      rintro e w2 ⟨rfl, hb2⟩
      have hB3 := balloc hb2 (.cells #[.int .i64 0, .int .i64 hc, .int .i64 m] 46)
      have hJ3 := abgo hJ hJr hB3
      have HM3 := Lib.hid (HR.out.1.below hB3)
      have HB3 := Lib.hid (bblock hB3 HR.out.2.1)
      have HF3 := Lib.hid (HR.out.2.2.1.below hB3)
      have HG3 := Lib.hid (fun i a ha => bcellv hB3 (HR.out.2.2.2 i a ha))
      clear ca b0 b1 hb2 hB3 hH HR hJr
      gi_wp2_with fail
      obtain ⟨w3, hw3⟩ : ∃ W, w2.alloc (.cells #[.int .i64 0, .int .i64 hc, .int .i64 m] 46) = W := ⟨_, rfl⟩
      rw [hw3] at hJ3 HM3 HB3 HF3 HG3 ⊢
      clear hw3
      gi_loopw [34] (fun q wy' => ∃ j : Nat, j ≤ m ∧ q = .int .i64 j ∧ J (slQ wo wy (OL.take i) ++ (slW wo wy a).take j) wy' ∧ MemAt wy' bO bY lo ly wo wy gO gY ∧ wy'.heap[Bn]? = some (.cells #[.pointer (some ⟨bO, 0, none⟩), .pointer (some ⟨bY, 0, none⟩)] 26 (0, 0)) ∧ FrS D S wy' ∧ (∀ (i : Nat) (a : Int), OL[i]? = some a → wy'.cell? ⟨G, i, none⟩ = some (.int .i64 a)))
        (fun q _ => m - natOf q)
      case atStart => exact ⟨0, Nat.zero_le _, rfl, by simpa using hJ3, HM3.out, HB3.out, HF3.out, HG3.out⟩
      case round =>
        clear hJ3 HM3 HB3 HF3 HG3
        obtain ⟨j, hj, rfl, hJr, hmr, hBr, hfr, hGr⟩ := hrel
        by_cases hjm : j < m
        · have hx := HW.out.2 j hjm
          have hL := mload_any hmr (a + 2 + (j : Int))
          have b0 : wr.cell? ⟨Bn, 0, none⟩ = some (.pointer (some ⟨bO, 0, none⟩)) := by rw [cell_of_block hBr]; rfl
          have b1 : wr.cell? ⟨Bn, 1, none⟩ = some (.pointer (some ⟨bY, 0, none⟩)) := by rw [cell_of_block hBr]; rfl
          have hle : LE wo wy (a + 2 + (j : Int)) = 0 := slot_le hlen0 HH.out.1 (by rw [HH.out.2.1]; omega)
          rw [hle] at hL
          have s2 : IntKind.i64.wrap (a + 2) = a + 2 := IntWalk.i64_in _ (by omega)
          have s3 : IntKind.i64.wrap (a + 2 + (j : Int)) = a + 2 + (j : Int) := IntWalk.i64_in _ (by omega)
          have hd2 : decide ((j : Int) < (m : Int)) = true := by simpa using hjm
          have HR := Lib.hid (And.intro hmr (And.intro hBr (And.intro hfr hGr)))
          have HX := Lib.hid hx
          clear hle hmr hBr hfr hGr hx
          gi_wp2_with fail
          refine ⟨trivial, (callsIn_wide.2 hL).mono ?_⟩
          rintro e w4 ⟨rfl, hb4⟩
          have hJ4 := abgo hJ hJr hb4
          have hm4 := HR.out.1.below hb4
          have hB4 := bblock hb4 HR.out.2.1
          have hf4 := HR.out.2.2.1.below hb4
          have hG4 := fun i a ha => bcellv hb4 (HR.out.2.2.2 i a ha)
          have hsq := HH.out.2.2.1
          have hmem : (a + 2 + (j : Int), LD wo wy (a + 2 + (j : Int))) ∈ slQ wo wy OL := by
            rw [hsq]
            exact List.mem_append_left _ (List.mem_append_right _ (List.mem_of_getElem? HX.out))
          have hlen : (slQ wo wy (OL.take i) ++ (slW wo wy a).take j).length < (slQ wo wy OL).length := by
            have h1 := congrArg List.length hsq
            simp only [List.length_append, List.length_take] at h1 ⊢
            rw [HW.out.1] at h1 ⊢
            omega
          obtain ⟨fn, tmps, assign, body, hy, hRR⟩ := hY _ _ w4 hmem hJ4 hlen
          have HSN : slQ wo wy (OL.take i) ++ (slW wo wy a).take j ++ [(a + 2 + (j : Int), LD wo wy (a + 2 + (j : Int)))] = slQ wo wy (OL.take i) ++ (slW wo wy a).take (j + 1) := by
            rw [List.append_assoc, take_snoc7 HX.out]
          rw [HSN] at hRR
          have HS2 := Lib.hid (And.intro hm4 (And.intro hB4 (And.intro hf4 hG4)))
          have HSQ := Lib.hid hsq
          clear hm4 hB4 hf4 hG4 hJ4 hmem hlen HSN HR hL hb4 hJr b0 b1 hsq
          gi_wp2
          refine hRR.mono ?_
          clear hRR hy
          rintro e W3 (⟨rfl, hJ3, hk3⟩ | ⟨rfl, hJx3⟩)
          · have hm5 := HS2.out.1.out (Bn := Bn) HS2.out.2.2.1 hSM hk3
            have hB5 := HS2.out.2.2.1.keep hk3 (hSM _ (.inl rfl)) HS2.out.2.1
            have hf5 := HS2.out.2.2.1.out hk3
            have hG5 : ∀ (i : Nat) (a : Int), OL[i]? = some a → W3.cell? ⟨G, i, none⟩ = some (.int .i64 a) := fun i a ha => by
              have hc := HS2.out.2.2.2 i a ha
              obtain ⟨o, ho⟩ : ∃ o, w4.heap[G]? = some o := ⟨_, Array.getElem?_eq_getElem (World.block_lt_of_cell? _ _ hc)⟩
              rw [World.cell?_of_block (show W3.heap[G]? = w4.heap[G]? by rw [ho]; exact HS2.out.2.2.1.keep hk3 hSG ho)]
              exact hc
            gi_wp2
            go_roundw
            case rel => exact ⟨j + 1, by omega, by go_num, hJ3, hm5, hB5, hf5, hG5⟩
            case measure => simp [natOf]; omega
          · gi_wp2
            refine bodyPost_ret (results_none rfl _ _ _) rfl ?_
            refine ⟨⟨_, rfl⟩, .inr ⟨_, ?_, hJx3⟩⟩
            rw [HSQ.out]
            exact ⟨(slW wo wy a).drop (j + 1) ++ slQ wo wy (OL.drop (i + 1)), by rw [← List.append_assoc, List.append_assoc (slQ wo wy (OL.take i)), List.take_append_drop]⟩
        · have hjm2 : j = m := by omega
          subst hjm2
          have hd2 : decide ((j : Int) < (j : Int)) = false := by simp
          rw [show (slW wo wy a).take j = slW wo wy a from List.take_of_length_le (by rw [HW.out.1]; exact Nat.le_refl _)] at hJr
          have HT := Lib.hid (take_snoc7 HH.out.2.2.2)
          gi_wp2
          go_roundw
          case rel => exact ⟨i + 1, by omega, by go_num, by rw [HT.out, slQ_snoc]; exact hJr, hmr, hBr, hfr, .inr ⟨G, rfl, hSG, hGr⟩⟩
          case measure => simp [natOf]; omega
    · have hil : i = OL.length := by omega
      subst hil
      have hd : decide ((OL.length : Int) < (OL.length : Int)) = false := by simp
      rw [List.take_length] at hJr
      gi_wp2
      go_end0
      exact ⟨⟨_, rfl⟩, .inl ⟨_, rfl, hJr⟩⟩
end Go.Proofs.Ytgjaafcagnkfdaa
