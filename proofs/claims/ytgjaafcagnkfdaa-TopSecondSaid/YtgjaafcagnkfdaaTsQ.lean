/-
  refmeshtop.memory.
-/
import Derived.Test.YtgjaafcagnkfdaaTsP
namespace Go.Proofs.Ytgjaafcagnkfdaa
open Go.RowKit Go.Maps
set_option linter.unusedSimpArgs false
set_option linter.unusedVariables false

structure MmS where
  wo : List Int
  wy : List Int
  l : List Int
  ca : List Int
  rt : List Int
structure OpC where
  kd : Int
  A : Int
  B : Int
  nf : Int
def OpCk (o : OpC) : Prop := (0 ≤ o.kd ∧ o.kd ≤ 255) ∧ (0 ≤ o.A ∧ o.A ≤ 255) ∧ (0 ≤ o.B ∧ o.B ≤ 255) ∧ 0 ≤ o.nf ∧ o.nf ≤ 255
def OpsC (w : World) (a : Option Addr) (l : List OpC) : Prop := l = [] ∨ ∃ b off : Nat, a = some ⟨b, off, none⟩ ∧ b < w.heap.size ∧ ∀ (i : Nat) (o : OpC), l[i]? = some o → w.cell? ⟨b, off + i * 4, none⟩ = some (.int .u8 o.kd) ∧ w.cell? ⟨b, off + i * 4 + 1, none⟩ = some (.int .u8 o.A) ∧ w.cell? ⟨b, off + i * 4 + 2, none⟩ = some (.int .u8 o.B) ∧ w.cell? ⟨b, off + i * 4 + 3, none⟩ = some (.int .u8 o.nf) ∧ OpCk o
def mAl (s : MmS) (y : Bool) (f : Int) : MmS :=
  match y with
  | false => ⟨alW 0 2000 s.wo 0 1 f 1 (1 + s.l.length), s.wy, if alE 0 2000 s.wo 0 1 f 1 (1 + s.l.length) = 0 then s.l ++ [alA 0 2000 s.wo 0 1 f 1 (1 + s.l.length)] else s.l, s.ca, s.rt⟩
  | true => ⟨s.wo, alW 16777216 16779216 s.wy 0 1 f 1 (1 + s.l.length), if alE 16777216 16779216 s.wy 0 1 f 1 (1 + s.l.length) = 0 then s.l ++ [alA 16777216 16779216 s.wy 0 1 f 1 (1 + s.l.length)] else s.l, s.ca, s.rt⟩
def mSt (s : MmS) (a i u : Int) : MmS := ⟨sfO s.wo s.wy a i u, sfY s.wo s.wy a i u, s.l, bsK s.wo s.wy s.ca a i u, s.rt⟩
def mRt (s : MmS) (u : Int) : MmS := ⟨s.wo, s.wy, s.l, s.ca, s.rt ++ [u]⟩
def mPk (l : List Int) (A : Int) : Int := l.getD (A.toNat % l.length) 0
def mst (s : MmS) (o : OpC) : MmS :=
  if o.kd ≤ 1 then mAl s (o.kd == 1) (o.nf % 5)
  else if s.l.length = 0 then s
  else if o.kd = 2 then mSt s (mPk s.l o.A) (o.nf % 5) (mPk s.l o.B * 4 + 2)
  else if o.kd = 3 then mSt s (mPk s.l o.A) (o.nf % 5) (4 * o.B + 1)
  else if o.kd = 4 then mRt s (mPk s.l o.B * 4 + 2)
  else s
def mrun (l : List OpC) : MmS := l.foldl mst ⟨[], [], [], [], []⟩
theorem mrun_snoc (l : List OpC) (o : OpC) : mrun (l ++ [o]) = mst (mrun l) o := by unfold mrun; rw [List.foldl_append]; rfl
structure MmAt (W : World) (w0 N b2 b5 tb mb bO bY : Nat) (s : MmS) (gO gY : Option Nat) (p q : Value) : Prop where
  mem : MemAt W bO bY 2000 16779216 s.wo s.wy gO gY
  tab : TabAt W tb mb s.ca
  rp : W.ownsRow N 3 1 p s.l.length (s.l.map (Value.int .i64))
  rq : W.ownsRow N 49 1 q s.rt.length (s.rt.map (Value.int .u64))
  pn : ∀ G, p.ownBlock = some G → ¬ MS bO bY gO gY G ∧ q.ownBlock ≠ some G
  qn : ∀ G, q.ownBlock = some G → ¬ MS bO bY gO gY G
  ts : ¬ MS bO bY gO gY tb ∧ ¬ MS bO bY gO gY mb ∧ ¬ MS bO bY gO gY b2 ∧ ¬ MS bO bY gO gY b5
  ge : ∀ k, MS bO bY gO gY k → w0 ≤ k
  ne : w0 ≤ tb ∧ w0 ≤ mb ∧ tb < N ∧ mb < N ∧ b2 < N ∧ b5 < N ∧ b2 ≠ mb ∧ b5 ≠ mb ∧ w0 ≤ b2 ∧ b2 ≠ b5 ∧ N ≤ W.heap.size ∧ w0 ≤ N
  k2 : W.heap[b2]? = some (.cells #[.pointer none, .pointer none] 26 (0, 0))
  k5 : W.heap[b5]? = some (.cells #[.pointer (some ⟨bO, 0, none⟩), .pointer (some ⟨bY, 0, none⟩)] 26 (0, 0))
theorem MmAt.below {W W' : World} {w0 N b2 b5 tb mb bO bY : Nat} {s : MmS} {gO gY : Option Nat} {p q : Value} (h : MmAt W w0 N b2 b5 tb mb bO bY s gO gY p q) (hb : Below W.heap.size W W') : MmAt W' w0 N b2 b5 tb mb bO bY s gO gY p q :=
  ⟨h.mem.below hb, h.tab.below hb, row_below7 h.rp hb, row_below7 h.rq hb, h.pn, h.qn, h.ts, h.ge, by obtain ⟨a1, a2, a3, a4, a5, a6, a7, a8, a9, a10, a11, a12⟩ := h.ne; exact ⟨a1, a2, a3, a4, a5, a6, a7, a8, a9, a10, Nat.le_trans a11 hb.size, a12⟩, bblock hb h.k2, bblock hb h.k5⟩
/-- The memory or the table was written. -/
theorem MmAt.write {W W' : World} {w0 N b2 b5 tb mb bO bY : Nat} {s : MmS} {gO gY gO' gY' : Option Nat} {p q : Value} (h : MmAt W w0 N b2 b5 tb mb bO bY s gO gY p q) {wo' wy' mk' : List Int} (hm : MemAt W' bO bY 2000 16779216 wo' wy' gO' gY') (ht : TabAt W' tb mb mk') (hM : Mods (fun k => MS bO bY gO gY k ∨ k = mb) W W') (hg : ∀ k, MS bO bY gO' gY' k → MS bO bY gO gY k ∨ W.heap.size ≤ k) :
    MmAt W' w0 N b2 b5 tb mb bO bY ⟨wo', wy', s.l, mk', s.rt⟩ gO' gY' p q ∧ Below w0 W W' := by
  obtain ⟨a1, a2, a3, a4, a5, a6, a7, a8, a9, a10, a11, a12⟩ := h.ne
  have hp : ∀ G, p.ownBlock = some G → ¬ (MS bO bY gO gY G ∨ G = mb) := fun G e hk => by
    have := (row_lt h.rp G e).2
    rcases hk with hk | hk
    · exact (h.pn G e).1 hk
    · omega
  have hq : ∀ G, q.ownBlock = some G → ¬ (MS bO bY gO gY G ∨ G = mb) := fun G e hk => by
    have := (row_lt h.rq G e).2
    rcases hk with hk | hk
    · exact h.qn G e hk
    · omega
  have hn : ∀ k, k < N → ¬ MS bO bY gO gY k → ¬ MS bO bY gO' gY' k := fun k hk h1 h2 => by
    rcases hg k h2 with e | e
    · exact h1 e
    · omega
  refine ⟨⟨hm, ht, row_keep7 h.rp (fun G o e ho => mblock hM ho (hp G e)), row_keep7 h.rq (fun G o e ho => mblock hM ho (hq G e)), fun G e => ⟨fun hk => ?_, (h.pn G e).2⟩, fun G e hk => ?_, ⟨hn _ a3 h.ts.1, hn _ a4 h.ts.2.1, hn _ a5 h.ts.2.2.1, hn _ a6 h.ts.2.2.2⟩, fun k hk => ?_, ⟨a1, a2, a3, a4, a5, a6, a7, a8, a9, a10, Nat.le_trans a11 hM.size, a12⟩, mblock hM h.k2 (fun e => e.elim h.ts.2.2.1 a7), mblock hM h.k5 (fun e => e.elim h.ts.2.2.2 a8)⟩, hM.below (by omega) (fun k hk => hk.elim (h.ge k) (fun e => by omega))⟩
  · rcases hg G hk with e' | e'
    · exact (h.pn G e).1 e'
    · have := (row_lt h.rp G e).1; omega
  · rcases hg G hk with e' | e'
    · exact h.qn G e e'
    · have := (row_lt h.rq G e).1; omega
  · rcases hg k hk with e | e
    · exact h.ge k e
    · omega
theorem MmAt.pushl {W W' : World} {w0 N b2 b5 tb mb bO bY : Nat} {s : MmS} {gO gY : Option Nat} {p q p' : Value} {a : Int} {o : Obj} (h : MmAt W w0 N b2 b5 tb mb bO bY s gO gY p q) (hr : W'.ownsRow N 3 1 p' (s.l.length + 1) (s.l.map (Value.int .i64) ++ [.int .i64 a])) (hg : (W.alloc o).grownBy W' p.ownBlock) (hat : p'.ownBlock = p.ownBlock ∨ p'.ownBlock = some (W.alloc o).heap.size) :
    MmAt W' w0 N b2 b5 tb mb bO bY ⟨s.wo, s.wy, s.l ++ [a], s.ca, s.rt⟩ gO gY p' q ∧ Below w0 W W' := by
  obtain ⟨a1, a2, a3, a4, a5, a6, a7, a8, a9, a10, a11, a12⟩ := h.ne
  have hM : Mods (fun k => p.ownBlock = some k) W W' := ((Mods.refl (fun k => p.ownBlock = some k) W).alloc o).trans (⟨hg.os, hg.tape, hg.output, hg.size, fun k hk hn => hg.block k hk (fun e => hn e.symm)⟩ : Mods (fun k => p.ownBlock = some k) (W.alloc o) W') (fun i hi => .inl hi)
  have hpN : ∀ G, p.ownBlock = some G → N ≤ G ∧ G < W.heap.size := fun G e => ⟨(row_lt h.rp G e).2, (row_lt h.rp G e).1⟩
  have hlt : ∀ k, k < N → ¬ p.ownBlock = some k := fun k hk e => by have := hpN k e; omega
  have hp' : ∀ G, p'.ownBlock = some G → ¬ MS bO bY gO gY G ∧ q.ownBlock ≠ some G := fun G e => by
    rcases hat with e' | e'
    · exact h.pn G (e' ▸ e)
    · rw [e'] at e
      cases e
      refine ⟨h.mem.fresh _ (by simp), fun hq => ?_⟩
      have := (row_lt h.rq _ hq).1
      simp at this
      omega
  refine ⟨⟨h.mem.mods hM (fun k hk e => (h.pn k e).1 hk), h.tab.mods hM (hlt _ a3) (hlt _ a4), by simpa using hr, row_keep7 h.rq (fun G o e ho => mblock hM ho (fun e' => (h.pn G e').2 e)), hp', h.qn, h.ts, h.ge, ⟨a1, a2, a3, a4, a5, a6, a7, a8, a9, a10, Nat.le_trans a11 hM.size, a12⟩, mblock hM h.k2 (hlt _ a5), mblock hM h.k5 (hlt _ a6)⟩, hM.below (by omega) (fun k hk => by have := hpN k hk; omega)⟩
theorem MmAt.pushr {W W' : World} {w0 N b2 b5 tb mb bO bY : Nat} {s : MmS} {gO gY : Option Nat} {p q q' : Value} {a : Int} {o : Obj} (h : MmAt W w0 N b2 b5 tb mb bO bY s gO gY p q) (hr : W'.ownsRow N 49 1 q' (s.rt.length + 1) (s.rt.map (Value.int .u64) ++ [.int .u64 a])) (hg : (W.alloc o).grownBy W' q.ownBlock) (hat : q'.ownBlock = q.ownBlock ∨ q'.ownBlock = some (W.alloc o).heap.size) :
    MmAt W' w0 N b2 b5 tb mb bO bY ⟨s.wo, s.wy, s.l, s.ca, s.rt ++ [a]⟩ gO gY p q' ∧ Below w0 W W' := by
  obtain ⟨a1, a2, a3, a4, a5, a6, a7, a8, a9, a10, a11, a12⟩ := h.ne
  have hM : Mods (fun k => q.ownBlock = some k) W W' := ((Mods.refl (fun k => q.ownBlock = some k) W).alloc o).trans (⟨hg.os, hg.tape, hg.output, hg.size, fun k hk hn => hg.block k hk (fun e => hn e.symm)⟩ : Mods (fun k => q.ownBlock = some k) (W.alloc o) W') (fun i hi => .inl hi)
  have hqN : ∀ G, q.ownBlock = some G → N ≤ G ∧ G < W.heap.size := fun G e => ⟨(row_lt h.rq G e).2, (row_lt h.rq G e).1⟩
  have hlt : ∀ k, k < N → ¬ q.ownBlock = some k := fun k hk e => by have := hqN k e; omega
  have hq' : ∀ G, q'.ownBlock = some G → ¬ MS bO bY gO gY G ∧ p.ownBlock ≠ some G := fun G e => by
    rcases hat with e' | e'
    · exact ⟨h.qn G (e' ▸ e), fun hp => (h.pn G hp).2 (e' ▸ e)⟩
    · rw [e'] at e
      cases e
      refine ⟨h.mem.fresh _ (by simp), fun hp => ?_⟩
      have := (row_lt h.rp _ hp).1
      simp at this
      omega
  refine ⟨⟨h.mem.mods hM (fun k hk e => h.qn k e hk), h.tab.mods hM (hlt _ a3) (hlt _ a4), row_keep7 h.rp (fun G o e ho => mblock hM ho (fun e' => (h.pn G e).2 e')), by simpa using hr, fun G e => ⟨(h.pn G e).1, fun e' => (hq' G e').2 e⟩, fun G e => (hq' G e).1, h.ts, h.ge, ⟨a1, a2, a3, a4, a5, a6, a7, a8, a9, a10, Nat.le_trans a11 hM.size, a12⟩, mblock hM h.k2 (hlt _ a5), mblock hM h.k5 (hlt _ a6)⟩, hM.below (by omega) (fun k hk => by have := hqN k hk; omega)⟩
end Go.Proofs.Ytgjaafcagnkfdaa
