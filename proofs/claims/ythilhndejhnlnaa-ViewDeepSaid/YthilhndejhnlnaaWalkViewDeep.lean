/- ViewDeep: structs in one another, as deep as may be; one deeper doesn't fit: the walk. -/
import Derived.Test.YthilhndejhnlnaaV7
namespace Go.Proofs.Ythilhndejhnlnaa.Hand
open Go.RowKit Go.Proofs.Ythilhndejhnlnaa.QAll Go.Proofs.YthilhndejhnlnaaW.PrintWords Go.Proofs.YthilhndejhnlnaaW.PrintLast Go.Proofs.YthilhndejhnlnaaW.PrintMore Go.Proofs.Ythilhndejhnlnaa.Runes
set_option linter.unusedVariables false
set_option linter.unusedSimpArgs false

def chain (l : Bool) : Nat → S39
  | 0 => ⟨0, [], [z39], true⟩
  | k + 1 => if l = true then ⟨0, [], [⟨0, [], [chain l k], false⟩], true⟩ else ⟨0, [], [chain l k], true⟩
def rD (L : Int) : S31 := ⟨⟨#[83]⟩, [⟨⟨#[120]⟩, ⟨13, 0, L⟩, 0⟩]⟩
theorem chain_fits : ∀ (q : Fin 14), fitsTop [rD 0] [] 0 0 (chain false q.val) = decide ((1 : Int) + (q.val : Int) ≤ 12) ∧ fitsTop [rD 1] [] 0 0 (chain true q.val) = decide ((1 : Int) + (q.val : Int) ≤ 6) := by decide +kernel
theorem good_rD (L : Int) (hL : L ≤ 1) : Good [rD L] := good_one (rD L) (by
  intro f hf
  simp only [rD, List.mem_cons, List.not_mem_nil, or_false] at hf
  subst hf
  exact ⟨fun _ => ⟨Int.le_refl _, Int.one_pos⟩, by show L ≤ _; omega⟩)

theorem heap_six (w : World) (o0 o1 o2 o3 o4 o5 : Obj) {b0 b1 b2 b3 b4 b5 : Nat} (h : w.heap.size = b0) (h1 : b0 + 1 = b1) (h2 : b1 + 1 = b2) (h3 : b2 + 1 = b3) (h4 : b3 + 1 = b4) (h5 : b4 + 1 = b5) {W : World} (hW : (((((w.alloc o0).alloc o1).alloc o2).alloc o3).alloc o4).alloc o5 = W) :
    W.heap[b0]? = some o0 ∧ W.heap[b1]? = some o1 ∧ W.heap[b2]? = some o2 ∧ W.heap[b3]? = some o3 ∧ W.heap[b4]? = some o4 ∧ W.heap[b5]? = some o5 ∧ Below w.heap.size w W ∧ W.heap.size = b5 + 1 := by
  obtain ⟨x0, x1, x2, x3, hb⟩ := heap_four w o0 o1 o2 o3 h h1 h2 h3 rfl
  have e4 : ((((w.alloc o0).alloc o1).alloc o2).alloc o3).heap.size = b4 := by simp; omega
  subst hW
  have c4 := below_alloc (Below.refl ((((w.alloc o0).alloc o1).alloc o2).alloc o3).heap.size ((((w.alloc o0).alloc o1).alloc o2).alloc o3)) o4
  have a4 := heap_alloc_new ((((w.alloc o0).alloc o1).alloc o2).alloc o3) o4
  have e5 : (((((w.alloc o0).alloc o1).alloc o2).alloc o3).alloc o4).heap.size = b5 := by simp; omega
  have c5 := below_alloc (Below.refl (((((w.alloc o0).alloc o1).alloc o2).alloc o3).alloc o4).heap.size (((((w.alloc o0).alloc o1).alloc o2).alloc o3).alloc o4)) o5
  have a5 := heap_alloc_new (((((w.alloc o0).alloc o1).alloc o2).alloc o3).alloc o4) o5
  rw [e4] at a4
  rw [e5] at a5
  have up : ∀ {k : Nat} {o : Obj}, ((((w.alloc o0).alloc o1).alloc o2).alloc o3).heap[k]? = some o → ((((((w.alloc o0).alloc o1).alloc o2).alloc o3).alloc o4).alloc o5).heap[k]? = some o := fun {k o} hk =>
    (c5.block _ (by have := blk_lt hk; omega)).trans ((c4.block _ (blk_lt hk)).trans hk)
  exact ⟨up x0, up x1, up x2, up x3, (c5.block _ (by omega)).trans a4, a5, below_alloc (below_alloc hb _) _, by simp; omega⟩

/-- All blocks but one stay. -/
structure Keeps (g : Nat) (w W : World) : Prop where
  size : w.heap.size ≤ W.heap.size
  block : ∀ k, k < w.heap.size → k ≠ g → W.heap[k]? = w.heap[k]?
theorem Keeps.refl (g : Nat) (w : World) : Keeps g w w := ⟨Nat.le_refl _, fun _ _ _ => rfl⟩
theorem Keeps.trans {g : Nat} {w W X : World} (h : Keeps g w W) (k : Keeps g W X) : Keeps g w X := ⟨Nat.le_trans h.size k.size, fun j hj hg => (k.block j (Nat.lt_of_lt_of_le hj h.size) hg).trans (h.block j hj hg)⟩
theorem Keeps.set (g i : Nat) (w : World) (u : Value) : Keeps g w (w.setCell ⟨g, i, none⟩ u) := ⟨by simp, fun k _ hk => Below.heap_setCell w ⟨g, i, none⟩ u k hk⟩
theorem Keeps.of_below (g : Nat) {w W : World} (h : Below w.heap.size w W) : Keeps g w W := ⟨h.size, fun k hk _ => h.block k hk⟩
theorem Keeps.get {g k : Nat} {w W : World} {o : Obj} (h : Keeps g w W) (hk : w.heap[k]? = some o) (hg : k ≠ g) : W.heap[k]? = some o := (h.block k (blk_lt hk) hg).trans hk

/-- A value that stays, whatever the variable holds. -/
def StaysV (g : Nat) (w : World) (v : S39) (u : Value) : Prop := ∀ W, Keeps g w W → IsV W v u
theorem StaysV.mono {g : Nat} {w W : World} {v : S39} {u : Value} (h : StaysV g w v u) (k : Keeps g w W) : StaysV g W v u := fun X hX => h X (k.trans hX)
theorem stays_kid {g b : Nat} {w : World} {x : S39} {A1 A2 : Option Addr} {c1 c2 : Nat} (hb : w.heap[b]? = some (.cells #[.int .u64 x.f0, .slice A1 x.f1.length c1, .slice A2 x.f2.length c2, .bool x.f3] 39 (0, 0))) (hg : b ≠ g)
    (hx : StaysV g w x (.agg #[.int .u64 x.f0, .slice A1 x.f1.length c1, .slice A2 x.f2.length c2, .bool x.f3])) (h : Bool) : StaysV g w ⟨0, [], [x], h⟩ (.agg #[.int .u64 0, .slice none 0 0, .slice (some ⟨b, 0, none⟩) 1 1, .bool h]) := by
  intro W hW
  obtain ⟨B1, d1, B2, d2, e, k1, l1, k2, l2⟩ := hx W hW
  have e' : ([Value.int .u64 x.f0, .slice A1 x.f1.length c1, .slice A2 x.f2.length c2, .bool x.f3] : List Value) = [.int .u64 x.f0, .slice B1 x.f1.length d1, .slice B2 x.f2.length d2, .bool x.f3] := by
    injection e with e; exact congrArg Array.toList e
  exact ⟨none, 0, some ⟨b, 0, none⟩, 1, rfl, Kd.C_nil _ _, Nat.le_refl _, C_one (hW.get hb hg) rfl (by
    show k39.K W x [Value.int .u64 x.f0, .slice A1 x.f1.length c1, .slice A2 x.f2.length c2, .bool x.f3]
    rw [e']; exact k39_mk W x l1 k1 l2 k2), Nat.le_refl _⟩

def DeepRound (w w2 : World) (l : Bool) (q b5 : Nat) (v30 : Value) (wr : World) : Prop :=
  ∃ (k : Nat) (A : Option Addr), v30 = .int .i64 k ∧ k ≤ q ∧ wr.heap[b5]? = some (.cells #[.int .u64 0, .slice none 0 0, .slice A 1 1, .bool true] 39 (0, 0)) ∧ Keeps b5 w2 wr ∧
    StaysV b5 wr (chain l k) (.agg #[.int .u64 0, .slice none 0 0, .slice A 1 1, .bool true]) ∧ Below w.heap.size w wr
theorem chain_shape (l : Bool) (k : Nat) : (chain l k).f0 = 0 ∧ (chain l k).f1 = [] ∧ (chain l k).f2.length = 1 ∧ (chain l k).f3 = true := by
  cases k with
  | zero => exact ⟨rfl, rfl, rfl, rfl⟩
  | succ k => unfold chain; split <;> exact ⟨rfl, rfl, rfl, rfl⟩
theorem chain_next {g b : Nat} {w : World} {l : Bool} {k : Nat} {A : Option Addr} (hb : w.heap[b]? = some (.cells #[.int .u64 0, .slice none 0 0, .slice A 1 1, .bool true] 39 (0, 0))) (hg : b ≠ g)
    (hx : StaysV g w (chain l k) (.agg #[.int .u64 0, .slice none 0 0, .slice A 1 1, .bool true])) (h : Bool) : StaysV g w ⟨0, [], [chain l k], h⟩ (.agg #[.int .u64 0, .slice none 0 0, .slice (some ⟨b, 0, none⟩) 1 1, .bool h]) := by
  obtain ⟨e0, e1, e2, e3⟩ := chain_shape l k
  have := stays_kid (g := g) (b := b) (w := w) (x := chain l k) (A1 := none) (A2 := A) (c1 := 0) (c2 := 1) (by rw [e0, e1, e2, e3]; exact hb) hg (by rw [e0, e1, e2, e3]; exact hx) h
  exact this
theorem list_next {g b c : Nat} {w : World} {x : S39} (hb : w.heap[b]? = some (.cells #[.int .u64 0, .slice none 0 0, .slice (some ⟨c, 0, none⟩) 1 1, .bool false] 39 (0, 0))) (hg : b ≠ g)
    (hx : StaysV g w ⟨0, [], [x], false⟩ (.agg #[.int .u64 0, .slice none 0 0, .slice (some ⟨c, 0, none⟩) 1 1, .bool false])) (h : Bool) : StaysV g w ⟨0, [], [⟨0, [], [x], false⟩], h⟩ (.agg #[.int .u64 0, .slice none 0 0, .slice (some ⟨b, 0, none⟩) 1 1, .bool h]) :=
  stays_kid (g := g) (b := b) (w := w) (x := ⟨0, [], [x], false⟩) (A1 := none) (A2 := some ⟨c, 0, none⟩) (c1 := 0) (c2 := 1) hb hg hx h
theorem set4 {wr : World} {g : Nat} {a b c d : Value} (hb : wr.heap[g]? = some (.cells #[a, b, c, d] 39 (0, 0))) (a' b' c' d' : Value) :
    ((((wr.setCell ⟨g, 0, none⟩ a').setCell ⟨g, 1, none⟩ b').setCell ⟨g, 2, none⟩ c').setCell ⟨g, 3, none⟩ d').heap[g]? = some (.cells #[a', b', c', d'] 39 (0, 0)) ∧ Keeps g wr ((((wr.setCell ⟨g, 0, none⟩ a').setCell ⟨g, 1, none⟩ b').setCell ⟨g, 2, none⟩ c').setCell ⟨g, 3, none⟩ d') ∧
      ((((wr.setCell ⟨g, 0, none⟩ a').setCell ⟨g, 1, none⟩ b').setCell ⟨g, 2, none⟩ c').setCell ⟨g, 3, none⟩ d').heap.size = wr.heap.size ∧
      ∀ {B : Nat} {w : World}, Below B w wr → B ≤ g → Below B w ((((wr.setCell ⟨g, 0, none⟩ a').setCell ⟨g, 1, none⟩ b').setCell ⟨g, 2, none⟩ c').setCell ⟨g, 3, none⟩ d') :=
  ⟨blk_set (blk_set (blk_set (blk_set hb 0 a') 1 b') 2 c') 3 d', (((Keeps.set g 0 wr a').trans (Keeps.set g 1 _ b')).trans (Keeps.set g 2 _ c')).trans (Keeps.set g 3 _ d'), by simp,
    fun h hB => Below.setCell (Below.setCell (Below.setCell (Below.setCell h (p := ⟨g, 0, none⟩) hB a') (p := ⟨g, 1, none⟩) hB b') (p := ⟨g, 2, none⟩) hB c') (p := ⟨g, 3, none⟩) hB d'⟩

set_option maxHeartbeats 6400000 in
set_option maxRecDepth 100000 in
theorem deep_false (n : Nat) (hn : n < 256) (w : World) : Calls Try.prog 3 #[.int .u8 n, .bool false] w fun e w' => e = .returned (.bool true) ∧ Below w.heap.size w w' := by
  obtain ⟨q, hq⟩ : ∃ q, n % 14 = q := ⟨_, rfl⟩
  have hqi : (n : Int) % 14 = (q : Int) := by omega
  have HQ : Aside0 (q < 14) := ⟨by omega⟩
  have HQI := Aside0.mk hqi
  have HN := Aside0.mk hn
  have HFIT : Aside0 (fitsTop [rD 0] [] 0 0 (chain false q) = decide ((1 : Int) + (q : Int) ≤ 12)) := ⟨(chain_fits ⟨q, HQ.out⟩).1⟩
  clear hq hqi hn
  go_enter Try.func3, Try.ntmps3
  go_upto_region 11 with (go_at_call 6; (with_reducible refine (awake07 _).mono ?_); rintro e w1 ⟨rfl, hb⟩; have HB1 := Aside0.mk hb; clear hb)
  rw [HQI.out]
  obtain ⟨b0, h0⟩ : ∃ b0, w1.heap.size = b0 := ⟨_, rfl⟩
  obtain ⟨b1, h1⟩ : ∃ b1, b0 + 1 = b1 := ⟨_, rfl⟩
  obtain ⟨b2, h2⟩ : ∃ b2, b1 + 1 = b2 := ⟨_, rfl⟩
  obtain ⟨b3, h3⟩ : ∃ b3, b2 + 1 = b3 := ⟨_, rfl⟩
  obtain ⟨b4, h4⟩ : ∃ b4, b3 + 1 = b4 := ⟨_, rfl⟩
  obtain ⟨b5, h5⟩ : ∃ b5, b4 + 1 = b5 := ⟨_, rfl⟩
  rw [h0, h1, h2, h3, h4, h5]
  have HL5 : Aside0 (w.heap.size ≤ b0 ∧ b0 < b1 ∧ b1 < b2 ∧ b2 < b3 ∧ b3 < b4 ∧ b4 < b5) := ⟨by have := HB1.out.size; omega⟩
  obtain ⟨w2, hw2⟩ : ∃ w2, (((((w1.alloc (.cells #[.int .u8 13, .int .i64 0, .int .i64 0] 25)).alloc (.cells #[.string ⟨#[120]⟩, .int .u8 13, .int .i64 0, .int .i64 0, .int .u64 0] 28)).alloc (.cells #[.string ⟨#[83]⟩, .slice (some ⟨b1, 0, none⟩) 1 1] 31)).alloc (.cells #[.slice (some ⟨b2, 0, none⟩) 1 1, .slice none 0 0, .int .i64 0] 35)).alloc (.cells #[.int .u64 0, .slice none 0 0, .slice none 0 0, .bool false] 39)).alloc (.cells #[.int .u64 0, .slice none 0 0, .slice (some ⟨b4, 0, none⟩) 1 1, .bool true] 39) = w2 := ⟨_, rfl⟩
  rw [hw2]
  obtain ⟨x0, x1, x2, x3, x4, x5, hB, hsz⟩ := heap_six w1 _ _ _ _ _ _ h0 h1 h2 h3 h4 h5 hw2
  have HB2 := Aside0.mk (below_then HB1.out HB1.out.size hB)
  have HS : Aside0 (∀ W, Keeps b5 w2 W → IsS W [rD 0] [] 0 (.agg #[.slice (some ⟨b2, 0, none⟩) 1 1, .slice none 0 0, .int .i64 0])) := ⟨fun W hW =>
    isS_one (r := rD 0) (cf := 1) (hW.get x2 (by have := HL5.out; omega)) (C_one (hW.get x1 (by have := HL5.out; omega)) rfl (k28_mk W ⟨⟨#[120]⟩, ⟨13, 0, 0⟩, 0⟩)) (Nat.le_refl _)⟩
  have HS3 := Aside0.mk x3
  have HST : Aside0 (DeepRound w w2 false q b5 (.int .i64 0) w2) := ⟨⟨0, some ⟨b4, 0, none⟩, rfl, Nat.zero_le _, x5, Keeps.refl _ _,
    stays_kid (x := z39) (A1 := none) (A2 := none) (c1 := 0) (c2 := 0) x4 (by have := HL5.out; omega) (fun W _ => isV_zero W) true, HB2.out⟩⟩
  clear x0 x1 x2 x3 x4 x5 hB hsz h0 h1 h2 h3 h4 h5 hw2
  have w11 : IntKind.i64.wrap (1 + (q : Int) - 1) = (q : Int) := by rw [IntKind.wrap_i64]; have := HQ.out; omega
  go_wp2_with (fail)
  go_loopw [30] (fun v30 wr => DeepRound w w2 false q b5 v30 wr) (fun v30 _ => q - (intOf v30).toNat)
  case atStart => exact HST.out
  case round =>
    obtain ⟨k, A, rfl, hk, hb5, hkeep, hst, hB⟩ := hrel
    have HK := Aside0.mk hk
    have HV5 := Aside0.mk hb5
    have HKEEP := Aside0.mk hkeep
    have HSTV := Aside0.mk hst
    have HB := Aside0.mk hB
    have v0 : wr.cell? ⟨b5, 0, none⟩ = some (.int .u64 0) := (blk_cell hb5 0).trans rfl
    have v1 : wr.cell? ⟨b5, 1, none⟩ = some (.slice none 0 0) := (blk_cell hb5 1).trans rfl
    have v2 : wr.cell? ⟨b5, 2, none⟩ = some (.slice A 1 1) := (blk_cell hb5 2).trans rfl
    have v3 : wr.cell? ⟨b5, 3, none⟩ = some (.bool true) := (blk_cell hb5 3).trans rfl
    have lt5 := blk_lt hb5
    clear hk hb5 hkeep hst hB
    by_cases hlt : k < q
    · have d0 : decide (k < q) = true := decide_eq_true hlt
      have d0' : decide ((k : Int) < (q : Int)) = true := decide_eq_true (by omega)
      have f5 : ∀ i, wr.frozen? ⟨b5, i, none⟩ = false := fun i => blk_frozen HV5.out i
      have f50 := f5 0
      have f51 := f5 1
      have f52 := f5 2
      have f53 := f5 3
      have wk : IntKind.i64.wrap ((k : Int) + 1) = (k : Int) + 1 := by rw [IntKind.wrap_i64]; have := HQ.out; omega
      clear f5
      go_upto_region 16 with (fail)
      obtain ⟨gb, hgb⟩ : ∃ gb, wr.heap.size = gb := ⟨_, rfl⟩
      obtain ⟨x5, hkp, hsz0, hbl⟩ := set4 HV5.out (.int .u64 0) (.slice none 0 0) (.slice (some ⟨gb, 0, none⟩) 1 1) (.bool true)
      obtain ⟨w0, hw0⟩ : ∃ w0, (((wr.setCell ⟨b5, 0, none⟩ (.int .u64 0)).setCell ⟨b5, 1, none⟩ (.slice none 0 0)).setCell ⟨b5, 2, none⟩ (.slice (some ⟨gb, 0, none⟩) 1 1)).setCell ⟨b5, 3, none⟩ (.bool true) = w0 := ⟨_, rfl⟩
      rw [hw0] at x5 hkp hsz0 hbl
      obtain ⟨w3, hw3⟩ : ∃ w3, w0.alloc (.cells #[.int .u64 0, .slice none 0 0, .slice A 1 1, .bool true] 39) = w3 := ⟨_, rfl⟩
      have h03 : Below w0.heap.size w0 w3 := by rw [← hw3]; exact below_alloc (Below.refl _ _) _
      have hblk : w3.heap[gb]? = some (.cells #[.int .u64 0, .slice none 0 0, .slice A 1 1, .bool true] 39 (0, 0)) := by rw [← hw3, ← hgb, ← hsz0]; exact heap_alloc_new w0 _
      have hk3 : Keeps b5 wr w3 := hkp.trans (Keeps.of_below b5 h03)
      have HREL : Aside0 (DeepRound w w2 false q b5 (.int .i64 ((k : Int) + 1)) w3) := ⟨⟨k + 1, some ⟨gb, 0, none⟩, by go_num, by omega, (h03.block _ (blk_lt x5)).trans x5, HKEEP.out.trans hk3,
        chain_next hblk (by omega) (HSTV.out.mono hk3) true, below_then (hbl HB.out (by have := HL5.out; omega)) (by rw [hsz0]; exact HB.out.size) h03⟩⟩
      rw [hgb, hw0]
      clear x5 hkp hsz0 hbl hw0 h03 hblk hk3
      rw [hw3]
      clear hw3 hgb v0 v1 v2 v3 f50 f51 f52 f53
      go_wp2_with (fail)
      go_roundw
      case rel => exact HREL.out
      case measure => simp [intOf]; omega
    · obtain rfl : k = q := by have := HK.out; omega
      have d0 : decide (k < k) = false := decide_eq_false (by omega)
      have d0' : decide ((k : Int) < (k : Int)) = false := decide_eq_false (by omega)
      have y3 := HKEEP.out.get HS3.out (by have := HL5.out; omega)
      have s0 : wr.cell? ⟨b3, 0, none⟩ = some (.slice (some ⟨b2, 0, none⟩) 1 1) := (blk_cell y3 0).trans rfl
      have s1 : wr.cell? ⟨b3, 1, none⟩ = some (.slice none 0 0) := (blk_cell y3 1).trans rfl
      have s2 : wr.cell? ⟨b3, 2, none⟩ = some (.int .i64 0) := (blk_cell y3 2).trans rfl
      have HC := fitstop_any (good_rD 0 (by decide)) 0 (chain false k) _ _ wr (HS.out wr HKEEP.out) (HSTV.out wr (Keeps.refl _ _))
      rw [HFIT.out] at HC
      have HCC := Aside0.mk HC
      have two : decide (1 + (k : Int) ≤ 12) = true ∨ decide (1 + (k : Int) ≤ 12) = false := by cases decide (1 + (k : Int) ≤ 12) <;> simp
      clear HC y3 HFIT hlt
      rcases two with z | z
      all_goals
        rw [z] at HCC
        go_wp2_with (go_at_call 7; (with_reducible refine HCC.out.mono ?_); rintro e w4 ⟨rfl, hb⟩; have HB4 := Aside0.mk (below_then HB.out HB.out.size hb); clear hb)
        go_ret
        exact ⟨by simp, HB4.out⟩
set_option maxHeartbeats 6400000 in
set_option maxRecDepth 100000 in
theorem deep_true (n : Nat) (hn : n < 256) (w : World) : Calls Try.prog 3 #[.int .u8 n, .bool true] w fun e w' => e = .returned (.bool true) ∧ Below w.heap.size w w' := by
  obtain ⟨q, hq⟩ : ∃ q, n % 14 = q := ⟨_, rfl⟩
  have hqi : (n : Int) % 14 = (q : Int) := by omega
  have HQ : Aside0 (q < 14) := ⟨by omega⟩
  have HQI := Aside0.mk hqi
  have HN := Aside0.mk hn
  have HFIT : Aside0 (fitsTop [rD 1] [] 0 0 (chain true q) = decide ((1 : Int) + (q : Int) ≤ 6)) := ⟨(chain_fits ⟨q, HQ.out⟩).2⟩
  clear hq hqi hn
  go_enter Try.func3, Try.ntmps3
  go_upto_region 11 with (go_at_call 6; (with_reducible refine (awake07 _).mono ?_); rintro e w1 ⟨rfl, hb⟩; have HB1 := Aside0.mk hb; clear hb)
  rw [HQI.out]
  obtain ⟨b0, h0⟩ : ∃ b0, w1.heap.size = b0 := ⟨_, rfl⟩
  obtain ⟨b1, h1⟩ : ∃ b1, b0 + 1 = b1 := ⟨_, rfl⟩
  obtain ⟨b2, h2⟩ : ∃ b2, b1 + 1 = b2 := ⟨_, rfl⟩
  obtain ⟨b3, h3⟩ : ∃ b3, b2 + 1 = b3 := ⟨_, rfl⟩
  obtain ⟨b4, h4⟩ : ∃ b4, b3 + 1 = b4 := ⟨_, rfl⟩
  obtain ⟨b5, h5⟩ : ∃ b5, b4 + 1 = b5 := ⟨_, rfl⟩
  rw [h0, h1, h2, h3, h4, h5]
  have HL5 : Aside0 (w.heap.size ≤ b0 ∧ b0 < b1 ∧ b1 < b2 ∧ b2 < b3 ∧ b3 < b4 ∧ b4 < b5) := ⟨by have := HB1.out.size; omega⟩
  obtain ⟨w2, hw2⟩ : ∃ w2, (((((w1.alloc (.cells #[.int .u8 13, .int .i64 0, .int .i64 1] 25)).alloc (.cells #[.string ⟨#[120]⟩, .int .u8 13, .int .i64 0, .int .i64 1, .int .u64 0] 28)).alloc (.cells #[.string ⟨#[83]⟩, .slice (some ⟨b1, 0, none⟩) 1 1] 31)).alloc (.cells #[.slice (some ⟨b2, 0, none⟩) 1 1, .slice none 0 0, .int .i64 0] 35)).alloc (.cells #[.int .u64 0, .slice none 0 0, .slice none 0 0, .bool false] 39)).alloc (.cells #[.int .u64 0, .slice none 0 0, .slice (some ⟨b4, 0, none⟩) 1 1, .bool true] 39) = w2 := ⟨_, rfl⟩
  rw [hw2]
  obtain ⟨x0, x1, x2, x3, x4, x5, hB, hsz⟩ := heap_six w1 _ _ _ _ _ _ h0 h1 h2 h3 h4 h5 hw2
  have HB2 := Aside0.mk (below_then HB1.out HB1.out.size hB)
  have HS : Aside0 (∀ W, Keeps b5 w2 W → IsS W [rD 1] [] 0 (.agg #[.slice (some ⟨b2, 0, none⟩) 1 1, .slice none 0 0, .int .i64 0])) := ⟨fun W hW =>
    isS_one (r := rD 1) (cf := 1) (hW.get x2 (by have := HL5.out; omega)) (C_one (hW.get x1 (by have := HL5.out; omega)) rfl (k28_mk W ⟨⟨#[120]⟩, ⟨13, 0, 1⟩, 0⟩)) (Nat.le_refl _)⟩
  have HS3 := Aside0.mk x3
  have HST : Aside0 (DeepRound w w2 true q b5 (.int .i64 0) w2) := ⟨⟨0, some ⟨b4, 0, none⟩, rfl, Nat.zero_le _, x5, Keeps.refl _ _,
    stays_kid (x := z39) (A1 := none) (A2 := none) (c1 := 0) (c2 := 0) x4 (by have := HL5.out; omega) (fun W _ => isV_zero W) true, HB2.out⟩⟩
  clear x0 x1 x2 x3 x4 x5 hB hsz h0 h1 h2 h3 h4 h5 hw2
  have w11 : IntKind.i64.wrap (1 + (q : Int) - 1) = (q : Int) := by rw [IntKind.wrap_i64]; have := HQ.out; omega
  go_wp2_with (fail)
  go_loopw [30] (fun v30 wr => DeepRound w w2 true q b5 v30 wr) (fun v30 _ => q - (intOf v30).toNat)
  case atStart => exact HST.out
  case round =>
    obtain ⟨k, A, rfl, hk, hb5, hkeep, hst, hB⟩ := hrel
    have HK := Aside0.mk hk
    have HV5 := Aside0.mk hb5
    have HKEEP := Aside0.mk hkeep
    have HSTV := Aside0.mk hst
    have HB := Aside0.mk hB
    have v0 : wr.cell? ⟨b5, 0, none⟩ = some (.int .u64 0) := (blk_cell hb5 0).trans rfl
    have v1 : wr.cell? ⟨b5, 1, none⟩ = some (.slice none 0 0) := (blk_cell hb5 1).trans rfl
    have v2 : wr.cell? ⟨b5, 2, none⟩ = some (.slice A 1 1) := (blk_cell hb5 2).trans rfl
    have v3 : wr.cell? ⟨b5, 3, none⟩ = some (.bool true) := (blk_cell hb5 3).trans rfl
    have lt5 := blk_lt hb5
    clear hk hb5 hkeep hst hB
    by_cases hlt : k < q
    · have d0 : decide (k < q) = true := decide_eq_true hlt
      have d0' : decide ((k : Int) < (q : Int)) = true := decide_eq_true (by omega)
      have f5 : ∀ i, wr.frozen? ⟨b5, i, none⟩ = false := fun i => blk_frozen HV5.out i
      have f50 := f5 0
      have f51 := f5 1
      have f52 := f5 2
      have f53 := f5 3
      have wk : IntKind.i64.wrap ((k : Int) + 1) = (k : Int) + 1 := by rw [IntKind.wrap_i64]; have := HQ.out; omega
      clear f5
      go_upto_region 16 with (fail)
      obtain ⟨gb, hgb⟩ : ∃ gb, wr.heap.size = gb := ⟨_, rfl⟩
      obtain ⟨gc, hgc⟩ : ∃ gc, gb + 1 = gc := ⟨_, rfl⟩
      obtain ⟨x5, hkp, hsz0, hbl⟩ := set4 HV5.out (.int .u64 0) (.slice none 0 0) (.slice (some ⟨gc, 0, none⟩) 1 1) (.bool true)
      obtain ⟨w0, hw0⟩ : ∃ w0, (((wr.setCell ⟨b5, 0, none⟩ (.int .u64 0)).setCell ⟨b5, 1, none⟩ (.slice none 0 0)).setCell ⟨b5, 2, none⟩ (.slice (some ⟨gc, 0, none⟩) 1 1)).setCell ⟨b5, 3, none⟩ (.bool true) = w0 := ⟨_, rfl⟩
      rw [hw0] at x5 hkp hsz0 hbl
      obtain ⟨w9, hw9⟩ : ∃ w9, w0.alloc (.cells #[.int .u64 0, .slice none 0 0, .slice A 1 1, .bool true] 39) = w9 := ⟨_, rfl⟩
      have h09 : Below w0.heap.size w0 w9 := by rw [← hw9]; exact below_alloc (Below.refl _ _) _
      have hblk9 : w9.heap[gb]? = some (.cells #[.int .u64 0, .slice none 0 0, .slice A 1 1, .bool true] 39 (0, 0)) := by rw [← hw9, ← hgb, ← hsz0]; exact heap_alloc_new w0 _
      have hs9 : w9.heap.size = gc := by rw [← hw9]; simp; omega
      obtain ⟨w3, hw3⟩ : ∃ w3, w9.alloc (.cells #[.int .u64 0, .slice none 0 0, .slice (some ⟨gb, 0, none⟩) 1 1, .bool false] 39) = w3 := ⟨_, rfl⟩
      have h93 : Below w9.heap.size w9 w3 := by rw [← hw3]; exact below_alloc (Below.refl _ _) _
      have h03 := below_then h09 h09.size h93
      have hblk : w3.heap[gb]? = some (.cells #[.int .u64 0, .slice none 0 0, .slice A 1 1, .bool true] 39 (0, 0)) := (h93.block _ (blk_lt hblk9)).trans hblk9
      have hblk2 : w3.heap[gc]? = some (.cells #[.int .u64 0, .slice none 0 0, .slice (some ⟨gb, 0, none⟩) 1 1, .bool false] 39 (0, 0)) := by rw [← hw3, ← hs9]; exact heap_alloc_new w9 _
      have hk3 : Keeps b5 wr w3 := hkp.trans (Keeps.of_below b5 h03)
      have HREL : Aside0 (DeepRound w w2 true q b5 (.int .i64 ((k : Int) + 1)) w3) := ⟨⟨k + 1, some ⟨gc, 0, none⟩, by go_num, by omega, (h03.block _ (blk_lt x5)).trans x5, HKEEP.out.trans hk3,
        list_next hblk2 (by omega) (chain_next hblk (by omega) (HSTV.out.mono hk3) false) true, below_then (hbl HB.out (by have := HL5.out; omega)) (by rw [hsz0]; exact HB.out.size) h03⟩⟩
      rw [hgb, hgc, hw0, hw9]
      clear x5 hkp hsz0 hbl hw0 h03 hblk hk3 h09 hblk9 hs9 h93 hblk2 hw9 hgc
      rw [hw3]
      clear hw3 hgb v0 v1 v2 v3 f50 f51 f52 f53
      go_wp2_with (fail)
      go_roundw
      case rel => exact HREL.out
      case measure => simp [intOf]; omega
    · obtain rfl : k = q := by have := HK.out; omega
      have d0 : decide (k < k) = false := decide_eq_false (by omega)
      have d0' : decide ((k : Int) < (k : Int)) = false := decide_eq_false (by omega)
      have y3 := HKEEP.out.get HS3.out (by have := HL5.out; omega)
      have s0 : wr.cell? ⟨b3, 0, none⟩ = some (.slice (some ⟨b2, 0, none⟩) 1 1) := (blk_cell y3 0).trans rfl
      have s1 : wr.cell? ⟨b3, 1, none⟩ = some (.slice none 0 0) := (blk_cell y3 1).trans rfl
      have s2 : wr.cell? ⟨b3, 2, none⟩ = some (.int .i64 0) := (blk_cell y3 2).trans rfl
      have HC := fitstop_any (good_rD 1 (by decide)) 0 (chain true k) _ _ wr (HS.out wr HKEEP.out) (HSTV.out wr (Keeps.refl _ _))
      rw [HFIT.out] at HC
      have HCC := Aside0.mk HC
      have two : decide (1 + (k : Int) ≤ 6) = true ∨ decide (1 + (k : Int) ≤ 6) = false := by cases decide (1 + (k : Int) ≤ 6) <;> simp
      clear HC y3 HFIT hlt
      rcases two with z | z
      all_goals
        rw [z] at HCC
        go_wp2_with (go_at_call 7; (with_reducible refine HCC.out.mono ?_); rintro e w4 ⟨rfl, hb⟩; have HB4 := Aside0.mk (below_then HB.out HB.out.size hb); clear hb)
        go_ret
        exact ⟨by simp, HB4.out⟩
theorem ViewDeep_walk (a0 : Int) (a1 : Bool) (w : World) (w0 : (Lit.int .u8 a0).wf = true) :
    Calls Try.prog 3 #[.int .u8 a0, .bool a1] w fun e w' => e = .returned (.bool true) ∧ Below w.heap.size w w' := by
  have h : 0 ≤ a0 ∧ a0 < 256 := by simp [Lit.wf, IntKind.min, IntKind.max, IntKind.bits, IntKind.signed] at w0; omega
  obtain ⟨n, rfl⟩ := Int.eq_ofNat_of_zero_le h.1
  cases a1
  · exact deep_false n (by omega) w
  · exact deep_true n (by omega) w
end Go.Proofs.Ythilhndejhnlnaa.Hand
