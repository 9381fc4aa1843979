/- Texts joined: K L1 L2 L3 L4 L5 L6 L7 L8 G1 G2. -/
import Derived.StillTailTactics
import Derived.Test.YthilhndejhnlnaaDoorZV15
import Derived.Test.YthilhndejhnlnaaDoorZV23
section
/- Rows of the call's own, told apart by their blocks' numbers; the state of a walk of value. -/
namespace Go.Proofs.YthilhndejhnlnaaDoor.Hand
open Go.RowKit Go.Proofs.YthilhndejhnlnaaDoor.QAll Go.Proofs.YthilhndejhnlnaaDoorW.PrintWords Go.Proofs.YthilhndejhnlnaaDoorW.PrintLast Go.Proofs.YthilhndejhnlnaaDoorW.PrintMore Go.Proofs.YthilhndejhnlnaaDoor.Mk
set_option linter.unusedVariables false
section
variable {α : Type} {d : Kd α} {e : Nat} {w w1 : World} {base : Nat} {v : Value} {xs : List α}
/-- A row of the call's own whose blocks are from base on. -/
abbrev Rb (d : Kd α) (e : Nat) (w : World) (base : Nat) (v : Value) (xs : List α) : Prop := d.R e w base (fun _ => True) v xs
theorem Rb.of {ok : Nat → Prop} (h : d.R e w base ok v xs) : Rb d e w base v xs := Kd.R_mono h (fun _ _ => trivial)
theorem Rb.all (h : Rb d e w base v xs) (hm : ∀ k, base ≤ k → k < w.heap.size → w1.heap[k]? = w.heap[k]?) : Rb d e w1 base v xs :=
  Kd.R_mono (Kd.R_move (Kd.R_bound h) (fun k hk => hm k hk.2.1 hk.2.2.1)) (fun _ _ => trivial)
theorem Rb.keep {g : Nat} (h : Rb d e w base v xs) (hk : KeepBut w w1 g none) (hg : g < base) : Rb d e w1 base v xs := h.all (fun k hb hl => hk.2 k hl (by omega) (by simp))
theorem Rb.below (h : Rb d e w base v xs) (hb : Below w.heap.size w w1) : Rb d e w1 base v xs := h.all (fun k _ hl => hb.block k hl)
theorem Rb.set {p : Addr} (h : Rb d e w base v xs) (hp : p.block < base) (u : Value) : Rb d e (w.setCell p u) base v xs := h.all (fun k hb _ => Below.heap_setCell w p u k (by omega))
theorem Rb.lower {b : Nat} (h : Rb d e w base v xs) (hb : b ≤ base) : Rb d e w b v xs := Kd.R_lower h hb
theorem Rb.nil (d : Kd α) (e : Nat) (w : World) (base : Nat) : Rb d e w base (.slice none 0 0) [] := Kd.R_nil d e w base _
theorem Rb.slice (h : Rb d e w base v xs) : ∃ A c, v = .slice A xs.length c ∧ xs.length ≤ c ∧ d.C w A xs.length xs := Kd.R_reads h
/-- Its blocks are of this world; as a row whose blocks are all from base on, and none another row's. -/
theorem Rb.from (h : Rb d e w base v xs) : d.R e w base (fun k => base ≤ k) v xs := Kd.R_mono (Kd.R_bound h) (fun _ hk => hk.2.1)
theorem Rb.bas (h : Rb d e w base v xs) (k : Nat) (hk : v.ownBlock = some k) : base ≤ k ∧ k < w.heap.size := by
  have := (Kd.R_bound h).1 k hk
  exact ⟨this.2.1, this.2.2.1⟩
end
theorem keep_trans {w w1 w2 : World} {g : Nat} (h : KeepBut w w1 g none) (k : KeepBut w1 w2 g none) : KeepBut w w2 g none := h.trans k (.inl rfl)
theorem keep_grown {w w1 w2 : World} {g : Nat} {row : Option Nat} (h : KeepBut w w1 g none) (hg : w1.grownBy w2 row) (hr : ∀ k, row = some k → w.heap.size ≤ k) : KeepBut w w2 g none :=
  ⟨Nat.le_trans h.1 hg.size, fun i hi hne _ => (hg.block i (Nat.lt_of_lt_of_le hi h.1) (fun e => by have := hr i e.symm; omega)).trans (h.2 i hi hne (by simp))⟩
theorem keep_set {w w1 : World} {g : Nat} (h : KeepBut w w1 g none) {p : Addr} (hp : w.heap.size ≤ p.block) (u : Value) : KeepBut w (w1.setCell p u) g none :=
  ⟨by simpa [World.setCell] using h.1, fun i hi hne _ => (Below.heap_setCell w1 p u i (by omega)).trans (h.2 i hi hne (by simp))⟩

/-- The state of value's walk, behind its first two statements. -/
structure VS (w0 w W : World) (g : Nat) (B : List Int) (i : Int) (g1 g2 g3 g4 g5 : Nat) (us ts fs os : Array Value) : Prop where
  src : IsS69 w0 W g B i
  bel : Below w0.heap.size w0 W
  kp : KeepBut w W g none
  ne : w0.heap.size ≤ w.heap.size ∧ g < w.heap.size ∧ w.heap.size ≤ g1 ∧ g1 < g2 ∧ g2 < g3 ∧ g3 < g4 ∧ g4 < g5
  s : W.heap[g1]? = some (.cells us 34 (0, 0))
  t : W.heap[g2]? = some (.cells ts 45 (0, 0))
  f : W.heap[g3]? = some (.cells fs 47 (0, 0))
  r : W.heap[g4]? = some (.cells #[.int .u64 0, .slice none 0 0, .slice none 0 0, .bool false] 29 (0, 0))
  o : W.heap[g5]? = some (.cells os 29 (0, 0))
namespace VS
variable {w0 w W W' : World} {g : Nat} {B : List Int} {i j : Int} {g1 g2 g3 g4 g5 : Nat} {us ts fs os : Array Value}
theorem size (h : VS w0 w W g B i g1 g2 g3 g4 g5 us ts fs os) : g5 + 1 ≤ W.heap.size := blk_lt h.o
theorem call (h : VS w0 w W g B i g1 g2 g3 g4 g5 us ts fs os) (hs : IsS69 w0 W' g B j) (hb : Below w0.heap.size w0 W') (hk : KeepBut W W' g none) : VS w0 w W' g B j g1 g2 g3 g4 g5 us ts fs os :=
  have n := h.ne
  ⟨hs, hb, keep_trans h.kp hk, n, hk.blk h.s (by omega) (by simp), hk.blk h.t (by omega) (by simp), hk.blk h.f (by omega) (by simp), hk.blk h.r (by omega) (by simp), hk.blk h.o (by omega) (by simp)⟩
theorem below (h : VS w0 w W g B i g1 g2 g3 g4 g5 us ts fs os) (hb : Below W.heap.size W W') : VS w0 w W' g B i g1 g2 g3 g4 g5 us ts fs os :=
  ⟨h.src.below hb, below_then h.bel h.bel.size hb, keep_trans h.kp (KeepBut.of_below hb g none), h.ne, (hb.block _ (blk_lt h.s)).trans h.s, (hb.block _ (blk_lt h.t)).trans h.t, (hb.block _ (blk_lt h.f)).trans h.f, (hb.block _ (blk_lt h.r)).trans h.r, (hb.block _ (blk_lt h.o)).trans h.o⟩
theorem grown (h : VS w0 w W g B i g1 g2 g3 g4 g5 us ts fs os) {row : Option Nat} (hg : W.grownBy W' row) (hr : ∀ k, row = some k → g5 + 1 ≤ k) : VS w0 w W' g B i g1 g2 g3 g4 g5 us ts fs os :=
  have n := h.ne
  have ne : ∀ k, k ≤ g5 → some k ≠ row := fun k hk e => by have := hr k e.symm; omega
  ⟨h.src.grown hg (ne g (by omega)), h.bel.grown hg h.bel.size (fun k e => by have := hr k e; omega), keep_grown h.kp hg (fun k e => by have := hr k e; omega), n,
   blk_grown h.s hg (ne _ (by omega)), blk_grown h.t hg (ne _ (by omega)), blk_grown h.f hg (ne _ (by omega)), blk_grown h.r hg (ne _ (by omega)), blk_grown h.o hg (ne _ (by omega))⟩
theorem set (h : VS w0 w W g B i g1 g2 g3 g4 g5 us ts fs os) (q : Nat) (u : Value) : VS w0 w (W.setCell ⟨g5, q, none⟩ u) g B i g1 g2 g3 g4 g5 us ts fs (os.setIfInBounds q u) :=
  have n := h.ne
  ⟨h.src.far (p := ⟨g5, q, none⟩) (by show g ≠ g5; omega) u, Below.setCell h.bel (p := ⟨g5, q, none⟩) (by show w0.heap.size ≤ g5; omega) u, keep_set h.kp (p := ⟨g5, q, none⟩) (by show w.heap.size ≤ g5; omega) u, n,
   blk_far h.s (p := ⟨g5, q, none⟩) (by show g1 ≠ g5; omega) u, blk_far h.t (p := ⟨g5, q, none⟩) (by show g2 ≠ g5; omega) u, blk_far h.f (p := ⟨g5, q, none⟩) (by show g3 ≠ g5; omega) u, blk_far h.r (p := ⟨g5, q, none⟩) (by show g4 ≠ g5; omega) u, blk_set h.o q u⟩
end VS
/-- What value comes to. -/
def VPost (st : List S50) (en : List S58) (root : Int) (B : List Int) (left : Nat) (kd rf ls : Int) (sure : Bool) (i : Int) (w0 w : World) (g : Nat) (e : Ending) (w' : World) : Prop :=
  ∃ (v : S29) (j : Int) (v1 v2 : Value), e = .returned (.agg #[.int .u64 v.f0, v1, v2, .bool v.f3]) ∧ Rb (Kd.int .u8) 5 w' w.heap.size v1 v.f1 ∧ Rb k29 29 w' w.heap.size v2 v.f2 ∧
    IsS69 w0 w' g B j ∧ Below w0.heap.size w0 w' ∧ KeepBut w w' g none ∧ VOk st en root B.length left kd rf ls sure i j v
end Go.Proofs.YthilhndejhnlnaaDoor.Hand
end

section
/- value: its walk where bytes are made. -/
namespace Go.Proofs.YthilhndejhnlnaaDoor.Hand
open Go.RowKit Go.Proofs.YthilhndejhnlnaaDoor.QAll Go.Proofs.YthilhndejhnlnaaDoorW.PrintWords Go.Proofs.YthilhndejhnlnaaDoorW.PrintLast Go.Proofs.YthilhndejhnlnaaDoorW.PrintMore Go.Proofs.YthilhndejhnlnaaDoor.Mk
set_option linter.unusedVariables false
set_option linter.unusedSimpArgs false
abbrev fV (f : S47) : Value := .agg #[.string f.f0, .int .u8 f.f1.f0, .int .i64 f.f1.f1, .int .i64 f.f1.f2, .int .u64 f.f2]
end Go.Proofs.YthilhndejhnlnaaDoor.Hand
end

section
/- value: its walk where a text is made. -/
namespace Go.Proofs.YthilhndejhnlnaaDoor.Hand
open Go.RowKit Go.Proofs.YthilhndejhnlnaaDoor.QAll Go.Proofs.YthilhndejhnlnaaDoorW.PrintWords Go.Proofs.YthilhndejhnlnaaDoorW.PrintLast Go.Proofs.YthilhndejhnlnaaDoorW.PrintMore Go.Proofs.YthilhndejhnlnaaDoor.Mk
set_option linter.unusedVariables false
set_option linter.unusedSimpArgs false
end Go.Proofs.YthilhndejhnlnaaDoor.Hand
end

section
/- value: its walk where a number is made. -/
namespace Go.Proofs.YthilhndejhnlnaaDoor.Hand
open Go.RowKit Go.Proofs.YthilhndejhnlnaaDoor.QAll Go.Proofs.YthilhndejhnlnaaDoorW.PrintWords Go.Proofs.YthilhndejhnlnaaDoorW.PrintLast Go.Proofs.YthilhndejhnlnaaDoorW.PrintMore Go.Proofs.YthilhndejhnlnaaDoor.Mk
set_option linter.unusedVariables false
set_option linter.unusedSimpArgs false
theorem szB_le {kd : Int} (h : 0 < szB kd) : kd ≤ 10 := by
  unfold szB at h
  split at h
  · omega
  split at h
  · omega
  split at h
  · omega
  split at h <;> omega
end Go.Proofs.YthilhndejhnlnaaDoor.Hand
end

section
/- value: its walk where a struct is not there. -/
namespace Go.Proofs.YthilhndejhnlnaaDoor.Hand
open Go.RowKit Go.Proofs.YthilhndejhnlnaaDoor.QAll Go.Proofs.YthilhndejhnlnaaDoorW.PrintWords Go.Proofs.YthilhndejhnlnaaDoorW.PrintLast Go.Proofs.YthilhndejhnlnaaDoorW.PrintMore Go.Proofs.YthilhndejhnlnaaDoor.Mk
set_option linter.unusedVariables false
set_option linter.unusedSimpArgs false
end Go.Proofs.YthilhndejhnlnaaDoor.Hand
end

section
/- value: its walk where a struct is there. -/
namespace Go.Proofs.YthilhndejhnlnaaDoor.Hand
open Go.RowKit Go.Proofs.YthilhndejhnlnaaDoor.QAll Go.Proofs.YthilhndejhnlnaaDoorW.PrintWords Go.Proofs.YthilhndejhnlnaaDoorW.PrintLast Go.Proofs.YthilhndejhnlnaaDoorW.PrintMore Go.Proofs.YthilhndejhnlnaaDoor.Mk
set_option linter.unusedVariables false
set_option linter.unusedSimpArgs false
theorem VS.far {w0 w W : World} {g : Nat} {B : List Int} {i : Int} {g1 g2 g3 g4 g5 n : Nat} {us ts fs os : Array Value} (h : VS w0 w W g B i g1 g2 g3 g4 g5 us ts fs os) (hn : g5 < n) (q : Nat) (u : Value) : VS w0 w (W.setCell ⟨n, q, none⟩ u) g B i g1 g2 g3 g4 g5 us ts fs os :=
  have e := h.ne
  ⟨h.src.far (p := ⟨n, q, none⟩) (by show g ≠ n; omega) u, Below.setCell h.bel (p := ⟨n, q, none⟩) (by show w0.heap.size ≤ n; omega) u, keep_set h.kp (p := ⟨n, q, none⟩) (by show w.heap.size ≤ n; omega) u, e,
   blk_far h.s (p := ⟨n, q, none⟩) (by show g1 ≠ n; omega) u, blk_far h.t (p := ⟨n, q, none⟩) (by show g2 ≠ n; omega) u, blk_far h.f (p := ⟨n, q, none⟩) (by show g3 ≠ n; omega) u, blk_far h.r (p := ⟨n, q, none⟩) (by show g4 ≠ n; omega) u, blk_far h.o (p := ⟨n, q, none⟩) (by show g5 ≠ n; omega) u⟩
theorem VS.drawn {w0 w W W' : World} {g : Nat} {B : List Int} {i : Int} {g1 g2 g3 g4 g5 n : Nat} {us ts fs os : Array Value} (h : VS w0 w W g B i g1 g2 g3 g4 g5 us ts fs os) (e : W.drewN n = W') : VS w0 w W' g B i g1 g2 g3 g4 g5 us ts fs os := by
  subst e; exact h.below (Drawn0.below ⟨⟨_, rfl⟩⟩)
/-- What the fields that were made so far are like. -/
structure KOk (st : List S50) (en : List S58) (root : Int) (left n : Nat) (fs : List S47) (j jk : Int) (k : Nat) (kids : List S29) : Prop where
  len : kids.length = k
  fit : ((fs.take k).zip kids).all (fun p => fitsB st en root left p.1.f1.f0 p.1.f1.f1 p.1.f1.f2 p.2) = true
  rg : rngs kids
  adv : j ≤ jk ∧ jk ≤ n
  wts : (Mk.wts kids : Int) ≤ k + 21 * (jk - j)
theorem KOk.snoc {st : List S50} {en : List S58} {root : Int} {left n : Nat} {fs : List S47} {j jk jl : Int} {k : Nat} {kids : List S29} {v : S29} (h : KOk st en root left n fs j jk k kids) (hk : k < fs.length)
    (hv : VOk st en root n left fs[k].f1.f0 fs[k].f1.f1 fs[k].f1.f2 false jk jl v) : KOk st en root left n fs j jl (k + 1) (kids ++ [v]) where
  len := by rw [List.length_append, h.len]; rfl
  fit := by
    rw [List.take_succ_eq_append_getElem hk, List.zip_append (by rw [List.length_take, h.len]; omega), List.all_append, h.fit]
    simp [hv.fit]
  rg := by rw [rngs_append]; exact ⟨h.rg, hv.rg, trivial⟩
  adv := ⟨by have := h.adv; have := hv.adv; omega, hv.adv.2⟩
  wts := by
    have h1 := h.wts
    have h2 := h.adv
    have h3 := hv.adv
    rw [wts_append]; simp only [Mk.wts]
    rcases Int.lt_or_le jk n with e | e
    · have := (hv.run e).2; omega
    · have := (hv.fin (by omega)).2 rfl; omega
end Go.Proofs.YthilhndejhnlnaaDoor.Hand
end

section
/- value: its walk where a list is made. -/
namespace Go.Proofs.YthilhndejhnlnaaDoor.Hand
open Go.RowKit Go.Proofs.YthilhndejhnlnaaDoor.QAll Go.Proofs.YthilhndejhnlnaaDoorW.PrintWords Go.Proofs.YthilhndejhnlnaaDoorW.PrintLast Go.Proofs.YthilhndejhnlnaaDoorW.PrintMore Go.Proofs.YthilhndejhnlnaaDoor.Mk
set_option linter.unusedVariables false
set_option linter.unusedSimpArgs false
/-- What the elements that were made so far are like. -/
structure LOk (st : List S50) (en : List S58) (root : Int) (left n : Nat) (kd rf ls : Int) (j jk : Int) (k : Nat) (kids : List S29) : Prop where
  len : kids.length = k
  fit : ∀ x ∈ kids, 1 ≤ left ∧ fitsB st en root (left - 1) kd rf (ls - 1) x = true ∧ lackB kd (ls - 1) x = false
  rg : rngs kids
  adv : j ≤ jk ∧ jk ≤ n
  wts : (Mk.wts kids : Int) ≤ 21 * (jk - j)
theorem LOk.snoc {st : List S50} {en : List S58} {root : Int} {left n : Nat} {kd rf ls j jk jl : Int} {k : Nat} {kids : List S29} {v : S29} (h : LOk st en root left n kd rf ls j jk k kids) (h1 : 1 ≤ left) (h2 : kd = 13 → ls - 1 = 0 → 2 ≤ left) (hjk : jk < n)
    (hv : VOk st en root n (left - 1) kd rf (ls - 1) true jk jl v) : LOk st en root left n kd rf ls j jl (k + 1) (kids ++ [v]) where
  len := by rw [List.length_append, h.len]; rfl
  fit := by
    intro x hx
    rcases List.mem_append.1 hx with e | e
    · exact h.fit x e
    · rw [List.mem_singleton] at e; subst e
      refine ⟨h1, hv.fit, ?_⟩
      unfold lackB
      by_cases a : ls - 1 = 0
      · by_cases b : kd = 13
        · have := h2 b a
          rw [hv.has rfl a b (by omega)]; simp
        · simp [b]
      · simp [a]
  rg := by rw [rngs_append]; exact ⟨h.rg, hv.rg, trivial⟩
  adv := ⟨by have := h.adv; have := hv.adv; omega, hv.adv.2⟩
  wts := by
    have h3 := h.wts
    have h4 := (hv.run hjk).2
    rw [wts_append]; simp only [Mk.wts]; omega
end Go.Proofs.YthilhndejhnlnaaDoor.Hand
end

section
/- value, whatever the type: what it makes fits. -/
namespace Go.Proofs.YthilhndejhnlnaaDoor.Hand
open Go.RowKit Go.Proofs.YthilhndejhnlnaaDoor.QAll Go.Proofs.YthilhndejhnlnaaDoorW.PrintWords Go.Proofs.YthilhndejhnlnaaDoorW.PrintLast Go.Proofs.YthilhndejhnlnaaDoorW.PrintMore Go.Proofs.YthilhndejhnlnaaDoor.Mk
set_option linter.unusedVariables false
set_option linter.unusedSimpArgs false
/-- A field whose default is one of its type. -/
def FDef (st : List S50) (en : List S58) (root kd rf ls : Int) (f : S47) : Prop := (ls = 0 → 0 < szB kd → numB st en root kd rf 0 f.f2 = true) ∧ 0 ≤ f.f2 ∧ f.f2 < 18446744073709551616
end Go.Proofs.YthilhndejhnlnaaDoor.Hand
end

section
/- Value: a value of the root. -/
namespace Go.Proofs.YthilhndejhnlnaaDoor.Hand
open Go.RowKit Go.Proofs.YthilhndejhnlnaaDoor.QAll Go.Proofs.YthilhndejhnlnaaDoorW.PrintWords Go.Proofs.YthilhndejhnlnaaDoorW.PrintLast Go.Proofs.YthilhndejhnlnaaDoorW.PrintMore Go.Proofs.YthilhndejhnlnaaDoor.Mk
set_option linter.unusedVariables false
set_option linter.unusedSimpArgs false
/-- What Value comes to: a value that fits, in new memory. -/
def VTop (st : List S50) (en : List S58) (root : Int) (n : Nat) (w : World) (e : Ending) (w' : World) : Prop :=
  ∃ (v : S29) (j : Int) (v1 v2 : Value), e = .returned (.agg #[.int .u64 v.f0, v1, v2, .bool v.f3]) ∧ Rb (Kd.int .u8) 5 w' w.heap.size v1 v.f1 ∧ Rb k29 29 w' w.heap.size v2 v.f2 ∧ Below w.heap.size w w' ∧ VOk st en root n 12 13 root 0 true 0 j v
end Go.Proofs.YthilhndejhnlnaaDoor.Hand
end

section
/- Made: words for its walk. -/
namespace Go.Proofs.YthilhndejhnlnaaDoor.Hand
open Go.RowKit Go.Proofs.YthilhndejhnlnaaDoor.QAll Go.Proofs.YthilhndejhnlnaaDoorW.PrintWords Go.Proofs.YthilhndejhnlnaaDoorW.PrintLast Go.Proofs.YthilhndejhnlnaaDoorW.PrintMore Go.Proofs.YthilhndejhnlnaaDoor.Mk
set_option linter.unusedVariables false
set_option linter.unusedSimpArgs false
/-- A literal row of bytes, turned text. -/
theorem conv_lit (W : World) (l : List Int) (cells : Array Value) (hc : cells.toList = encs (Value.int .u8) l) (hl : l.length ≤ 1000000) (n : Nat) (hn : l.length = n) :
    (convert 22 9 (.slice (some ⟨W.heap.size, 0, none⟩) n n)).run Tryd.prog (W.alloc (.cells cells 5)) = .ok (.string (strOfNums l)) (W.alloc (.cells cells 5)) := by
  subst hn
  refine Kd.C_string (P := Tryd.prog) (c := l.length) Tryd.underlying22 Tryd.underlying5 Tryd.underlying9 ?_
  refine Kd.C_of_reads (enc := Value.int .u8) (d := (0 : Int)) (h1 := fun _ => rfl) ⟨rfl, by omega, fun _ => ⟨_, rfl, fun j hj => ?_⟩⟩
  have e : (⟨W.heap.size, 0, none⟩ : Addr).add j = ⟨W.heap.size, j, none⟩ := by unfold Addr.add; split <;> simp_all
  rw [e]
  refine (blk_cell (w := W.alloc (.cells cells 5)) (heap_alloc_new W (.cells cells 5)) j).trans ?_
  rw [← Array.getElem?_toList, hc]
  exact encs_get _ _ hj
/-- The fixed blocks of Made's walk. -/
structure MS (w W : World) (gp gr go : Nat) (ps os : Array Value) : Prop where
  bel : Below w.heap.size w W
  ne : w.heap.size = gp ∧ gp + 1 = gr ∧ gr + 1 = go
  p : W.heap[gp]? = some (.cells ps 25 (0, 0))
  r : W.heap[gr]? = some (.cells #[.slice none 0 0, .slice none 0 0, .int .i64 0] 34 (0, 0))
  o : W.heap[go]? = some (.cells os 34 (0, 0))
namespace MS
variable {w W W' : World} {gp gr go : Nat} {ps os : Array Value}
theorem below (h : MS w W gp gr go ps os) (hb : Below W.heap.size W W') : MS w W' gp gr go ps os :=
  ⟨below_then h.bel h.bel.size hb, h.ne, (hb.block _ (blk_lt h.p)).trans h.p, (hb.block _ (blk_lt h.r)).trans h.r, (hb.block _ (blk_lt h.o)).trans h.o⟩
theorem grown (h : MS w W gp gr go ps os) {row : Option Nat} (hg : W.grownBy W' row) (hr : ∀ k, row = some k → go + 1 ≤ k) : MS w W' gp gr go ps os :=
  have n := h.ne
  have ne : ∀ k, k ≤ go → some k ≠ row := fun k hk e => by have := hr k e.symm; omega
  ⟨h.bel.grown hg h.bel.size (fun k e => by have := hr k e; omega), n, blk_grown h.p hg (ne _ (by omega)), blk_grown h.r hg (ne _ (by omega)), blk_grown h.o hg (ne _ (by omega))⟩
theorem set (h : MS w W gp gr go ps os) (q : Nat) (u : Value) : MS w (W.setCell ⟨go, q, none⟩ u) gp gr go ps (os.setIfInBounds q u) :=
  have n := h.ne
  ⟨Below.setCell h.bel (p := ⟨go, q, none⟩) (by show w.heap.size ≤ go; omega) u, n, blk_far h.p (p := ⟨go, q, none⟩) (by show gp ≠ go; omega) u, blk_far h.r (p := ⟨go, q, none⟩) (by show gr ≠ go; omega) u, blk_set h.o q u⟩
end MS
/-- Field i of a struct bears the i-th label. -/
def NmOk (fs : List S47) : Prop := ∀ (i : Nat) (f : S47), fs[i]? = some f → ∃ n : Int, 0 ≤ n ∧ n < 256 ∧ transomhand05_label.f n i = some f.f0
theorem NmOk.snoc {fs : List S47} {f : S47} (h : NmOk fs) {n : Int} (h0 : 0 ≤ n) (h1 : n < 256) (hl : transomhand05_label.f n fs.length = some f.f0) : NmOk (fs ++ [f]) := by
  intro i g hg
  rcases Nat.lt_or_ge i fs.length with e | e
  · rw [List.getElem?_append_left e] at hg; exact h i g hg
  · rw [List.getElem?_append_right e] at hg
    have hi : i - fs.length = 0 := by
      rcases Nat.eq_zero_or_pos (i - fs.length) with z | z
      · exact z
      · rw [List.getElem?_eq_none (by simp; omega)] at hg; cases hg
    rw [hi] at hg; simp at hg; subst hg
    obtain rfl : i = fs.length := by omega
    exact ⟨n, h0, h1, hl⟩
theorem schOk_snoc {en : List S58} {n : Nat} {tr : Bool} {st : List S50} {nm : ByteArray} {fs : List S47} (h : SchOk en n tr st) (h1 : 1 ≤ fs.length) (h2 : fs.length ≤ 16) (hf : ∀ f ∈ fs, FOk en n tr st.length f) : SchOk en n tr (st ++ [⟨nm, fs⟩]) :=
  ⟨fun j r hj => by
    rcases Nat.lt_or_ge j st.length with e | e
    · rw [List.getElem?_append_left e] at hj; exact h.fs j r hj
    · rw [List.getElem?_append_right e] at hj
      have h0 : j - st.length = 0 := by
        rcases Nat.eq_zero_or_pos (j - st.length) with z | z
        · exact z
        · rw [List.getElem?_eq_none (by simp; omega)] at hj; cases hj
      rw [h0] at hj; simp at hj; subst hj
      obtain rfl : j = st.length := by omega
      exact ⟨h1, h2, hf⟩⟩
/-- A type in the making, at block gt, behind world wq. -/
structure TSt (wq W : World) (gt : Nat) (kd rf ls : Int) : Prop where
  bel : Below wq.heap.size wq W
  ge : wq.heap.size ≤ gt
  t : W.heap[gt]? = some (.cells #[.int .u8 kd, .int .i64 rf, .int .i64 ls] 45 (0, 0))
namespace TSt
variable {wq W W' : World} {gt : Nat} {kd rf ls : Int}
theorem c0 (h : TSt wq W gt kd rf ls) : W.cell? ⟨gt, 0, none⟩ = some (.int .u8 kd) := (blk_cell h.t 0).trans rfl
theorem c1 (h : TSt wq W gt kd rf ls) : W.cell? ⟨gt, 1, none⟩ = some (.int .i64 rf) := (blk_cell h.t 1).trans rfl
theorem c2 (h : TSt wq W gt kd rf ls) : W.cell? ⟨gt, 2, none⟩ = some (.int .i64 ls) := (blk_cell h.t 2).trans rfl
theorem set0 (h : TSt wq W gt kd rf ls) (x : Int) : TSt wq (W.setCell ⟨gt, 0, none⟩ (.int .u8 x)) gt x rf ls := ⟨Below.setCell h.bel (p := ⟨gt, 0, none⟩) h.ge _, h.ge, by simpa using blk_set h.t 0 (.int .u8 x)⟩
theorem set1 (h : TSt wq W gt kd rf ls) (x : Int) : TSt wq (W.setCell ⟨gt, 1, none⟩ (.int .i64 x)) gt kd x ls := ⟨Below.setCell h.bel (p := ⟨gt, 1, none⟩) h.ge _, h.ge, by simpa using blk_set h.t 1 (.int .i64 x)⟩
theorem drew (h : TSt wq W gt kd rf ls) : TSt wq W.drew gt kd rf ls := ⟨below_drew h.bel, h.ge, h.t⟩
theorem below (h : TSt wq W gt kd rf ls) (hb : Below W.heap.size W W') : TSt wq W' gt kd rf ls := ⟨below_then h.bel h.bel.size hb, h.ge, (hb.block _ (blk_lt h.t)).trans h.t⟩
end TSt
/-- Five cells of a new block were written. -/
theorem set5_all {W W' : World} {n : Nat} {x0 x1 x2 x3 x4 : Value} (hW : ((((W.setCell ⟨n, 0, none⟩ x0).setCell ⟨n, 1, none⟩ x1).setCell ⟨n, 2, none⟩ x2).setCell ⟨n, 3, none⟩ x3).setCell ⟨n, 4, none⟩ x4 = W') :
    (∀ {wq : World}, Below wq.heap.size wq W → wq.heap.size ≤ n → Below wq.heap.size wq W') ∧ (∀ {m : Nat} {cs : Array Value} {t : TypeId}, m ≠ n → W.heap[m]? = some (.cells cs t (0, 0)) → W'.heap[m]? = some (.cells cs t (0, 0))) ∧
    (∀ {a b c d e : Value} {t : TypeId}, W.heap[n]? = some (.cells #[a, b, c, d, e] t (0, 0)) → W'.heap[n]? = some (.cells #[x0, x1, x2, x3, x4] t (0, 0))) := by
  subst hW
  refine ⟨fun h hn => ?_, fun hm h => ?_, fun h => ?_⟩
  · exact Below.setCell (Below.setCell (Below.setCell (Below.setCell (Below.setCell h (p := ⟨n, 0, none⟩) hn x0) (p := ⟨n, 1, none⟩) hn x1) (p := ⟨n, 2, none⟩) hn x2) (p := ⟨n, 3, none⟩) hn x3) (p := ⟨n, 4, none⟩) hn x4
  · exact blk_far (p := ⟨n, 4, none⟩) (blk_far (p := ⟨n, 3, none⟩) (blk_far (p := ⟨n, 2, none⟩) (blk_far (p := ⟨n, 1, none⟩) (blk_far (p := ⟨n, 0, none⟩) h hm x0) hm x1) hm x2) hm x3) hm x4
  · exact blk_set (blk_set (blk_set (blk_set (blk_set h 0 x0) 1 x1) 2 x2) 3 x3) 4 x4
theorem set5_cell {W : World} {n : Nat} {a : Addr} {v x0 x1 x2 x3 x4 : Value} (hc : W.cell? a = some v) (hne : a.block ≠ n) :
    (((((W.setCell ⟨n, 0, none⟩ x0).setCell ⟨n, 1, none⟩ x1).setCell ⟨n, 2, none⟩ x2).setCell ⟨n, 3, none⟩ x3).setCell ⟨n, 4, none⟩ x4).cell? a = some v := by
  rw [cell_far (p := ⟨n, 4, none⟩) hne, cell_far (p := ⟨n, 3, none⟩) hne, cell_far (p := ⟨n, 2, none⟩) hne, cell_far (p := ⟨n, 1, none⟩) hne, cell_far (p := ⟨n, 0, none⟩) hne, hc]
/-- What Made comes to. -/
def MPost (n : Nat) (tr : Bool) (w : World) (e : Ending) (w' : World) : Prop :=
  ∃ (st : List S50) (en : List S58) (root : Int) (ok : Bool) (v0 v1 : Value), e = .returned (.tuple #[.agg #[v0, v1, .int .i64 root], .bool ok]) ∧ Rb k50 50 w' w.heap.size v0 st ∧ Rb k58 58 w' w.heap.size v1 en ∧ Below w.heap.size w w' ∧
    MadeR n tr (st, en, root, ok) ∧ (ok = true → ∀ r ∈ st, NmOk r.f1)
end Go.Proofs.YthilhndejhnlnaaDoor.Hand
end

section
/- Made: its walk, where the plan is none. -/
namespace Go.Proofs.YthilhndejhnlnaaDoor.Hand
open Go.RowKit Go.Proofs.YthilhndejhnlnaaDoor.QAll Go.Proofs.YthilhndejhnlnaaDoorW.PrintWords Go.Proofs.YthilhndejhnlnaaDoorW.PrintLast Go.Proofs.YthilhndejhnlnaaDoorW.PrintMore Go.Proofs.YthilhndejhnlnaaDoor.Mk
set_option linter.unusedVariables false
set_option linter.unusedSimpArgs false
theorem at_byte {k : IntKind} {w : World} {A : Option Addr} {n : Nat} {xs : List Int} (h : Kd.C (Kd.int k) w A n xs) (i : Nat) (hi : i < n) : ∃ ad, A = some ad ∧ w.cell? (ad.add i) = some (.int k (rd xs i)) := by
  obtain ⟨ad, c, e, -, hK, hc⟩ := Kd.C_get h 0 (i : Int) (Int.natCast_nonneg _) (by omega)
  refine ⟨ad, e, ?_⟩
  have h2 : c = [.int k (xs.getD ((i : Int)).toNat 0)] := hK
  have h3 := hc 0 (.int k (xs.getD ((i : Int)).toNat 0)) (by rw [h2]; rfl)
  rw [show ((i : Int)).toNat * (Kd.int k).sz + 0 = i from by show i * 1 + 0 = i; omega] at h3
  exact h3
theorem made_bad {n : Nat} {tr : Bool} : MadeR n tr (([] : List S50), ([] : List S58), 0, false) := fun h => by cases h
/-- The blocks at the begin: the plan's, the result's. -/
theorem two_new (w : World) (ps : Array Value) {g1 g2 : Nat} (e1 : w.heap.size = g1) (e2 : g1 + 1 = g2) {W : World} (hW : (w.alloc (.cells ps 25)).alloc (.cells #[.slice none 0 0, .slice none 0 0, .int .i64 0] 34) = W) :
    Below w.heap.size w W ∧ W.heap[g1]? = some (.cells ps 25 (0, 0)) ∧ W.heap[g2]? = some (.cells #[.slice none 0 0, .slice none 0 0, .int .i64 0] 34 (0, 0)) ∧ W.heap.size = g2 + 1 := by
  subst e1 e2 hW
  obtain ⟨w1, h1⟩ : ∃ w1, w.alloc (.cells ps 25) = w1 := ⟨_, rfl⟩
  have s1 : w1.heap.size = w.heap.size + 1 := by rw [← h1]; simp
  have a1 := heap_alloc_new w (.cells ps 25)
  have a2 := heap_alloc_new w1 (.cells #[.slice none 0 0, .slice none 0 0, .int .i64 0] 34)
  have b1 := below_alloc (Below.refl w.heap.size w) (.cells ps 25)
  have b2 := below_alloc (Below.refl w1.heap.size w1) (.cells #[.slice none 0 0, .slice none 0 0, .int .i64 0] 34)
  rw [h1] at a1 b1 ⊢
  rw [s1] at a2
  exact ⟨below_then b1 b1.size b2, (b2.block _ (by omega)).trans a1, a2, by simp [s1]⟩
set_option maxHeartbeats 6400000 in
set_option maxRecDepth 100000 in
theorem made_no (E : List Int) (S : List (List S61)) (Rt : Int) (tr : Bool) (A0 : Option Addr) (c0 : Nat) (A1 : Option Addr) (c1 : Nat) (w : World) (hno : S.length < 1 ∨ 16 < S.length ∨ 8 < E.length) :
    Calls Tryd.prog 6 #[.agg #[.slice A0 E.length c0, .slice A1 S.length c1, .int .u8 Rt, .bool tr]] w (MPost S.length tr w) := by
  obtain ⟨g1, e1⟩ : ∃ g1, w.heap.size = g1 := ⟨_, rfl⟩
  obtain ⟨g2, e2⟩ : ∃ g2, g1 + 1 = g2 := ⟨_, rfl⟩
  obtain ⟨w1, hw1⟩ : ∃ w1, (w.alloc (.cells #[.slice A0 E.length c0, .slice A1 S.length c1, .int .u8 Rt, .bool tr] 25)).alloc (.cells #[.slice none 0 0, .slice none 0 0, .int .i64 0] 34) = w1 := ⟨_, rfl⟩
  have H := Aside0.mk (two_new w _ e1 e2 hw1)
  have HEQ := Aside0.mk (And.intro e1 (And.intro e2 hw1))
  have ways : (decide (S.length < 1) = true ∧ decide ((S.length : Int) < 1) = true) ∨
      ((decide (S.length < 1) = false ∧ decide ((S.length : Int) < 1) = false) ∧ decide (16 < S.length) = true ∧ decide ((16 : Int) < (S.length : Int)) = true) ∨
      ((decide (S.length < 1) = false ∧ decide ((S.length : Int) < 1) = false) ∧ (decide (16 < S.length) = false ∧ decide ((16 : Int) < (S.length : Int)) = false) ∧ decide (8 < E.length) = true ∧ decide ((8 : Int) < (E.length : Int)) = true) := by
    by_cases h1 : S.length < 1
    · exact .inl ⟨decide_eq_true h1, decide_eq_true (by omega)⟩
    · by_cases h2 : 16 < S.length
      · exact .inr (.inl ⟨⟨decide_eq_false h1, decide_eq_false (by omega)⟩, decide_eq_true h2, decide_eq_true (by omega)⟩)
      · exact .inr (.inr ⟨⟨decide_eq_false h1, decide_eq_false (by omega)⟩, ⟨decide_eq_false h2, decide_eq_false (by omega)⟩, decide_eq_true (by omega), decide_eq_true (by omega)⟩)
  clear e1 e2 hw1 hno
  rcases ways with ⟨p1, p2⟩ | ⟨⟨p1, p2⟩, p3, p4⟩ | ⟨⟨p1, p2⟩, ⟨p3, p4⟩, p5, p6⟩
  all_goals
    go_enter Tryd.func6, Tryd.ntmps6
    go_upto_region 1 with (fail)
    rw [HEQ.out.1, HEQ.out.2.1, HEQ.out.2.2]
    have c0 : w1.cell? ⟨g1, 0, none⟩ = some (.slice A0 E.length c0) := (blk_cell H.out.2.1 0).trans rfl
    have c1 : w1.cell? ⟨g1, 1, none⟩ = some (.slice A1 S.length c1) := (blk_cell H.out.2.1 1).trans rfl
    have r0 := (blk_cell H.out.2.2.1 0).trans rfl
    have r1 := (blk_cell H.out.2.2.1 1).trans rfl
    have r2 := (blk_cell H.out.2.2.1 2).trans rfl
    have y0 := blk_frozen H.out.2.2.1 0
    have y1 := blk_frozen H.out.2.2.1 1
    have y2 := blk_frozen H.out.2.2.1 2
    go_wp2_with (fail)
    clear c0 c1 r0 r1 r2 y0 y1 y2
    have hb := blk_set (blk_set (blk_set H.out.2.2.1 0 (.slice none 0 0)) 1 (.slice none 0 0)) 2 (.int .i64 0)
    have z0 := (blk_cell hb 0).trans rfl
    have z1 := (blk_cell hb 1).trans rfl
    have z2 := (blk_cell hb 2).trans rfl
    have hlow : w.heap.size ≤ g2 := by have := HEQ.out; omega
    refine bodyPost_ret (v := .tuple #[.agg #[.slice none 0 0, .slice none 0 0, .int .i64 0], .bool false]) (by simp [results, Tryd.results6, go_sem, z0, z1, z2]) rfl ⟨[], [], 0, false, _, _, rfl, Rb.nil _ _ _ _, Rb.nil _ _ _ _, ?_, made_bad, fun h => by cases h⟩
    exact Below.setCell (Below.setCell (Below.setCell H.out.1 (p := ⟨g2, 0, none⟩) hlow _) (p := ⟨g2, 1, none⟩) hlow _) (p := ⟨g2, 2, none⟩) hlow _
end Go.Proofs.YthilhndejhnlnaaDoor.Hand
end
