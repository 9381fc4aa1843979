/- Texts joined: C8. -/
import Derived.Test.YtjgjidehlldfhaaZC23
import Derived.Test.YtjgjidehlldfhaaZC24
section
/- Layer 8, capread: Read. -/
namespace Go.Proofs.Ytjgjidehlldfhaa.Hand
open Go.RowKit Go.Proofs.Ytjgjidehlldfhaa.QAll Go.Proofs.YtjgjidehlldfhaaW.PrintWords Go.Proofs.YtjgjidehlldfhaaW.PrintLast Go.Proofs.YtjgjidehlldfhaaW.PrintMore Go.Proofs.Ytjgjidehlldfhaa.Nums Go.Proofs.Ytjgjidehlldfhaa.Runes
set_option linter.unusedVariables false
set_option linter.unusedSimpArgs false
theorem info72 : (Try.prog.info? 72).map (fun i => (i.zero, i.size, i.bytes)) = some (some (.agg #[.int .i64 0, .int .i64 0, .slice none 0 0]), 3, 40) := by kernel_rfl
/-- Is a message's head right? -/
def headM (b : List Int) : Bool :=
  (loadV b 4 4).2 && ((loadV b 0 4).1 == 0) && decide (b.length ≤ 16384) && decide ((b.length : Int) - 8 = 8 * (loadV b 4 4).1) && !((loadV b 4 4).1 == 0)
/-- What is read. -/
def msgM (st : List S32) (en : List S83) (root : Int) (b : List Int) : Msg := ⟨st, en, root, st.map (fun r => packM r.f1), b.drop 8, (loadV b 4 4).1⟩
/-- The root's pointer, and whether all that it reaches is right. -/
def rootM (X : Msg) : Ptr × Bool := pointerM X.words (wordM X.b 0) 0
def readM (X : Msg) (T : Tgt) (s : Mt) : Bool × Mt :=
  if (rootM X).2 = false ∨ (rootM X).1.null = true ∨ (rootM X).1.list = true then (false, s) else recordM X 12 T (rootM X).1.pos (rootM X).1.data (rootM X).1.ptrs X.root s
structure RS (w W : World) (A0 : Option Addr) (n0 c0 : Nat) (A1 : Option Addr) (n1 c1 : Nat) (root : Int) (A3 : Option Addr) (n3 c3 : Nat) (words : Int) (gm g0 gx : Nat) (v : Value) (xs : List S72) : Prop where
  bel : Below w.heap.size w W
  b0 : W.heap[g0]? = some (.cells #[.slice A0 n0 c0, .slice A1 n1 c1, .int .i64 root] 36 (0, 0))
  bx : W.heap[gx]? = some (.cells #[.slice A0 n0 c0, .slice A1 n1 c1, .int .i64 root, v, .slice A3 n3 c3, .int .i64 words, .int .i64 0, .pointer (some ⟨gm, 0, none⟩)] 69 (0, 0))
  row : Rb k72 72 W (gx + 1) v xs
  ne : w.heap.size ≤ g0 ∧ g0 < gx
namespace RS
variable {w W W' : World} {A0 : Option Addr} {n0 c0 : Nat} {A1 : Option Addr} {n1 c1 : Nat} {root : Int} {A3 : Option Addr} {n3 c3 : Nat} {words : Int} {gm g0 gx : Nat} {v : Value} {xs : List S72}
theorem below (h : RS w W A0 n0 c0 A1 n1 c1 root A3 n3 c3 words gm g0 gx v xs) (hb : Below W.heap.size W W') : RS w W' A0 n0 c0 A1 n1 c1 root A3 n3 c3 words gm g0 gx v xs :=
  ⟨below_then h.bel h.bel.size hb, (hb.block _ (blk_lt h.b0)).trans h.b0, (hb.block _ (blk_lt h.bx)).trans h.bx, h.row.below hb, h.ne⟩
theorem grown (h : RS w W A0 n0 c0 A1 n1 c1 root A3 n3 c3 words gm g0 gx v xs) {row : Option Nat} (hg : W.grownBy W' row) (hr : ∀ k, row = some k → gx + 1 ≤ k) {v' : Value} {ys : List S72} (hrow : Rb k72 72 W' (gx + 1) v' ys) :
    Below w.heap.size w W' ∧ W'.heap[g0]? = some (.cells #[.slice A0 n0 c0, .slice A1 n1 c1, .int .i64 root] 36 (0, 0)) ∧ W'.heap[gx]? = some (.cells #[.slice A0 n0 c0, .slice A1 n1 c1, .int .i64 root, v, .slice A3 n3 c3, .int .i64 words, .int .i64 0, .pointer (some ⟨gm, 0, none⟩)] 69 (0, 0)) :=
  have n := h.ne
  ⟨h.bel.grown hg h.bel.size (fun k e => by have := hr k e; omega), blk_grown h.b0 hg (fun e => by have := hr _ e.symm; omega), blk_grown h.bx hg (fun e => by have := hr _ e.symm; omega)⟩
theorem set (hb : Below w.heap.size w W) (h0 : W.heap[g0]? = some (.cells #[.slice A0 n0 c0, .slice A1 n1 c1, .int .i64 root] 36 (0, 0))) (hx : W.heap[gx]? = some (.cells #[.slice A0 n0 c0, .slice A1 n1 c1, .int .i64 root, v, .slice A3 n3 c3, .int .i64 words, .int .i64 0, .pointer (some ⟨gm, 0, none⟩)] 69 (0, 0)))
    (hn : w.heap.size ≤ g0 ∧ g0 < gx) {v' : Value} {ys : List S72} (hrow : Rb k72 72 W (gx + 1) v' ys) : RS w (W.setCell ⟨gx, 3, none⟩ v') A0 n0 c0 A1 n1 c1 root A3 n3 c3 words gm g0 gx v' ys :=
  ⟨Below.setCell hb (p := ⟨gx, 3, none⟩) (by show w.heap.size ≤ gx; omega) _, blk_far h0 (p := ⟨gx, 3, none⟩) (by show g0 ≠ gx; omega) _, blk_set hx 3 _, Rb.set (p := ⟨gx, 3, none⟩) hrow (Nat.lt_succ_self _) _, hn⟩
end RS
theorem load4_bound (b : List Int) (hb : ∀ x ∈ b, 0 ≤ x ∧ x < 256) (a : Int) : 0 ≤ (loadV b a 4).1 ∧ (loadV b a 4).1 < 4294967296 := by
  unfold loadV
  split
  · have h := leN_bound ((b.drop a.toNat).take (4 : Int).toNat) (fun x hx => hb x (List.mem_of_mem_drop (List.mem_of_mem_take hx)))
    refine ⟨h.1, Int.lt_of_lt_of_le h.2 ?_⟩
    have hl : ((b.drop a.toNat).take (4 : Int).toNat).length ≤ 4 := by rw [List.length_take]; exact Nat.min_le_left _ _
    have : (256 : Nat) ^ ((b.drop a.toNat).take (4 : Int).toNat).length ≤ 256 ^ 4 := Nat.pow_le_pow_right (by decide) hl
    calc (256 : Int) ^ ((b.drop a.toNat).take (4 : Int).toNat).length = ((256 ^ ((b.drop a.toNat).take (4 : Int).toNat).length : Nat) : Int) := (Int.natCast_pow 256 _).symm
      _ ≤ ((256 ^ 4 : Nat) : Int) := Int.ofNat_le.2 this
      _ = 4294967296 := by decide
  · exact ⟨Int.le_refl _, by decide⟩
theorem load4_ok (b : List Int) : (loadV b 4 4).2 = decide (8 ≤ b.length) := by
  unfold loadV withinB
  have : sizedB 4 = true := by decide
  rw [this]
  by_cases h : 8 ≤ b.length
  · rw [if_pos (by simp; omega)]; simp [h]
  · rw [if_neg (by simp; omega)]; simp [h]
end Go.Proofs.Ytjgjidehlldfhaa.Hand
end
