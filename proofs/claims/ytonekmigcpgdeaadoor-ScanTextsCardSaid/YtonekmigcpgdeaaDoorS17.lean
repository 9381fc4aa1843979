/- Layer 13, scan: a scanner at any place; a scanner and a reader side by side. -/
import Derived.Test.YtonekmigcpgdeaaDoorS15
import Derived.Test.YtonekmigcpgdeaaDoorS9
namespace Go.Proofs.YtonekmigcpgdeaaDoor.Hand
open Go.RowKit Go.Proofs.YtonekmigcpgdeaaDoor.QAll Go.Proofs.YtonekmigcpgdeaaDoorW.PrintWords Go.Proofs.YtonekmigcpgdeaaDoorW.PrintLast Go.Proofs.YtonekmigcpgdeaaDoorW.PrintMore Go.Proofs.YtonekmigcpgdeaaDoor.Runes
set_option linter.unusedVariables false
set_option linter.unusedSimpArgs false
/-- A place, held between 0 and n. -/
def clampN (p : Int) (n : Nat) : Nat := (min (max p 0) (n : Int)).toNat
theorem clampN_le (p : Int) (n : Nat) : clampN p n ≤ n := by unfold clampN; omega
section opn
variable {w : World} {A : Option Addr} {c : Nat} {b : List Int} {m : Nat}
set_option maxHeartbeats 1600000 in
theorem new_at (p : Int) (hl : b.length ≤ 1000000) :
    Calls Tryd.prog 12 #[.slice A b.length c, .int .i64 p, .pointer (some ⟨m, 0, none⟩)] w fun e w' => e = .returned (.pointer (some ⟨w.heap.size, 0, none⟩)) ∧ w'.heap[w.heap.size]? = some (.cells #[.slice A b.length c, .int .i64 (clampN p b.length), .pointer (some ⟨m, 0, none⟩)] 48 (0, 0)) ∧ Below w.heap.size w w' := by
  have ways : (p < 0 ∧ clampN p b.length = 0) ∨ (0 ≤ p ∧ p ≤ b.length ∧ ((clampN p b.length : Nat) : Int) = p) ∨ (0 ≤ p ∧ (b.length : Int) < p ∧ clampN p b.length = b.length) := by unfold clampN; omega
  rcases ways with ⟨h1, h2⟩ | ⟨h1, h2, h3⟩ | ⟨h1, h2, h3⟩
  · rw [h2]
    have e1 : max p 0 = 0 := by omega
    have e2 : min (0 : Int) (b.length : Int) = 0 := by omega
    go_enter Tryd.func12, Tryd.ntmps12
    go_wp2_with (fail)
    go_ret
    exact ⟨rfl, heap_alloc_new w _, below_alloc (Below.refl _ _) _⟩
  · rw [h3]
    have e1 : max p 0 = p := by omega
    have e2 : min p (b.length : Int) = p := by omega
    clear h3
    go_enter Tryd.func12, Tryd.ntmps12
    go_wp2_with (fail)
    go_ret
    exact ⟨rfl, heap_alloc_new w _, below_alloc (Below.refl _ _) _⟩
  · rw [h3]
    have e1 : max p 0 = p := by omega
    have e2 : min p (b.length : Int) = (b.length : Int) := by omega
    clear h3
    go_enter Tryd.func12, Tryd.ntmps12
    go_wp2_with (fail)
    go_ret
    exact ⟨rfl, heap_alloc_new w _, below_alloc (Below.refl _ _) _⟩
set_option maxHeartbeats 1600000 in
theorem open_at (p : Int) (hr : Kd.C (Kd.int .u8) w A b.length b) (hc : b.length ≤ c) (hl : b.length ≤ 1000000) :
    Calls Tryd.prog 5 #[.slice A b.length c, .int .i64 p] w (Opened A c b (clampN p b.length) w) := by
  have HR := Aside0.mk hr
  have HC := Aside0.mk hc
  have HL := Aside0.mk hl
  have HI := Aside0.mk (clampN_le p b.length)
  clear hr hc hl
  go_enter Tryd.func5, Tryd.ntmps5
  go_wp2_with (first | (go_at_call 13; (with_reducible refine (wnew_any w 1099511627776 (by decide) (by decide)).mono ?_); rintro e w1 ⟨rfl, hm1, hb1⟩; have HM1 := Aside0.mk hm1; have HB1 := Aside0.mk hb1; clear hm1 hb1) | (go_at_call 12; (with_reducible refine (new_at (w := w1) (m := w.heap.size) (A := A) (c := c) (b := b) p HL.out).mono ?_); rintro e w2 ⟨rfl, hs2, hb2⟩; have HS2 := Aside0.mk hs2; have HB2 := Aside0.mk hb2; clear hs2 hb2))
  go_ret
  have hw1 : w.heap.size < w1.heap.size := blk_lt HM1.out
  have hbb : Below w.heap.size w w2 := HB1.out.trans ⟨HB2.out.os, HB2.out.tape, HB2.out.output, HB2.out.size, fun k hk => HB2.out.block k (by omega)⟩
  refine ⟨w1.heap.size, w.heap.size, rfl, ⟨HS2.out, (HB2.out.block _ hw1).trans HM1.out, by omega, fun W hW => Kd.C_below HR.out (hW.below hbb hbb.size (by omega) (by omega)), HC.out, ⟨HL.out, by have := HI.out; omega⟩, by have := HL.out; omega⟩, by omega, by omega, hbb⟩
end opn
/-- A scanner and a reader over the same bytes, at the same place; what was before they were made is as it was. -/
structure Both (w0 w : World) (g m r : Nat) (A1 A2 : Option Addr) (c1 c2 : Nat) (b : List Int) (i : Nat) : Prop where
  s : ∃ left, Scn w g m A1 c1 b i left
  r : Rdr w r A2 c2 b i
  base : Below w0.heap.size w0 w
section both
variable {w0 w w' : World} {g m r : Nat} {A1 A2 : Option Addr} {c1 c2 : Nat} {b : List Int} {i j : Nat}
/-- What does not change: where they lie, and the bytes. -/
structure Lies (w0 : World) (g m r : Nat) (A1 A2 : Option Addr) (b : List Int) : Prop where
  hg : w0.heap.size ≤ g
  hm : w0.heap.size ≤ m
  hr : w0.heap.size ≤ r
  rg : r ≠ g
  rm : r ≠ m
  C1 : Kd.C (Kd.int .u8) w0 A1 b.length b
  C2 : Kd.C (Kd.int .u8) w0 A2 b.length b
/-- Behind one step of the scanner and the same of the reader. -/
theorem Both.step {w1 w2 : World} (hl : Lies w0 g m r A1 A2 b) (h : Both w0 w g m r A1 A2 c1 c2 b i) (hs : ∃ left, Scn w1 g m A1 c1 b j left) (ht : Two g m w w1) (hr : Rdr w2 r A2 c2 b j) (ht2 : Two r r w1 w2) : Both w0 w2 g m r A1 A2 c1 c2 b j := by
  obtain ⟨left, hs⟩ := hs
  have hb1 : Below w0.heap.size w0 w1 := ht.below h.base h.base.size hl.hg hl.hm
  have hb2 : Below w0.heap.size w0 w2 := ht2.below hb1 hb1.size hl.hr hl.hr
  refine ⟨⟨left, (ht2.block g (blk_lt hs.sc) hl.rg.symm hl.rg.symm).trans hs.sc, (ht2.block m (blk_lt hs.mt) hl.rm.symm hl.rm.symm).trans hs.mt, hs.ne, fun W hW => Kd.C_below hl.C1 (hW.below hb2 hb2.size hl.hg hl.hm), hs.cap, hs.lim, hs.bud⟩, hr, hb2⟩
theorem Both.kept (h : Both w0 w g m r A1 A2 c1 c2 b i) (hb : Below w.heap.size w w') : Both w0 w' g m r A1 A2 c1 c2 b i := by
  obtain ⟨left, hs⟩ := h.s
  exact ⟨⟨left, hs.kept hb⟩, h.r.kept hb, h.base.trans (below_from hb h.base.size)⟩
/-- The reader, behind a step of the scanner. -/
theorem Both.rdr {w1 : World} (hl : Lies w0 g m r A1 A2 b) (h : Both w0 w g m r A1 A2 c1 c2 b i) (ht : Two g m w w1) : Rdr w1 r A2 c2 b i := by
  have hb : Below w0.heap.size w0 w1 := ht.below h.base h.base.size hl.hg hl.hm
  exact ⟨(ht.block r (blk_lt h.r.sc) hl.rg hl.rm).trans h.r.sc, fun W hW => Kd.C_below hl.C2 (hW.below hb hb.size hl.hr hl.hr), h.r.cap, h.r.lim⟩
end both
end Go.Proofs.YtonekmigcpgdeaaDoor.Hand
