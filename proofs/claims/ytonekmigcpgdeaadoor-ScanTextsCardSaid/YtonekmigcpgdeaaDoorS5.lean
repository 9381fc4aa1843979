/- Layer 13, scan: where it is. -/
import Derived.Test.YtonekmigcpgdeaaDoorS4
namespace Go.Proofs.YtonekmigcpgdeaaDoor.Hand
open Go.RowKit Go.Proofs.YtonekmigcpgdeaaDoor.QAll Go.Proofs.YtonekmigcpgdeaaDoorW.PrintWords Go.Proofs.YtonekmigcpgdeaaDoorW.PrintLast Go.Proofs.YtonekmigcpgdeaaDoorW.PrintMore
set_option linter.unusedVariables false
set_option linter.unusedSimpArgs false
section at_
variable {w : World} {g m : Nat} {A : Option Addr} {c : Nat} {b : List Int} {i : Nat} {left : Int}
set_option maxHeartbeats 1600000 in
theorem at_any (h : Scn w g m A c b i left) :
    Calls Tryd.prog 8 #[.pointer (some ⟨g, 0, none⟩)] w fun e w' => e = .returned (.int .i64 i) ∧ Drawn0 w w' := by
  have c1 := h.c1
  go_enter Tryd.func8, Tryd.ntmps8
  go_wp2_with (fail)
  go_ret
  exact ⟨rfl, by first | exact Drawn0.refl _ | exact (Drawn0.refl _).step _ | exact ⟨_, rfl⟩⟩
set_option maxHeartbeats 1600000 in
theorem new_any (p : Int) (h0 : 0 ≤ p) (h1 : p ≤ b.length) (hl : b.length ≤ 1000000) :
    Calls Tryd.prog 12 #[.slice A b.length c, .int .i64 p, .pointer (some ⟨m, 0, none⟩)] w fun e w' => e = .returned (.pointer (some ⟨w.heap.size, 0, none⟩)) ∧ w'.heap[w.heap.size]? = some (.cells #[.slice A b.length c, .int .i64 p, .pointer (some ⟨m, 0, none⟩)] 48 (0, 0)) ∧ Below w.heap.size w w' := by
  go_enter Tryd.func12, Tryd.ntmps12
  go_wp2_with (fail)
  go_ret
  exact ⟨rfl, heap_alloc_new w _, below_alloc (Below.refl _ _) _⟩
set_option maxHeartbeats 1600000 in
theorem wnew_any (w : World) (n : Int) (h0 : 0 ≤ n) (h1 : n ≤ 1099511627776) :
    Calls Tryd.prog 13 #[.int .i64 n] w fun e w' => e = .returned (.pointer (some ⟨w.heap.size, 0, none⟩)) ∧ w'.heap[w.heap.size]? = some (.cells #[.int .i64 n, .bool false] 62 (0, 0)) ∧ Below w.heap.size w w' := by
  go_enter Tryd.func13, Tryd.ntmps13
  go_wp2_with (fail)
  go_ret
  exact ⟨rfl, heap_alloc_new w _, below_alloc (Below.refl _ _) _⟩
/-- A fresh scanner with the law's own meter. -/
def Opened (A : Option Addr) (c : Nat) (b : List Int) (i : Nat) (w : World) (e : Ending) (w' : World) : Prop :=
  ∃ g m, e = .returned (.pointer (some ⟨g, 0, none⟩)) ∧ Scn w' g m A c b i 1099511627776 ∧ w.heap.size ≤ g ∧ w.heap.size ≤ m ∧ Below w.heap.size w w'
set_option maxHeartbeats 1600000 in
theorem open_any (hr : Kd.C (Kd.int .u8) w A b.length b) (hc : b.length ≤ c) (hl : b.length ≤ 1000000) (hi : i ≤ b.length) :
    Calls Tryd.prog 5 #[.slice A b.length c, .int .i64 i] w (Opened A c b i w) := by
  have HR := Aside0.mk hr
  have HC := Aside0.mk hc
  have HL := Aside0.mk hl
  have HI := Aside0.mk hi
  clear hr hc hl hi
  go_enter Tryd.func5, Tryd.ntmps5
  go_wp2_with (first | (go_at_call 13; (with_reducible refine (wnew_any w 1099511627776 (by decide) (by decide)).mono ?_); rintro e w1 ⟨rfl, hm1, hb1⟩; have HM1 := Aside0.mk hm1; have HB1 := Aside0.mk hb1; clear hm1 hb1) | (go_at_call 12; (with_reducible refine (new_any (w := w1) (m := w.heap.size) (A := A) (c := c) (b := b) (i : Int) (by omega) (by have := HI.out; omega) HL.out).mono ?_); rintro e w2 ⟨rfl, hs2, hb2⟩; have HS2 := Aside0.mk hs2; have HB2 := Aside0.mk hb2; clear hs2 hb2))
  go_ret
  have hw1 : w.heap.size < w1.heap.size := blk_lt HM1.out
  have hbb : Below w.heap.size w w2 := HB1.out.trans ⟨HB2.out.os, HB2.out.tape, HB2.out.output, HB2.out.size, fun k hk => HB2.out.block k (by omega)⟩
  refine ⟨w1.heap.size, w.heap.size, rfl, ⟨HS2.out, (HB2.out.block _ hw1).trans HM1.out, by omega, fun W hW => Kd.C_below HR.out (hW.below hbb hbb.size (by omega) (by omega)), HC.out, ⟨HL.out, by have := HI.out; omega⟩, by have := HL.out; omega⟩, by omega, by omega, hbb⟩
end at_
end Go.Proofs.YtonekmigcpgdeaaDoor.Hand
