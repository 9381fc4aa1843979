/- ArenaNil: a nil arena; and Align, and the fixed facts of layer 2. -/
import Derived.Test.YtgabfoafchnpiaaArena2
import Derived.Test.YtgabfoafchnpiaaWalkWireParts
namespace Go.Proofs.Ytgabfoafchnpiaa.Hand
open Go.RowKit Go.Proofs.Ytgabfoafchnpiaa.QAll Go.Proofs.YtgabfoafchnpiaaW.PrintWords Go.Proofs.YtgabfoafchnpiaaW.PrintLast Go.Proofs.YtgabfoafchnpiaaW.PrintMore Go.Proofs.Ytgabfoafchnpiaa.Nums
set_option linter.unusedVariables false
set_option linter.unusedSimpArgs false

set_option maxHeartbeats 800000 in
theorem align_small (g : Nat) (n : Int) (w : World) (h : n < 1) : Calls Try.prog 19 #[.pointer (some ⟨g, 0, none⟩), .int .i64 n] w fun e w' => e = .returned (.bool false) ∧ w = w' := by
  go_enter Try.func19, Try.ntmps19
  go_wp2
  go_ret
  exact ⟨rfl, rfl⟩
/-- How many bytes Align asks for. -/
def gap (len q : Nat) : Nat := (q - len % q) % q
theorem gap_int (len q : Nat) (h : 1 ≤ q) : ((q : Int) - (len : Int) % (q : Int)) % (q : Int) = (gap len q : Int) := by
  have h1 : len % q < q := Nat.mod_lt _ h
  unfold gap
  rw [Int.natCast_emod, Int.natCast_sub (Nat.le_of_lt h1), Int.natCast_emod]
theorem gap_lt (len q : Nat) (h : 1 ≤ q) : gap len q < q := Nat.mod_lt _ h
set_option maxHeartbeats 1600000 in
theorem align_over {base : Nat} {g : Nat} {v : Value} {l : List Int} {most : Int} (q : Nat) (w : World) (h : Arn base w g v l most true) (ht : 1 ≤ q) (hm : q < 9223372036854775808) (hl : l.length < 4611686018427387904) :
    Calls Try.prog 19 #[.pointer (some ⟨g, 0, none⟩), .int .i64 q] w fun e w' => e = .returned (.bool false) ∧ w = w' := by
  obtain ⟨A, c, rfl⟩ := h.slice
  have c0 := h.c0
  have H := Aside0.mk h
  have hg := gap_int l.length q ht
  have r0 : 0 ≤ (l.length : Int) % (q : Int) := Int.emod_nonneg _ (by omega)
  have r1 : (l.length : Int) % (q : Int) < (q : Int) := Int.emod_lt_of_pos _ (by omega)
  have ht0 : ((q : Int) < 1) = False := eq_false (by omega)
  have hz : ((q : Int) == 0) = false := by simp; omega
  clear h
  go_enter Try.func19, Try.ntmps19
  go_wp2_with (go_at_call 13; (with_reducible refine (room_over _ _ H.out).mono ?_); rintro e w2 ⟨rfl, rfl⟩)
  go_ret
  exact ⟨rfl, rfl⟩
set_option maxHeartbeats 1600000 in
theorem align_no {base : Nat} {g : Nat} {v : Value} {l : List Int} {most : Int} (q : Nat) (w : World) (h : Arn base w g v l most false) (ht : 1 ≤ q) (hm : q < 9223372036854775808) (hl : l.length < 4611686018427387904)
    (hN : wire_Next.f 2 (l.length : Int) (gap l.length q : Int) most = some (0, false)) :
    Calls Try.prog 19 #[.pointer (some ⟨g, 0, none⟩), .int .i64 q] w fun e w' => e = .returned (.bool false) ∧ Arn base w' g v l most true ∧ Stays w w' g v v := by
  obtain ⟨A, c, rfl⟩ := h.slice
  have c0 := h.c0
  have H := Aside0.mk h
  have hg := gap_int l.length q ht
  have r0 : 0 ≤ (l.length : Int) % (q : Int) := Int.emod_nonneg _ (by omega)
  have r1 : (l.length : Int) % (q : Int) < (q : Int) := Int.emod_lt_of_pos _ (by omega)
  have ht0 : ((q : Int) < 1) = False := eq_false (by omega)
  have hz : ((q : Int) == 0) = false := by simp; omega
  have HN := Aside0.mk hN
  clear h hN
  go_enter Try.func19, Try.ntmps19
  go_wp2_with (go_at_call 13; (with_reducible refine (room_no _ _ H.out HN.out).mono ?_); rintro e w2 ⟨rfl, ha, hs⟩; have HA := Aside0.mk ha; have HS := Aside0.mk hs; clear ha hs)
  go_ret
  exact ⟨rfl, HA.out, HS.out⟩
set_option maxHeartbeats 1600000 in
theorem align_yes {base : Nat} {g : Nat} {v : Value} {l : List Int} {most : Int} (q : Nat) (w : World) (h : Arn base w g v l most false) (hbase : base ≤ w.heap.size) (ht : 1 ≤ q) (hm : q < 9223372036854775808) (hl : l.length < 4611686018427387904)
    (hlim : l.length + gap l.length q ≤ 140737488355328) (hN : wire_Next.f 2 (l.length : Int) (gap l.length q : Int) most = some ((l.length : Int) + (gap l.length q : Int), true)) :
    Calls Try.prog 19 #[.pointer (some ⟨g, 0, none⟩), .int .i64 q] w fun e w' => e = .returned (.bool true) ∧ ∃ v', Arn base w' g v' (l ++ List.replicate (gap l.length q) 0) most false ∧ Stays w w' g v v' := by
  obtain ⟨A, c, rfl⟩ := h.slice
  have c0 := h.c0
  have H := Aside0.mk h
  have hg := gap_int l.length q ht
  have r0 : 0 ≤ (l.length : Int) % (q : Int) := Int.emod_nonneg _ (by omega)
  have r1 : (l.length : Int) % (q : Int) < (q : Int) := Int.emod_lt_of_pos _ (by omega)
  have ht0 : ((q : Int) < 1) = False := eq_false (by omega)
  have hz : ((q : Int) == 0) = false := by simp; omega
  have HN := Aside0.mk hN
  have HB := Aside0.mk hbase
  have HL := Aside0.mk hlim
  clear h hN hbase hlim
  go_enter Try.func19, Try.ntmps19
  go_wp2_with (go_at_call 13; (with_reducible refine (room_yes _ _ H.out HB.out HL.out HN.out).mono ?_); rintro e w2 ⟨rfl, v2, ha, hs⟩; have HA := Aside0.mk ha; have HS := Aside0.mk hs; clear ha hs)
  go_ret
  exact ⟨rfl, v2, HA.out, HS.out⟩

-- The fixed facts of chapter 2.
set_option maxHeartbeats 3200000 in
theorem awake02 (w : World) : Calls Try.prog 12 #[] w fun e w' => e = .returned (.bool true) ∧ Below w.heap.size w w' := by
  have n1 := Aside0.mk (next_good 0 2 4 (by omega) (by omega) (by omega) (by omega) (by omega))
  have n2 := Aside0.mk (next_good 2 2 4 (by omega) (by omega) (by omega) (by omega) (by omega))
  have n3 := Aside0.mk (next_bad 4 1 4 (.inr (.inr (.inr ⟨by omega, by omega, by omega, by omega⟩))))
  have l1 : ([] ++ leB 258 2 : List Int) = [2, 1] := by decide +kernel
  have g1 : gap 2 4 = 2 := by decide
  go_enter Try.func12, Try.ntmps12
  go_wp2_with (first
    | (go_at_call 21; (with_reducible refine (new_arena 4 (by omega) _).mono ?_); rintro e w1 ⟨g, rfl, ha, hb⟩; have HA1 := Aside0.mk ha; have HB1 := Aside0.mk hb; clear ha hb)
    | (go_at_call 15; refine calls_of_args (args' := #[.pointer (some ⟨g, 0, none⟩), .int .i64 ((2 : Nat) : Int), .int .u64 258]) rfl ?_; refine (num_yes (w0 := w) (l := []) 2 258 _ HA1.out HB1.out (by decide) (by simp) n1.out).mono ?_; rintro e w2 ⟨rfl, v2, ha, hs⟩; have HB2 := Aside0.mk (HB1.out.trans (HA1.out.below HB1.out.size hs)); rw [l1] at ha; have HA2 := Aside0.mk ha; clear ha hs)
    | (go_at_call 19; refine calls_of_args (args' := #[.pointer (some ⟨g, 0, none⟩), .int .i64 ((4 : Nat) : Int)]) rfl ?_; refine (align_yes (l := [2, 1]) 4 _ HA2.out HB2.out.size (by decide) (by decide) (by simp) (by decide) n2.out).mono ?_; rintro e w3 ⟨rfl, v3, ha, hs⟩; have HB3 := Aside0.mk (HB2.out.trans (HA2.out.below HB2.out.size hs)); have HA3 := Aside0.mk (show Arn w.heap.size w3 g v3 [2, 1, 0, 0] 4 false from ha); clear ha hs)
    | (go_at_call 13; refine (room_no 1 _ HA3.out n3.out).mono ?_; rintro e w4 ⟨rfl, ha, hs⟩; have HB4 := Aside0.mk (HB3.out.trans (HA3.out.below HB3.out.size hs)); have HA4 := Aside0.mk ha; clear ha hs)
    | (go_at_call 16; (with_reducible refine (bytes_over _ HA4.out).mono ?_); rintro e w5 ⟨rfl, rfl⟩)
    | (go_at_call 17; (with_reducible refine (len_some _ HA4.out).mono ?_); rintro e w5 ⟨rfl, rfl⟩)
    | (go_at_call 18; (with_reducible refine (over_some _ HA4.out).mono ?_); rintro e w5 ⟨rfl, rfl⟩))
  go_ret
  exact ⟨by simp, HB4.out⟩

set_option maxHeartbeats 3200000 in
theorem nil_any (n s x : Int) (A : Option Addr) (m c : Nat) (w : World) :
    Calls Try.prog 3 #[.int .i64 n, .int .i64 s, .int .u64 x, .slice A m c] w fun e w' => e = .returned (.bool true) ∧ Below w.heap.size w w' := by
  go_enter Try.func3, Try.ntmps3
  go_wp2_with (first
    | (go_at_call 12; (with_reducible refine (awake02 _).mono ?_); rintro e w1 ⟨rfl, hb⟩; have HB1 := Aside0.mk hb; clear hb)
    | (go_at_call 13; (with_reducible refine (room_nil _ _).mono ?_); rintro e w2 ⟨rfl, rfl⟩)
    | (go_at_call 14; (with_reducible refine (put_nilptr (.bool true) _ _ _ _).mono ?_); rintro e w2 ⟨rfl, rfl⟩)
    | (go_at_call 15; (with_reducible refine (num_nilptr _ _ _).mono ?_); rintro e w2 ⟨rfl, ⟨nd, rfl⟩⟩)
    | (go_at_call 16; (with_reducible refine (bytes_nil _).mono ?_); rintro e w2 ⟨rfl, rfl⟩)
    | (go_at_call 17; (with_reducible refine (len_nil _).mono ?_); rintro e w2 ⟨rfl, rfl⟩)
    | (go_at_call 18; (with_reducible refine (over_nil _).mono ?_); rintro e w2 ⟨rfl, rfl⟩)
    | (go_at_call 19; (with_reducible refine (align_nilptr _ _).mono ?_); rintro e w2 ⟨rfl, rfl⟩)
    | (go_at_call 20; (with_reducible refine (set_nilptr _ _ _ _).mono ?_); rintro e w2 ⟨rfl, rfl⟩))
  go_ret
  exact ⟨by simp, pw_below_drewN HB1.out _⟩

theorem ArenaNil_walk (a0 a1 a2 : Int) (a3 : Option Addr) (len3 cap3 : Nat) (z3 : List Int) (w : World) (w0 : (Lit.int .i64 a0).wf = true) (w1 : (Lit.int .i64 a1).wf = true) (w2 : (Lit.int .u64 a2).wf = true)
    (w3 : (a3 = none ∧ len3 = 0 ∧ cap3 = 0 ∧ z3 = []) ∨ ∃ x, a3 = some x ∧ len3 ≤ cap3 ∧ cap3 ≤ maxLen ∧ z3.length = cap3 ∧ (∀ i, i < z3.length → w.cell? (x.add i) = some (.int .u8 (z3.getD i 0))) ∧ ∀ n ∈ z3, (Lit.int .u8 n).wf = true)
    (y3 : len3 * 1 ≤ 140737488351232) :
    Calls Try.prog 3 #[.int .i64 a0, .int .i64 a1, .int .u64 a2, .slice a3 len3 cap3] w fun e w' => e = .returned (.bool true) ∧ Below w.heap.size w w' := nil_any a0 a1 a2 a3 len3 cap3 w
end Go.Proofs.Ytgabfoafchnpiaa.Hand
