/- Texts joined: T1. -/
import Derived.Lib.SliceRun
import Derived.Test.YthilhndejhnlnaaZD16
import Derived.Test.YthilhndejhnlnaaZD24
section
/- view: the methods of a value as a view, and as items. -/
namespace Go.Proofs.Ythilhndejhnlnaa.Hand
open Go.RowKit Go.Proofs.Ythilhndejhnlnaa.QAll Go.Proofs.YthilhndejhnlnaaW.PrintWords Go.Proofs.YthilhndejhnlnaaW.PrintLast Go.Proofs.YthilhndejhnlnaaW.PrintMore
set_option linter.unusedVariables false
set_option linter.unusedSimpArgs false
/-- What a method comes to that hands on a kid, as a view or as items (t: which). -/
def ViaPost (t : Nat) (w : World) (x : S39) (e : Ending) (w' : World) : Prop := ∃ uk, e = .returned (.iface t uk) ∧ IsV w' x uk ∧ Below w.heap.size w w'
section
variable (v : S39) (u : Value) (i : Nat) (hi : i < v.f2.length) (w : World) (hv : IsV w v u)
set_option maxHeartbeats 1600000 in
set_option maxRecDepth 100000 in
include hv in
theorem rlist_in : Calls Try.prog 60 #[u, .int .i64 i] w (ViaPost 119 w v.f2[i]) := by
  have HV := Aside0.mk hv
  obtain ⟨A1, c1, A2, c2, rfl, -, -, -, -⟩ := hv
  have HC : Aside0 (∀ W, Below w.heap.size w W → Calls Try.prog 59 #[.agg #[.int .u64 v.f0, .slice A1 v.f1.length c1, .slice A2 v.f2.length c2, .bool v.f3], .int .i64 i] W (KidPost W v.f2[i])) := ⟨fun W hW => kid_in v _ i hi W (HV.out.below hW)⟩
  obtain ⟨K, hK⟩ : ∃ K, v.f2[i] = K := ⟨_, rfl⟩
  rw [hK] at HC ⊢
  clear hK
  go_enter Try.func60, Try.ntmps60
  have HB1 : Aside0 (Below w.heap.size w (w.alloc (.cells #[.int .u64 v.f0, .slice A1 v.f1.length c1, .slice A2 v.f2.length c2, .bool v.f3] 80))) := ⟨below_alloc (Below.refl w.heap.size w) _⟩
  go_wp2_with (go_at_call 59; have hx := HC.out _ HB1.out; (with_reducible refine hx.mono ?_); clear hx; rintro e w2 ⟨uk, rfl, hu, hb⟩; have HB2 := Aside0.mk (below_then HB1.out HB1.out.size hb); have HU := Aside0.mk hu; obtain ⟨E1, e1, E2, e2, rfl, -, -, -, -⟩ := hu; clear hb)
  go_ret
  exact ⟨_, rfl, HU.out, HB2.out⟩
/-- .. and whether it is there. -/
def SubPost (w : World) (x : S39) (e : Ending) (w' : World) : Prop := ∃ uk, e = .returned (.tuple #[.iface 80 uk, .bool x.f3]) ∧ IsV w' x uk ∧ Below w.heap.size w w'
set_option maxHeartbeats 1600000 in
set_option maxRecDepth 100000 in
include hv in
theorem rsub_in : Calls Try.prog 61 #[u, .int .i64 i] w (SubPost w v.f2[i]) := by
  have HV := Aside0.mk hv
  obtain ⟨A1, c1, A2, c2, rfl, -, -, -, -⟩ := hv
  have HC : Aside0 (∀ W, Below w.heap.size w W → Calls Try.prog 59 #[.agg #[.int .u64 v.f0, .slice A1 v.f1.length c1, .slice A2 v.f2.length c2, .bool v.f3], .int .i64 i] W (KidPost W v.f2[i])) := ⟨fun W hW => kid_in v _ i hi W (HV.out.below hW)⟩
  obtain ⟨K, hK⟩ : ∃ K, v.f2[i] = K := ⟨_, rfl⟩
  rw [hK] at HC ⊢
  clear hK
  go_enter Try.func61, Try.ntmps61
  have HB1 : Aside0 (Below w.heap.size w (w.alloc (.cells #[.int .u64 v.f0, .slice A1 v.f1.length c1, .slice A2 v.f2.length c2, .bool v.f3] 80))) := ⟨below_alloc (Below.refl w.heap.size w) _⟩
  go_upto_region 2 with (go_at_call 59; have hx := HC.out _ HB1.out; (with_reducible refine hx.mono ?_); clear hx; rintro e w2 ⟨uk, rfl, hu, hb⟩; have HB2 := Aside0.mk (below_then HB1.out HB1.out.size hb); have HU := Aside0.mk hu; obtain ⟨E1, e1, E2, e2, rfl, -, -, -, -⟩ := hu; clear hb)
  have hb := below_alloc (Below.refl w2.heap.size w2) (.cells #[.int .u64 K.f0, .slice E1 K.f1.length e1, .slice E2 K.f2.length e2, .bool K.f3] 39)
  have HB3 := Aside0.mk (below_then HB2.out HB2.out.size hb)
  have HU3 := Aside0.mk (HU.out.below hb)
  clear hb
  have ha := heap_alloc_new w2 (.cells #[.int .u64 K.f0, .slice E1 K.f1.length e1, .slice E2 K.f2.length e2, .bool K.f3] 39)
  obtain ⟨gn, hgn⟩ : ∃ gn, w2.heap.size = gn := ⟨_, rfl⟩
  rw [hgn] at ha ⊢
  generalize w2.alloc (.cells #[.int .u64 K.f0, .slice E1 K.f1.length e1, .slice E2 K.f2.length e2, .bool K.f3] 39) = w3 at HB3 HU3 ha ⊢
  have n0 := (blk_cell ha 0).trans rfl
  have n1 := (blk_cell ha 1).trans rfl
  have n2 := (blk_cell ha 2).trans rfl
  have n3 := (blk_cell ha 3).trans rfl
  clear ha hgn
  go_quiet (fail)
  clear n0 n1 n2 n3
  go_wp2_with (fail)
  go_ret2
  exact ⟨_, rfl, HU3.out.below (Drawn0.below ⟨⟨_, rfl⟩⟩), below_then HB3.out HB3.out.size (Drawn0.below ⟨⟨_, rfl⟩⟩)⟩
end
theorem len_any (v : S39) (u : Value) (w : World) (hv : IsV w v u) : Calls Try.prog 56 #[u] w fun e w' => e = .returned (.int .i64 v.f2.length) ∧ Below w.heap.size w w' := by
  obtain ⟨A1, c1, A2, c2, rfl, -, -, -, -⟩ := hv
  go_enter Try.func56, Try.ntmps56
  go_wp2_with (fail)
  go_ret
  exact ⟨rfl, below_alloc (Below.refl _ _) _⟩
/-- Bytes, cloned. -/
def BytesPost (w : World) (b : List Int) (e : Ending) (w' : World) : Prop := ∃ v1, e = .returned v1 ∧ Rb (Kd.int .u8) 5 w' w.heap.size v1 b ∧ Below w.heap.size w w'
set_option maxHeartbeats 1600000 in
theorem clone_any (A : Option Addr) (n c : Nat) (b : List Int) (w : World) (hb : Kd.C (Kd.int .u8) w A b.length b) (hl : b.length ≤ 140737488355328) :
    Calls Try.prog 58 #[.slice A b.length c] w (BytesPost w b) := by
  have HC := Aside0.mk hb
  have HL : Aside0 (b.length ≤ 140737488355328) := ⟨hl⟩
  cases A with
  | none =>
    have h0 : b = [] := by
      rcases Nat.eq_zero_or_pos b.length with h | h
      · exact List.eq_nil_of_length_eq_zero h
      · obtain ⟨ad, e, -⟩ := hb.2.2 h
        cases e
    subst h0
    have q36 : ∀ (w : World) (a : Option Addr) (n c n' c' : Nat), (binOp .eql 36 (.slice a n c) (.slice none n' c')).run Try.prog w = .ok (.bool a.isNone) w := fun w a n c n' c' => Lib.run_eql_slice_nil w _ _ a n c n' c' Try.underlying36
    clear hb hl
    go_enter Try.func58, Try.ntmps58
    go_wp2_with (fail)
    go_ret
    exact ⟨_, rfl, Rb.nil _ _ _ _, Below.refl _ _⟩
  | some ad =>
    have q36 : ∀ (w : World) (a : Option Addr) (n c n' c' : Nat), (binOp .eql 36 (.slice a n c) (.slice none n' c')).run Try.prog w = .ok (.bool a.isNone) w := fun w a n c n' c' => Lib.run_eql_slice_nil w _ _ a n c n' c' Try.underlying36
    clear hb hl
    have hbw := below_alloc (Below.refl w.heap.size w) (.cells #[] 5)
    have HR0 : Aside0 (Rb (Kd.int .u8) 5 (w.alloc (.cells #[] 5)) w.heap.size (.slice (some ⟨w.heap.size, 0, none⟩) 0 0) []) := ⟨Kd.R_of_own (enc := Value.int .u8) (h1 := fun _ => rfl) (World.ownsRow_made w #[] 0 (Nat.le_refl _) (Nat.zero_le _) rfl) (fun _ _ => trivial)⟩
    have HB := Aside0.mk hbw
    clear hbw
    go_enter Try.func58, Try.ntmps58
    go_wp2_with ((with_reducible refine gate_builtin (b := .append) (xs := #[.tmp 5, .tmp 6]) rfl ?_); at_builtin; refine Kd.R_append_row (Value.int .u8) (0 : Int) (h1 := fun _ => rfl) (w0 := w) (W := w.alloc (.cells #[] 5)) w.heap.size rfl (.tmp 5) (.tmp 6) 36 5 (.int .u8 0) 1 rfl Try.underlying36 info5 rfl (by decide) (.slice (some ⟨w.heap.size, 0, none⟩) 0 0) [] b (some ad) b.length c (fun _ => True) rfl rfl (fun _ _ => trivial) HR0.out (Kd.C_below HC.out HB.out) HB.out HB.out.size (by have := HL.out; simp only [List.length_nil]; omega) ?_)
    intro v1 w1 hr1 hb1 _ _
    go_wp2_with (fail)
    go_ret
    exact ⟨_, rfl, hr1, hb1⟩
set_option maxHeartbeats 1600000 in
set_option maxRecDepth 100000 in
theorem bytes_in (v : S39) (u : Value) (i : Nat) (hi : i < v.f2.length) (hl : (v.f2[i]).f1.length ≤ 140737488355328) (w : World) (hv : IsV w v u) : Calls Try.prog 55 #[u, .int .i64 i] w (BytesPost w (v.f2[i]).f1) := by
  have HV := Aside0.mk hv
  obtain ⟨A1, c1, A2, c2, rfl, -, -, -, -⟩ := hv
  have HC : Aside0 (∀ W, Below w.heap.size w W → Calls Try.prog 59 #[.agg #[.int .u64 v.f0, .slice A1 v.f1.length c1, .slice A2 v.f2.length c2, .bool v.f3], .int .i64 i] W (KidPost W v.f2[i])) := ⟨fun W hW => kid_in v _ i hi W (HV.out.below hW)⟩
  obtain ⟨K, hK⟩ : ∃ K, v.f2[i] = K := ⟨_, rfl⟩
  rw [hK] at HC hl ⊢
  have HL := Aside0.mk hl
  clear hK hl
  go_enter Try.func55, Try.ntmps55
  have HB1 : Aside0 (Below w.heap.size w (w.alloc (.cells #[.int .u64 v.f0, .slice A1 v.f1.length c1, .slice A2 v.f2.length c2, .bool v.f3] 78))) := ⟨below_alloc (Below.refl w.heap.size w) _⟩
  have hfld : ∀ (a b c d : Value) (w : World), (Instr.field 39 (.agg #[a, b, c, d]) 1).run Try.prog w = .ok b w := fun _ _ _ _ _ => by kernel_rfl
  go_wp2_with (first
    | (go_at_call 59; have hx := HC.out _ HB1.out; (with_reducible refine hx.mono ?_); clear hx; rintro e w2 ⟨uk, rfl, hu, hb⟩; have HB2 := Aside0.mk (below_then HB1.out HB1.out.size hb); obtain ⟨E1, e1, E2, e2, rfl, hu1, hu2, -, -⟩ := hu; have HU1 := Aside0.mk hu1; clear hb hu1 hu2)
    | (go_at_call 58; (with_reducible refine (clone_any E1 K.f1.length e1 K.f1 w2 HU1.out HL.out).mono ?_); rintro e w3 ⟨v1, rfl, hr3, hb3⟩; have HR3 := Aside0.mk hr3; have HB3 := Aside0.mk (below_then HB2.out HB2.out.size hb3); clear hr3 hb3))
  go_ret
  exact ⟨_, rfl, HR3.out.lower HB2.out.size, HB3.out⟩
end Go.Proofs.Ythilhndejhnlnaa.Hand
end
