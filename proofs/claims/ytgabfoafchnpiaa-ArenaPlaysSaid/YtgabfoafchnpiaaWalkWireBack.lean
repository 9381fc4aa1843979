/- WireBack: the walk of the law 'what is written is read; other bytes stay'. -/
import Derived.Test.YtgabfoafchnpiaaOwn
import Derived.Test.YtgabfoafchnpiaaWalkWireMeters
namespace Go.Proofs.Ytgabfoafchnpiaa.Hand
open Go.RowKit Go.Proofs.Ytgabfoafchnpiaa.QAll Go.Proofs.YtgabfoafchnpiaaW.PrintWords Go.Proofs.YtgabfoafchnpiaaW.PrintLast Go.Proofs.YtgabfoafchnpiaaW.PrintMore Go.Proofs.Ytgabfoafchnpiaa.Nums
set_option linter.unusedVariables false
set_option linter.unusedSimpArgs false

theorem load_any (A : Option Addr) (c : Nat) (l : List Int) (a s : Int) (w : World) (hr : Kd.C (Kd.int .u8) w A l.length l) (hc : l.length ≤ c) (hb : ∀ x ∈ l, 0 ≤ x ∧ x < 256) (hl : l.length < 4611686018427387904) :
    Calls Try.prog 29 #[.slice A l.length c, .int .i64 a, .int .i64 s] w fun e w' => e = .returned (.tuple #[.int .u64 (loadV l a s).1, .bool (loadV l a s).2]) ∧ Drawn0 w w' :=
  wire_Load.calls 10 A c l a s _ _ w hr hc (load_f l hb hl a s 9 (Nat.le_refl _))
theorem store_any (P : Nat → Prop) (u : Value) (l : List Int) (a s n : Int) (w0 w : World) (hB : Below w0.heap.size w0 w) (ho : Kd.R (Kd.int .u8) 5 w w0.heap.size P u l) (hl : l.length < 4611686018427387904) :
    Calls Try.prog 28 #[u, .int .i64 a, .int .i64 s, .int .u64 n] w fun e w' => e = .returned (.bool (storeV l a s n).1) ∧ Kd.R (Kd.int .u8) 5 w' w0.heap.size (fun k_ => (P k_ ∨ w.heap.size ≤ k_)) u (storeV l a s n).2 ∧ Below w0.heap.size w0 w' ∧ Kept w w' (fun k_ => P k_) :=
  wire_Store.calls 10 P u l a s n _ _ w0 w hB ho (store_f l hl a s n 9 (Nat.le_refl _))

theorem load_eq (A : Option Addr) (c : Nat) (l : List Int) (m : Nat) (hm : l.length = m) (a s x : Int) (ok : Bool) (w : World) (hr : Kd.C (Kd.int .u8) w A l.length l) (hc : m ≤ c) (hb : ∀ x ∈ l, 0 ≤ x ∧ x < 256) (hl : m < 4611686018427387904) (hx : loadV l a s = (x, ok)) :
    Calls Try.prog 29 #[.slice A m c, .int .i64 a, .int .i64 s] w fun e w' => e = .returned (.tuple #[.int .u64 x, .bool ok]) ∧ Drawn0 w w' := by
  subst hm
  have h := load_any A c l a s w hr hc hb hl
  rw [hx] at h
  exact h

/-- A slice of bytes cut at its end, and at its begin: the run, and what is read then. -/
theorem cut_take (A : Option Addr) (c : Nat) (L : List Int) (m : Nat) (hm : L.length = m) (a : Nat) (y : List Int) (hy : L.take a = y) (ha : a ≤ m) (hc : m ≤ c) :
    (∀ W : World, (Instr.slice 23 (.slice A m c) none (some (.int .i64 (a : Int))) none).run Try.prog W = .ok (.slice A y.length c) W) ∧
      (∀ w : World, Kd.C (Kd.int .u8) w A L.length L → Kd.C (Kd.int .u8) w A y.length y) ∧ y.length ≤ c := by
  subst hm hy
  obtain ⟨i0, hi, _, hsz, _⟩ := info_parts info5
  obtain ⟨h1, h2, h3⟩ := print_take_of (P := Try.prog) (Value.int .u8) (0 : Int) 23 5 .i64 Try.underlying23 hi hsz A c L (a : Int) (by omega) (by omega) hc
  exact ⟨h1, fun w hr => Kd.C_of_reads (h1 := fun _ => rfl) (h2 w (Kd.reads_of_C hr)), h3⟩
theorem cut_drop (A : Option Addr) (c : Nat) (L : List Int) (m : Nat) (hm : L.length = m) (a : Nat) (j : Int) (hj : (a : Int) = j) (y : List Int) (hy : L.drop a = y) (ha : a ≤ m) (hc : m ≤ c) :
    ∃ (A' : Option Addr) (c' : Nat), (∀ W : World, (Instr.slice 23 (.slice A m c) (some (.int .i64 j)) none none).run Try.prog W = .ok (.slice A' y.length c') W) ∧
      (∀ w : World, Kd.C (Kd.int .u8) w A L.length L → Kd.C (Kd.int .u8) w A' y.length y) ∧ y.length ≤ c' := by
  subst hm hy hj
  obtain ⟨i0, hi, _, hsz, _⟩ := info_parts info5
  obtain ⟨A', h1, h2, h3⟩ := print_drop_of (P := Try.prog) (Value.int .u8) (0 : Int) 23 5 .i64 Try.underlying23 hi hsz A c L (a : Int) (by omega) (by omega) hc
  exact ⟨A', _, h1, fun w hr => Kd.C_of_reads (h1 := fun _ => rfl) (h2 w (Kd.reads_of_C hr)), h3⟩

/-- What stands at the head of a round: the place, and the four sizes. -/
def BackRound (w : World) (g : Nat) (v : Value) (wr : World) : Prop :=
  ∃ i : Nat, v = .int .i64 i ∧ i ≤ 4 ∧ Below w.heap.size w wr ∧ wr.cell? ⟨g, 0, none⟩ = some (.int .i64 1) ∧ wr.cell? ⟨g, 1, none⟩ = some (.int .i64 2) ∧ wr.cell? ⟨g, 2, none⟩ = some (.int .i64 4) ∧ wr.cell? ⟨g, 3, none⟩ = some (.int .i64 8)

attribute [local go_sem] max2_int min2_int max_two min_two
set_option maxHeartbeats 12800000 in
set_option maxRecDepth 100000 in
theorem back_any (A : Option Addr) (c : Nat) (l : List Int) (at_ n : Int) (w : World) (ha : -9223372036854775808 ≤ at_ ∧ at_ < 9223372036854775808) (hn : 0 ≤ n ∧ n < 18446744073709551616)
    (hr : Kd.C (Kd.int .u8) w A l.length l) (hc : l.length ≤ c) (hb : ∀ x ∈ l, 0 ≤ x ∧ x < 256) (h1000 : l.length ≤ 1000) :
    Calls Try.prog 7 #[.slice A l.length c, .int .i64 at_, .int .u64 n] w fun e w' => e = .returned (.bool true) ∧ Below w.heap.size w w' := by
  have HR := Aside0.mk hr
  have HC := Aside0.mk hc
  have HY := Aside0.mk hb
  have HL := Aside0.mk h1000
  have HA := Aside0.mk ha
  have HN := Aside0.mk hn
  have d0 : decide ((1000 : Int) < (l.length : Int)) = false := decide_eq_false (by omega)
  have d0' : decide (1000 < l.length) = false := decide_eq_false (by omega)
  clear hr hc hb h1000 ha hn
  go_enter Try.func7, Try.ntmps7
  go_wp2_with (first
    | (go_at_call 22; refine (awake01 _).mono ?_; rintro e w1 ⟨rfl, hb1⟩; have HB1 := Aside0.mk hb1; clear hb1))
  obtain ⟨wb, hwb⟩ : ∃ wb, wb = w1.alloc (.cells #[.int .i64 1, .int .i64 2, .int .i64 4, .int .i64 8] 3) := ⟨_, rfl⟩
  obtain ⟨g, hg⟩ : ∃ g, g = w1.heap.size := ⟨_, rfl⟩
  have c0 : wb.cell? ⟨g, 0, none⟩ = some (.int .i64 1) := by subst hwb hg; simp
  have c1 : wb.cell? ⟨g, 1, none⟩ = some (.int .i64 2) := by subst hwb hg; simp
  have c2 : wb.cell? ⟨g, 2, none⟩ = some (.int .i64 4) := by subst hwb hg; simp
  have c3 : wb.cell? ⟨g, 3, none⟩ = some (.int .i64 8) := by subst hwb hg; simp
  have hB2 : Below w.heap.size w wb := by subst hwb; exact below_alloc HB1.out _
  rw [← hwb, ← hg]
  have HST := Aside0.mk (show BackRound w g (.int .i64 0) wb from ⟨0, rfl, by omega, hB2, c0, c1, c2, c3⟩)
  clear c0 c1 c2 c3 hB2 hwb hg
  go_loopw [19] (fun v19 wr => BackRound w g v19 wr) (fun v19 _ => 4 - (intOf v19).toNat)
  case atStart => exact HST.out
  case round =>
    obtain ⟨i, rfl, hi, hbr, c0, c1, c2, c3⟩ := hrel
    have HI := Aside0.mk hi
    have HB := Aside0.mk hbr
    have HR1 := Aside0.mk (Kd.C_below HR.out hbr)
    clear hbr
    have HCS := Aside0.mk (And.intro c0 (And.intro c1 (And.intro c2 c3)))
    by_cases hlt : i < 4
    · obtain ⟨s, hs, hcell⟩ : ∃ s : Int, (s = 1 ∨ s = 2 ∨ s = 4 ∨ s = 8) ∧ wr.cell? ⟨g, i, none⟩ = some (.int .i64 s) := by
        match i, hlt with
        | 0, _ => exact ⟨1, by simp, c0⟩
        | 1, _ => exact ⟨2, by simp, c1⟩
        | 2, _ => exact ⟨4, by simp, c2⟩
        | 3, _ => exact ⟨8, by simp, c3⟩
      clear c0 c1 c2 c3
      have FIN : Aside0 (∀ W, Below wr.heap.size wr W → BackRound w g (.int .i64 ((i : Int) + 1)) W) := ⟨fun W hW =>
        ⟨i + 1, by go_num, by omega, below_then HB.out HB.out.size hW, pw_cell_below hW HCS.out.1, pw_cell_below hW HCS.out.2.1, pw_cell_below hW HCS.out.2.2.1, pw_cell_below hW HCS.out.2.2.2⟩⟩
      have hs8 : 1 ≤ s ∧ s ≤ 8 := by omega
      have hsz : sizedB s = true := by unfold sizedB; rcases hs with rfl | rfl | rfl | rfl <;> rfl
      by_cases hin : withinB l.length at_ s = true
      · obtain ⟨a0, _, hle⟩ := (withinB_iff _ _ _).1 hin
        obtain ⟨a, rfl⟩ := Int.eq_ofNat_of_zero_le a0
        obtain ⟨s', hs'⟩ : ∃ s' : Nat, s' = s.toNat := ⟨_, rfl⟩
        have hss : (s' : Int) = s := by omega
        obtain ⟨bs, hbs⟩ : ∃ bs, bs = leB n s' := ⟨_, rfl⟩
        have hbl : bs.length = s' := by rw [hbs, leB_length]
        have hV : storeV l (a : Int) s n = (true, put_ l a bs) := by
          unfold storeV put_; rw [hsz, hin]; simp only [Bool.and_self, if_true, Int.toNat_natCast]; rw [hbl, hbs, ← hs']
        have hple : a + bs.length ≤ l.length := by omega
        obtain ⟨L2, hL2⟩ : ∃ L2, L2 = put_ l a bs := ⟨_, rfl⟩
        have q1 : L2.length = l.length := by rw [hL2]; exact put_length l a bs hple
        obtain ⟨ya, hya⟩ : ∃ y, y = l.take a := ⟨_, rfl⟩
        obtain ⟨yb, hyb⟩ : ∃ y, y = l.drop (a + s') := ⟨_, rfl⟩
        have q2 : L2.take a = ya := by rw [hL2, hya]; exact put_take l a bs hple
        have q3 : L2.drop (a + s') = yb := by rw [hL2, hyb, ← hbl]; exact put_drop l a bs hple
        have q4 : ∀ x ∈ L2, 0 ≤ x ∧ x < 256 := by rw [hL2]; exact put_bytes l a bs HY.out (by rw [hbs]; exact leB_bound n s')
        have hX : ∃ x : Int, loadV L2 (a : Int) s = (x, true) ∧ (s = 1 → x = Go.bits .and .u64 n 255) ∧ (s = 2 → x = Go.bits .and .u64 n 65535) ∧ (s = 4 → x = Go.bits .and .u64 n 4294967295) ∧ (s = 8 → n = x) := by
          refine ⟨n % 256 ^ s', ?_, ?_, ?_, ?_, ?_⟩
          · unfold loadV; rw [hsz, q1, hin]; simp only [Bool.and_self, if_true, Int.toNat_natCast]
            rw [hL2, ← hs']; have := put_mid l a bs hple; rw [hbl] at this; rw [this, hbs, leN_leB]
          · rintro rfl; rw [hs']; exact (U.and_u64 8 (by decide) n HN.out.1 HN.out.2).symm
          · rintro rfl; rw [hs']; exact (U.and_u64 16 (by decide) n HN.out.1 HN.out.2).symm
          · rintro rfl; rw [hs']; exact (U.and_u64 32 (by decide) n HN.out.1 HN.out.2).symm
          · rintro rfl; rw [hs']; exact (Int.emod_eq_of_lt HN.out.1 HN.out.2).symm
        have hLn : l.length ≤ 1000 := HL.out
        have HQ1 := Aside0.mk q1
        have HQ2 := Aside0.mk q2
        have HQ3 := Aside0.mk q3
        have HQ4 := Aside0.mk q4
        have HYA := Aside0.mk hya
        have HYB := Aside0.mk hyb
        have HSS := Aside0.mk hss
        have HVV : Aside0 (storeV l (a : Int) s n = (true, L2)) := ⟨by rw [hL2]; exact hV⟩
        have HPL : Aside0 (a + s' ≤ l.length) := ⟨by omega⟩
        clear hV hya hyb q1 q2 q3 q4 hL2 hsz hin hbs hple hbl hss hs'
        rcases hs with rfl | rfl | rfl | rfl
        all_goals
          obtain ⟨x, hx, x1, x2, x4, x8⟩ := hX
          have HX := Aside0.mk hx
          clear hx
          first | obtain rfl := x1 rfl | obtain rfl := x2 rfl | obtain rfl := x4 rfl | obtain rfl := x8 rfl
          clear x1 x2 x4 x8
          go_wp2_with (first
            | ((with_reducible refine gate_dst (N := 23) rfl ?_); refine Kd.R_lit (Kd.int .u8) _ 5 ?hg (N := 23) ?hd (xs := ([] : List Int)) (inner := []) (ok := fun _ => True) (okp := fun _ => True) ?hr ?hp (fun _ hk => hk) trivial (Below.refl _ _) (Nat.le_refl _) (by simp) ?_; (case hd => rfl); (case hg => rfl); (case hr => first | (go_simp; done) | (go_simp; rfl)); (case hp => exact (Reps.none _ _)); intro v23 w20 ho20 hb20 hg_ hnew_; clear hg_ hnew_; have HO20 := Aside0.mk ho20; have HB20 := Aside0.mk hb20; clear ho20 hb20)
            | ((with_reducible refine gate_builtin (b := .append) (xs := #[.tmp 23, .tmp 24]) rfl ?_); at_builtin; refine Kd.R_append_rows (Kd.int .u8) (w0 := wr) wr.heap.size rfl (.tmp 23) (.tmp 24) 23 5 (.int .u8 0) 1 rfl Try.underlying23 info5 rfl (by decide) (by omega) v23 [] l _ _ _ (fun _ => True) (fun _ => False) rfl rfl HO20.out (Kd.C_below HR1.out HB20.out) (fun _ _ h => h) (fun _ h => h.elim) (fun _ _ => trivial) HB20.out HB20.out.size (by have := HL.out; simp; omega) ?_; intro v25 w22 ho hb hg hat; clear hg hat; rw [List.nil_append] at ho; obtain ⟨A2, c2, rfl⟩ := Kd.R_slice ho; have HO22 := Aside0.mk ho; have HB22 := Aside0.mk hb; clear ho hb)
            | (go_at_call 28; (with_reducible refine (store_any (fun _ => True) _ l _ _ n wr _ HB22.out HO22.out (by have := HL.out; omega)).mono ?_); rw [HVV.out]; rintro e w24 ⟨rfl, ho, hb, _⟩; have HO24 := Aside0.mk ho; have HB24 := Aside0.mk hb; clear ho hb
               have hR := Kd.R_reads' HO24.out
               obtain ⟨t1, t2, t3⟩ := cut_take A2 c2 L2 l.length HQ1.out a ya HQ2.out (by have := HPL.out; omega) hR.2.1
               obtain ⟨t4, t5, t6⟩ := cut_take A c l l.length rfl a ya HYA.out.symm (by have := HPL.out; omega) HC.out
               obtain ⟨A3, c3, t7, t8, t9⟩ := cut_drop A2 c2 L2 l.length HQ1.out _ _ (by rw [Int.natCast_add, HSS.out]) yb HQ3.out HPL.out hR.2.1
               obtain ⟨A4, c4, u1, u2, u3⟩ := cut_drop A c l l.length rfl _ _ (by rw [Int.natCast_add, HSS.out]) yb HYB.out.symm HPL.out HC.out
               have T1 := Aside0.mk (t2 _ hR.2.2)
               have T2 := Aside0.mk (t5 _ (Kd.C_below HR1.out HB24.out))
               have T3 := Aside0.mk (t8 _ hR.2.2)
               have T4 := Aside0.mk (u2 _ (Kd.C_below HR1.out HB24.out))
               clear t2 t3 t5 t6 t8 t9 u2 u3
               have HR24 := Aside0.mk hR
               clear hR)
            | (go_at_call 29; (with_reducible refine (load_eq A2 c2 L2 l.length HQ1.out _ _ _ true w24 HR24.out.2.2 HR24.out.2.1 HQ4.out (by have := HL.out; omega) HX.out).mono ?_); rintro e w25 ⟨rfl, ⟨nd, rfl⟩⟩
               have v1 : ∀ m : Nat, (convert 23 9 (.slice A2 ya.length c2)).run Try.prog (w24.drewN m) = .ok (.string (strOfNums ya)) (w24.drewN m) := fun m => Kd.C_string (P := Try.prog) Try.underlying23 Try.underlying5 Try.underlying9 (Kd.C_drewN T1.out m)
               have v2 : ∀ m : Nat, (convert 23 9 (.slice A ya.length c)).run Try.prog (w24.drewN m) = .ok (.string (strOfNums ya)) (w24.drewN m) := fun m => Kd.C_string (P := Try.prog) Try.underlying23 Try.underlying5 Try.underlying9 (Kd.C_drewN T2.out m)
               have v3 : ∀ m : Nat, (convert 23 9 (.slice A3 yb.length c3)).run Try.prog (w24.drewN m) = .ok (.string (strOfNums yb)) (w24.drewN m) := fun m => Kd.C_string (P := Try.prog) Try.underlying23 Try.underlying5 Try.underlying9 (Kd.C_drewN T3.out m)
               have v4 : ∀ m : Nat, (convert 23 9 (.slice A4 yb.length c4)).run Try.prog (w24.drewN m) = .ok (.string (strOfNums yb)) (w24.drewN m) := fun m => Kd.C_string (P := Try.prog) Try.underlying23 Try.underlying5 Try.underlying9 (Kd.C_drewN T4.out m)))
          have b1 : (a : Int) ≤ (l.length : Int) := by have := HPL.out; omega
          have m8 : IntKind.i64.wrap 8 = 8 := by decide +kernel
          have m16 : IntKind.i64.wrap 16 = 16 := by decide +kernel
          have m32 : IntKind.i64.wrap 32 = 32 := by decide +kernel
          have k8' : IntKind.u64.wrap 256 = 256 := by decide +kernel
          have k16' : IntKind.u64.wrap 65536 = 65536 := by decide +kernel
          have k32' : IntKind.u64.wrap 4294967296 = 4294967296 := by decide +kernel
          have k8 : IntKind.u64.wrap 255 = 255 := by decide +kernel
          have k16 : IntKind.u64.wrap 65535 = 65535 := by decide +kernel
          have k32 : IntKind.u64.wrap 4294967295 = 4294967295 := by decide +kernel
          have w1 : IntKind.i64.wrap ((a : Int) + 1) = (a : Int) + 1 := IntWalk.i64_in _ (by omega)
          have w2 : IntKind.i64.wrap ((a : Int) + 2) = (a : Int) + 2 := IntWalk.i64_in _ (by omega)
          have w4 : IntKind.i64.wrap ((a : Int) + 4) = (a : Int) + 4 := IntWalk.i64_in _ (by omega)
          have w8 : IntKind.i64.wrap ((a : Int) + 8) = (a : Int) + 8 := IntWalk.i64_in _ (by omega)
          have n1 : (Go.bits .and .u64 n 255 != Go.bits .and .u64 n 255) = false := bne_self_eq_false _
          have n2 : (Go.bits .and .u64 n 65535 != Go.bits .and .u64 n 65535) = false := bne_self_eq_false _
          have n4 : (Go.bits .and .u64 n 4294967295 != Go.bits .and .u64 n 4294967295) = false := bne_self_eq_false _
          have n8 : (n != n) = false := bne_self_eq_false _
          have z1 : ((strOfNums ya).toList != (strOfNums ya).toList) = false := bne_self_eq_false _
          have z2 : ((strOfNums yb).toList != (strOfNums yb).toList) = false := bne_self_eq_false _
          go_quiet (fail)
          go_wp2
          go_roundw
          case rel => exact FIN.out _ (pw_below_drewN HB24.out _)
          case measure => simp [intOf]; omega
      · have hV : storeV l at_ s n = (false, l) := by unfold storeV; simp [hin]
        have tri : at_ < 0 ∨ (0 ≤ at_ ∧ (l.length : Int) ≤ at_) ∨ (0 ≤ at_ ∧ at_ < (l.length : Int) ∧ (l.length : Int) - at_ < s) := by
          by_cases q0 : at_ < 0
          · exact .inl q0
          by_cases q1 : (l.length : Int) ≤ at_
          · exact .inr (.inl ⟨by omega, q1⟩)
          · refine .inr (.inr ⟨by omega, by omega, ?_⟩)
            apply Int.lt_of_not_ge; intro q2
            exact hin (by unfold withinB; simp; omega)
        have hLn : l.length ≤ 1000 := HL.out
        have hAn := HA.out
        rcases tri with q0 | ⟨q0, q1⟩ | ⟨q0, q1, q2⟩
        all_goals
          go_wp2_with (first
            | ((with_reducible refine gate_dst (N := 23) rfl ?_); refine Kd.R_lit (Kd.int .u8) _ 5 ?hg (N := 23) ?hd (xs := ([] : List Int)) (inner := []) (ok := fun _ => True) (okp := fun _ => True) ?hr ?hp (fun _ hk => hk) trivial (Below.refl _ _) (Nat.le_refl _) (by simp) ?_; (case hd => rfl); (case hg => rfl); (case hr => first | (go_simp; done) | (go_simp; rfl)); (case hp => exact (Reps.none _ _)); intro v23 w20 ho20 hb20 hg_ hnew_; clear hg_ hnew_; have HO20 := Aside0.mk ho20; have HB20 := Aside0.mk hb20; clear ho20 hb20)
            | ((with_reducible refine gate_builtin (b := .append) (xs := #[.tmp 23, .tmp 24]) rfl ?_); at_builtin; refine Kd.R_append_rows (Kd.int .u8) (w0 := wr) wr.heap.size rfl (.tmp 23) (.tmp 24) 23 5 (.int .u8 0) 1 rfl Try.underlying23 info5 rfl (by decide) (by omega) v23 [] l _ _ _ (fun _ => True) (fun _ => False) rfl rfl HO20.out (Kd.C_below HR1.out HB20.out) (fun _ _ h => h) (fun _ h => h.elim) (fun _ _ => trivial) HB20.out HB20.out.size (by have := HL.out; simp; omega) ?_; intro v25 w22 ho hb hg hat; clear hg hat; rw [List.nil_append] at ho; obtain ⟨A2, c2, rfl⟩ := Kd.R_slice ho; have HO22 := Aside0.mk ho; have HB22 := Aside0.mk hb; clear ho hb)
            | (go_at_call 28; (with_reducible refine (store_any (fun _ => True) _ l at_ s n wr _ HB22.out HO22.out (by have := HL.out; omega)).mono ?_); rw [hV]; rintro e w24 ⟨rfl, ho, hb, _⟩; have HO24 := Aside0.mk ho; have HB24 := Aside0.mk hb; clear ho hb; have hs1 := Kd.C_string (P := Try.prog) (A := A2) (c := c2) Try.underlying23 Try.underlying5 Try.underlying9 (Kd.R_reads' HO24.out).2.2; have hs2 := Kd.C_string (P := Try.prog) (A := A) (c := c) Try.underlying23 Try.underlying5 Try.underlying9 (Kd.C_below HR1.out HB24.out)))
          go_roundw
          case rel => exact FIN.out _ HB24.out
          case measure => simp [intOf]; omega
    · have hi4 : i = 4 := by omega
      subst hi4
      clear c0 c1 c2 c3
      go_wp2
      go_ret
      exact ⟨rfl, HB.out⟩

set_option maxHeartbeats 1600000 in
theorem back_large (A : Option Addr) (c : Nat) (l : List Int) (at_ n : Int) (w : World) (h1000 : 1000 < l.length) :
    Calls Try.prog 7 #[.slice A l.length c, .int .i64 at_, .int .u64 n] w fun e w' => e = .returned (.bool true) ∧ Below w.heap.size w w' := by
  have d0 : decide ((1000 : Int) < (l.length : Int)) = true := decide_eq_true (by omega)
  have d0' : decide (1000 < l.length) = true := decide_eq_true (by omega)
  clear h1000
  go_enter Try.func7, Try.ntmps7
  go_wp2_with (first
    | (go_at_call 22; refine (awake01 _).mono ?_; rintro e w1 ⟨rfl, hb1⟩; have HB1 := Aside0.mk hb1; clear hb1))
  go_ret
  exact ⟨rfl, HB1.out⟩

theorem bytes_wf {l : List Int} (h : ∀ x ∈ l, (Lit.int .u8 x).wf = true) : ∀ x ∈ l, 0 ≤ x ∧ x < 256 := fun x hx => U.wf_u8 (h x hx)

theorem WireBack_walk (a0 : Option Addr) (len0 cap0 : Nat) (z0 : List Int) (a1 a2 : Int) (w : World)
    (w0 : (a0 = none ∧ len0 = 0 ∧ cap0 = 0 ∧ z0 = []) ∨ ∃ x, a0 = some x ∧ len0 ≤ cap0 ∧ cap0 ≤ maxLen ∧ z0.length = cap0 ∧ (∀ i, i < z0.length → w.cell? (x.add i) = some (.int .u8 (z0.getD i 0))) ∧ ∀ n ∈ z0, (Lit.int .u8 n).wf = true)
    (y0 : len0 * 1 ≤ 140737488351232) (w1 : (Lit.int .i64 a1).wf = true) (w2 : (Lit.int .u64 a2).wf = true) :
    Calls Try.prog 7 #[.slice a0 len0 cap0, .int .i64 a1, .int .u64 a2] w fun e w' => e = .returned (.bool true) ∧ Below w.heap.size w w' := by
  obtain ⟨l, rfl, hr, hm, hw, hc⟩ := ReadsInt.ofRowC w0
  by_cases h : l.length ≤ 1000
  · exact back_any _ _ l a1 a2 w (U.wf_i64 w1) (U.wf_u64 w2) (Kd.C_of_reads (d := (0 : Int)) (h1 := fun _ => rfl) hr) hc (bytes_wf hw) h
  · exact back_large _ _ l a1 a2 w (by omega)

end Go.Proofs.Ytgabfoafchnpiaa.Hand
