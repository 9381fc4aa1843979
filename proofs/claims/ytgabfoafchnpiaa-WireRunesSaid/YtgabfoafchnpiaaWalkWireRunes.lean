/- WireRunes: the walk of the law of runes as bytes. -/
import Derived.Test.YtgabfoafchnpiaaWalkRunes0
namespace Go.Proofs.Ytgabfoafchnpiaa.Hand
open Go.RowKit Go.Proofs.Ytgabfoafchnpiaa.QAll Go.Proofs.YtgabfoafchnpiaaW.PrintWords Go.Proofs.YtgabfoafchnpiaaW.PrintLast Go.Proofs.YtgabfoafchnpiaaW.PrintMore Go.Proofs.Ytgabfoafchnpiaa.Nums Go.Proofs.Ytgabfoafchnpiaa.Runes
set_option linter.unusedVariables false
set_option linter.unusedSimpArgs false

/-- A call of Utf8, with the place told. -/
theorem utf8_any (A : Option Addr) (c : Nat) (l : List Int) (n : Nat) (hn : l.length = n) (x : Int) (w : World) (hr : Kd.C (Kd.int .u8) w A l.length l) (hc : n ≤ c) (h : wire_Utf8.f 150 l = some x) :
    Calls Try.prog 23 #[.slice A n c] w fun e w' => e = .returned (.int .i64 x) ∧ Drawn0 w w' := by
  subst hn
  exact wire_Utf8.calls 150 A c l x w hr hc h

def RuneRound (n : Nat) (w1 w2 : World) (v : Value) (wr : World) : Prop := ∃ i : Nat, v = .int .i64 i ∧ 1 ≤ i ∧ i ≤ n ∧ Below w2.heap.size w2 wr

attribute [local go_sem] max2_int min2_int max_two min_two
set_option maxHeartbeats 3200000 in
set_option maxRecDepth 100000 in
theorem runes_good (A : Option Addr) (c : Nat) (l : List Int) (r q : Int) (w : World) (hq : Go.bits .and .i32 r 2097151 = q) (h0 : 0 ≤ q) (h1 : q ≤ 1114111) (h2 : q < 55296 ∨ 57343 < q)
    (hr : Kd.C (Kd.int .u8) w A l.length l) (hc : l.length ≤ c) (h100 : l.length ≤ 100) :
    Calls Try.prog 5 #[.int .i32 r, .slice A l.length c] w fun e w' => e = .returned (.bool true) ∧ Below w.heap.size w w' := by
  have HR := Aside0.mk hr
  have HC := Aside0.mk hc
  have d0 : decide ((100 : Int) < (l.length : Int)) = false := decide_eq_false (by omega)
  have d0' : decide (100 < l.length) = false := decide_eq_false (by omega)
  have dq : decide ((1114111 : Int) < q) = false := decide_eq_false (by omega)
  have dq2 : (decide ((55296 : Int) ≤ q) && decide (q < 57344)) = false := by simp; omega
  obtain ⟨s, hs⟩ : ∃ s, Utf8.encode q = s := ⟨_, rfl⟩
  have hs4 : s.size ≤ 4 := by rw [← hs]; exact encode_small q
  have hbs : bytesOf s = enc q := by rw [← hs]; exact enc_bytes q h0 h1 h2
  obtain ⟨L, hL⟩ : ∃ L, enc q = L := ⟨_, rfl⟩
  have hL1 := enc_pos q
  have HCUT := Aside0.mk (fun i a b => enc_cut q h0 h1 i a b)
  have HSGN := Aside0.mk (enc_sign q h0 h1 h2)
  rw [hL] at hbs hL1 HCUT HSGN
  have HL1 := Aside0.mk hL1
  have H100 := Aside0.mk h100
  have vq : ∀ W : World, (convert 21 9 (.int .i32 q)).run Try.prog W = .ok (.string s) W := fun W => by rw [run_convert_int_string W 21 9 .i32 q (by rw [Try.underlying21]; rfl) Try.underlying9, hs]
  clear hr hc hL hL1 h100 hs
  have h55 : (decide (q ≥ 55296) = true → decide (q < 57344) = false) := by simp; omega
  go_enter Try.func5, Try.ntmps5
  go_upto_region 6 with (first
    | (go_at_call 22; refine (awake01 _).mono ?_; rintro e w1 ⟨rfl, hb1⟩; have HB1 := Aside0.mk hb1; clear hb1))
  obtain ⟨cap, w2, hcv, hcr, hcc, hcb, hcl⟩ := to_bytes s hs4 w1
  have HCR := Aside0.mk hcr
  have HCC := Aside0.mk hcc
  have HCB := Aside0.mk hcb
  rw [hbs] at HCR hcl
  rw [← hcl] at HCR HCC hcv
  have HSL := Aside0.mk hcl
  clear hcr hcc hcb hcl hs4
  have two : (decide ((55296 : Int) ≤ q) = false) ∨ (decide ((55296 : Int) ≤ q) = true ∧ decide (q < (57344 : Int)) = false) := by simp; omega
  have HQ2 := Aside0.mk h2
  have HQ3 := Aside0.mk (And.intro h0 h1)
  clear h0 h1 h2 dq2 h55 hbs
  have key : ∀ wr : World, True := fun _ => trivial
  rcases two with p1 | ⟨p1, p2⟩
  all_goals
    go_wp2
    go_loopw [7] (fun v7 wr => RuneRound L.length w1 w2 v7 wr) (fun v7 _ => L.length - (intOf v7).toNat)
    case atStart => exact ⟨1, rfl, Nat.le_refl _, HL1.out.1, Below.refl _ _⟩
    case round =>
      obtain ⟨i, rfl, i1, iL, hb⟩ := hrel
      have HI := Aside0.mk (And.intro i1 iL)
      have HB := Aside0.mk hb
      have HBR := Aside0.mk (below_then (below_then HB1.out HB1.out.size HCB.out) (Nat.le_trans HB1.out.size HCB.out.size) hb)
      clear hb i1 iL
      by_cases hlt : i < L.length
      · obtain ⟨y, hy⟩ : ∃ y, L.take i = y := ⟨_, rfl⟩
        obtain ⟨z, hz⟩ : ∃ z, L.drop i = z := ⟨_, rfl⟩
        obtain ⟨t1, t2, t3⟩ := cut_take _ cap L L.length rfl i y hy HI.out.2 HCC.out
        obtain ⟨A6, c6, s1, s2, s3⟩ := cut_drop (some ⟨w1.heap.size, 0, none⟩) cap L L.length rfl i (i : Int) rfl z hz HI.out.2 HCC.out
        have yl : y.length = i := by rw [← hy, List.length_take]; omega
        have zl : z.length = L.length - i := by rw [← hz, List.length_drop]
        have HY := Aside0.mk (show wire_Utf8.f 150 y = some 0 by
          rw [utf8_f y 111 150 (by have := HL1.out; omega) (by have := HL1.out; omega) (by omega), U_bad y 110 (by intro h; rw [h] at yl; have := HI.out; simp at yl; omega) (by rw [← hy]; exact (HCUT.out i HI.out.1 hlt).1)]; rfl)
        have HZ := Aside0.mk (show wire_Utf8.f 150 z = some 0 by
          rw [utf8_f z 111 150 (by have := HL1.out; omega) (by have := HL1.out; omega) (by omega), U_bad z 110 (by intro h; rw [h] at zl; simp at zl; omega) (by rw [← hz]; exact (HCUT.out i HI.out.1 hlt).2)]; rfl)
        have HT2 := Aside0.mk (t2 wr (Kd.C_below HCR.out HB.out))
        have HS2 := Aside0.mk (s2 wr (Kd.C_below HCR.out HB.out))
        have HT3 := Aside0.mk t3
        have HS3 := Aside0.mk s3
        have d1 : decide ((i : Int) < (L.length : Int)) = true := decide_eq_true (by omega)
        have d2 : decide (i < L.length) = true := decide_eq_true hlt
        have wi : IntKind.i64.wrap ((i : Int) + 1) = (i : Int) + 1 := by rw [IntKind.wrap_i64]; have := HL1.out; omega
        clear t2 t3 s2 s3 hy hz yl zl
        go_wp2_with (first
          | (go_at_call 23; (with_reducible refine (utf8_any _ _ y _ rfl 0 _ HT2.out HT3.out HY.out).mono ?_); rintro e w3 ⟨rfl, ⟨nd, rfl⟩⟩)
          | (go_at_call 23; (with_reducible refine (utf8_any _ _ z _ rfl 0 _ (Kd.C_drewN HS2.out _) HS3.out HZ.out).mono ?_); rintro e w4 ⟨rfl, ⟨nd2, rfl⟩⟩))
        go_roundw
        case rel => exact ⟨i + 1, by go_num, by omega, by omega, pw_below_drewN HB.out _⟩
        case measure => simp [intOf]; omega
      · have d1 : decide ((i : Int) < (L.length : Int)) = false := decide_eq_false (by omega)
        have d2 : decide (i < L.length) = false := decide_eq_false hlt
        have HU1 := utf8_f (L ++ l) 111 150 (by have := HL1.out; have := H100.out; simp; omega) (by have := HL1.out; have := H100.out; simp; omega) (by omega)
        rw [U_sign L l 110 (by intro h; have := HL1.out; rw [h] at this; simp at this) (HSGN.out l)] at HU1
        have HU2 := utf8_f l 110 150 (by have := H100.out; omega) (by have := H100.out; omega) (by omega)
        have hp := U_lt 110 l
        obtain ⟨Z, hZ⟩ : ∃ Z, L ++ l = Z := ⟨_, rfl⟩
        rw [hZ] at HU1
        cases hu : U 110 l with
        | none =>
          rw [hu] at HU1 HU2
          replace HU1 : Aside0 (wire_Utf8.f 150 Z = some (-1)) := ⟨HU1⟩
          replace HU2 : Aside0 (wire_Utf8.f 150 l = some (-1)) := ⟨HU2⟩
          clear hp hu
          go_wp2_with (first
            | ((with_reducible refine gate_dst (N := 90) rfl ?_); refine Kd.R_lit (Kd.int .u8) _ 5 ?hg (N := 90) ?hd (xs := ([] : List Int)) (inner := []) (ok := fun _ => True) (okp := fun _ => True) ?hr ?hp (fun _ hk => hk) trivial (Below.refl _ _) (Nat.le_refl _) (by simp) ?_; (case hd => rfl); (case hg => rfl); (case hr => first | (go_simp; done) | (go_simp; rfl)); (case hp => exact (Reps.none _ _)); intro v90 w20 ho_ hb_ hg_ hnew_; clear hg_ hnew_; have HO90 := Aside0.mk (Kd.R_lower ho_ (Below.refl wr.heap.size wr).size); have HB90 := Aside0.mk (below_then (Below.refl wr.heap.size wr) (Below.refl wr.heap.size wr).size hb_); clear ho_ hb_)
            | ((with_reducible refine gate_builtin (b := .append) (xs := #[.tmp 90, .tmp 91]) rfl ?_); at_builtin; refine Kd.R_append_rows (Kd.int .u8) (w0 := wr) wr.heap.size rfl (.tmp 90) (.tmp 91) 23 5 (.int .u8 0) 1 rfl Try.underlying23 info5 rfl (by decide) (by omega) v90 [] L _ _ _ (fun _ => True) (fun _ => False) rfl rfl HO90.out (Kd.C_below HCR.out (below_then HB.out HB.out.size HB90.out)) (fun _ _ h => h) (fun _ h => h.elim) (fun _ _ => trivial) HB90.out HB90.out.size (by have := HL1.out; simp; omega) ?_; intro v_ w22 ho_ hb_ hg_ hat_; clear hg_ hat_; rw [List.nil_append] at ho_; obtain ⟨A2, c2, rfl⟩ := Kd.R_slice ho_; have HO91 := Aside0.mk ho_; have HB91 := Aside0.mk hb_; clear ho_ hb_)
            | ((with_reducible refine gate_builtin (b := .append) (xs := #[.tmp 92, .tmp 93]) rfl ?_); at_builtin; refine Kd.R_append_rows (Kd.int .u8) (w0 := wr) wr.heap.size rfl (.tmp 92) (.tmp 93) 23 5 (.int .u8 0) 1 rfl Try.underlying23 info5 rfl (by decide) (by omega) _ L l _ _ _ (fun _ => True) (fun _ => False) rfl rfl HO91.out (Kd.C_below HR.out (below_then HBR.out HBR.out.size HB91.out)) (fun _ _ h => h) (fun _ h => h.elim) (fun _ _ => trivial) HB91.out HB91.out.size (by have := HL1.out; have := H100.out; simp; omega) ?_; intro v_ w23 ho_ hb_ hg_ hat_; clear hg_ hat_; rw [hZ] at ho_; obtain ⟨A3, c3, rfl⟩ := Kd.R_slice ho_; have HO92 := Aside0.mk ho_; have HB92 := Aside0.mk hb_; have HBW := Aside0.mk (below_then HBR.out HBR.out.size hb_); clear ho_ hb_)
            | (go_at_call 23; (with_reducible refine (utf8_any _ _ Z _ rfl _ _ (Kd.R_reads' HO92.out).2.2 (Kd.R_reads' HO92.out).2.1 HU1.out).mono ?_); rintro e w24 ⟨rfl, ⟨nd, rfl⟩⟩)
            | (go_at_call 23; (with_reducible refine (utf8_any _ _ l _ rfl _ _ (Kd.C_drewN (Kd.C_below HR.out HBW.out) _) HC.out HU2.out).mono ?_); rintro e w25 ⟨rfl, ⟨nd2, rfl⟩⟩))
          go_ret
          exact ⟨by simp, pw_below_drewN HBW.out _⟩
        | some p =>
          have hpl := hp p hu
          rw [hu] at HU1 HU2
          have hpe : at_ (Option.map (fun x => x + L.length) (some p)) = (L.length : Int) + (p : Int) := by simp [at_]; omega
          rw [hpe] at HU1
          replace HU1 : Aside0 (wire_Utf8.f 150 Z = some ((L.length : Int) + (p : Int))) := ⟨HU1⟩
          replace HU2 : Aside0 (wire_Utf8.f 150 l = some (p : Int)) := ⟨HU2⟩
          have e1 : decide ((p : Int) < 0) = false := decide_eq_false (by omega)
          have e2 : decide ((0 : Int) ≤ (p : Int)) = true := decide_eq_true (by omega)
          have e3 : IntKind.i64.wrap ((L.length : Int) + (p : Int)) = (L.length : Int) + (p : Int) := by rw [IntKind.wrap_i64]; have := HL1.out; have := H100.out; omega
          clear hp hu hpe hpl
          go_wp2_with (first
            | ((with_reducible refine gate_dst (N := 90) rfl ?_); refine Kd.R_lit (Kd.int .u8) _ 5 ?hg (N := 90) ?hd (xs := ([] : List Int)) (inner := []) (ok := fun _ => True) (okp := fun _ => True) ?hr ?hp (fun _ hk => hk) trivial (Below.refl _ _) (Nat.le_refl _) (by simp) ?_; (case hd => rfl); (case hg => rfl); (case hr => first | (go_simp; done) | (go_simp; rfl)); (case hp => exact (Reps.none _ _)); intro v90 w20 ho_ hb_ hg_ hnew_; clear hg_ hnew_; have HO90 := Aside0.mk (Kd.R_lower ho_ (Below.refl wr.heap.size wr).size); have HB90 := Aside0.mk (below_then (Below.refl wr.heap.size wr) (Below.refl wr.heap.size wr).size hb_); clear ho_ hb_)
            | ((with_reducible refine gate_builtin (b := .append) (xs := #[.tmp 90, .tmp 91]) rfl ?_); at_builtin; refine Kd.R_append_rows (Kd.int .u8) (w0 := wr) wr.heap.size rfl (.tmp 90) (.tmp 91) 23 5 (.int .u8 0) 1 rfl Try.underlying23 info5 rfl (by decide) (by omega) v90 [] L _ _ _ (fun _ => True) (fun _ => False) rfl rfl HO90.out (Kd.C_below HCR.out (below_then HB.out HB.out.size HB90.out)) (fun _ _ h => h) (fun _ h => h.elim) (fun _ _ => trivial) HB90.out HB90.out.size (by have := HL1.out; simp; omega) ?_; intro v_ w22 ho_ hb_ hg_ hat_; clear hg_ hat_; rw [List.nil_append] at ho_; obtain ⟨A2, c2, rfl⟩ := Kd.R_slice ho_; have HO91 := Aside0.mk ho_; have HB91 := Aside0.mk hb_; clear ho_ hb_)
            | ((with_reducible refine gate_builtin (b := .append) (xs := #[.tmp 92, .tmp 93]) rfl ?_); at_builtin; refine Kd.R_append_rows (Kd.int .u8) (w0 := wr) wr.heap.size rfl (.tmp 92) (.tmp 93) 23 5 (.int .u8 0) 1 rfl Try.underlying23 info5 rfl (by decide) (by omega) _ L l _ _ _ (fun _ => True) (fun _ => False) rfl rfl HO91.out (Kd.C_below HR.out (below_then HBR.out HBR.out.size HB91.out)) (fun _ _ h => h) (fun _ h => h.elim) (fun _ _ => trivial) HB91.out HB91.out.size (by have := HL1.out; have := H100.out; simp; omega) ?_; intro v_ w23 ho_ hb_ hg_ hat_; clear hg_ hat_; rw [hZ] at ho_; obtain ⟨A3, c3, rfl⟩ := Kd.R_slice ho_; have HO92 := Aside0.mk ho_; have HB92 := Aside0.mk hb_; have HBW := Aside0.mk (below_then HBR.out HBR.out.size hb_); clear ho_ hb_)
            | (go_at_call 23; (with_reducible refine (utf8_any _ _ Z _ rfl _ _ (Kd.R_reads' HO92.out).2.2 (Kd.R_reads' HO92.out).2.1 HU1.out).mono ?_); rintro e w24 ⟨rfl, ⟨nd, rfl⟩⟩)
            | (go_at_call 23; (with_reducible refine (utf8_any _ _ l _ rfl _ _ (Kd.C_drewN (Kd.C_below HR.out HBW.out) _) HC.out HU2.out).mono ?_); rintro e w25 ⟨rfl, ⟨nd2, rfl⟩⟩))
          go_ret
          exact ⟨by simp, pw_below_drewN HBW.out _⟩
set_option maxHeartbeats 3200000 in
set_option maxRecDepth 100000 in
theorem runes_bad (A : Option Addr) (c : Nat) (l : List Int) (r q : Int) (w : World) (hq : Go.bits .and .i32 r 2097151 = q) (h0 : 0 ≤ q) (h1 : q ≤ 2097151) (h2 : ¬ q ≤ 1114111 ∨ ¬ (q < 55296 ∨ 57343 < q))
    (hr : Kd.C (Kd.int .u8) w A l.length l) (hc : l.length ≤ c) (h100 : l.length ≤ 100) :
    Calls Try.prog 5 #[.int .i32 r, .slice A l.length c] w fun e w' => e = .returned (.bool true) ∧ Below w.heap.size w w' := by
  have HR := Aside0.mk hr
  have HC := Aside0.mk hc
  have d0 : decide ((100 : Int) < (l.length : Int)) = false := decide_eq_false (by omega)
  have d0' : decide (100 < l.length) = false := decide_eq_false (by omega)
  obtain ⟨s, hs⟩ : ∃ s, Utf8.encode q = s := ⟨_, rfl⟩
  have hs4 : s.size ≤ 4 := by rw [← hs]; exact encode_small q
  have H100 := Aside0.mk h100
  have HQ := Aside0.mk (And.intro h0 h1)
  have vq : ∀ W : World, (convert 21 9 (.int .i32 q)).run Try.prog W = .ok (.string s) W := fun W => by rw [run_convert_int_string W 21 9 .i32 q (by rw [Try.underlying21]; rfl) Try.underlying9, hs]
  clear hr hc h100 hs
  have two : (decide ((1114111 : Int) < q) = true) ∨ (decide ((1114111 : Int) < q) = false ∧ decide ((55296 : Int) ≤ q) = true ∧ decide (q < (57344 : Int)) = true) := by simp; omega
  have HQ2 := Aside0.mk h2
  clear h0 h1 h2
  go_enter Try.func5, Try.ntmps5
  go_upto_region 6 with (first
    | (go_at_call 22; refine (awake01 _).mono ?_; rintro e w1 ⟨rfl, hb1⟩; have HB1 := Aside0.mk hb1; clear hb1))
  obtain ⟨cap, w2, hcv, hcr, hcc, hcb, hcl⟩ := to_bytes s hs4 w1
  have HCB := Aside0.mk hcb
  clear hcr hcc hcb hcl hs4
  have hqq := HQ.out
  have b0 : Go.bits .and .i32 (q / 4096) 15 = q / 4096 % 16 := and15_i32 _ (by omega) (by omega)
  have b1 : Go.bits .and .i32 (q / 64) 63 = q / 64 % 64 := and63_i32 _ (by omega) (by omega)
  have b2 : Go.bits .and .i32 q 63 = q % 64 := and63_i32 _ (by omega) (by omega)
  have b3 : Go.bits .and .i32 (q / 4096) 63 = q / 4096 % 64 := and63_i32 _ (by omega) (by omega)
  have b4 : Go.bits .and .i32 (q / 262144) 7 = q / 262144 % 8 := and7_i32 _ (by omega) (by omega)
  have m0 : (q / 4096 % 16) % 256 = q / 4096 % 16 := by omega
  have m1 : (q / 64 % 64) % 256 = q / 64 % 64 := by omega
  have m2 : (q % 64) % 256 = q % 64 := by omega
  have m3 : (q / 4096 % 64) % 256 = q / 4096 % 64 := by omega
  have m4 : (q / 262144 % 8) % 256 = q / 262144 % 8 := by omega
  have o0 : Go.bits .or .u8 224 (q / 4096 % 16) = 224 + q / 4096 % 16 := or224 _ (by omega) (by omega)
  have o1 : Go.bits .or .u8 128 (q / 64 % 64) = 128 + q / 64 % 64 := u8_or128 _ (by omega) (by omega)
  have o2 : Go.bits .or .u8 128 (q % 64) = 128 + q % 64 := u8_or128 _ (by omega) (by omega)
  have o3 : Go.bits .or .u8 128 (q / 4096 % 64) = 128 + q / 4096 % 64 := u8_or128 _ (by omega) (by omega)
  have o4 : Go.bits .or .u8 240 (q / 262144 % 8) = 240 + q / 262144 % 8 := or240 _ (by omega) (by omega)
  clear hqq
  rcases two with p1 | ⟨p1, p2, p3⟩
  · have hsg := raw4_sign q (by have := HQ2.out; simp at p1; omega) (by have := HQ.out; have := HQ2.out; simp at *; omega) l
    obtain ⟨Y, hY⟩ : ∃ Y, raw4 q = Y := ⟨_, rfl⟩
    have hYl : Y.length = 4 := by rw [← hY]; rfl
    have HYL : Aside0 (Y.length ≤ 4) := ⟨by omega⟩
    rw [hY] at hsg
    obtain ⟨Z, hZ⟩ : ∃ Z, Y ++ l = Z := ⟨_, rfl⟩
    rw [hZ] at hsg
    have hZl : Z.length = 4 + l.length := by rw [← hZ, List.length_append, hYl]
    have HU : Aside0 (wire_Utf8.f 150 Z = some 0) := ⟨by
      rw [utf8_f Z 111 150 (by have := H100.out; omega) (by have := H100.out; omega) (by omega), U_bad Z 110 (by intro h; rw [h] at hZl; simp at hZl; omega) hsg]; rfl⟩
    clear hsg hYl hZl
    go_upto_region 11 with (fail)
    obtain ⟨w3, hw3⟩ : ∃ w3, (w2.alloc (.cells #[.int .u8 (224 + q / 4096 % 16), .int .u8 (128 + q / 64 % 64), .int .u8 (128 + q % 64)] 5)).alloc (.cells #[.int .u8 (240 + q / 262144 % 8), .int .u8 (128 + q / 4096 % 64), .int .u8 (128 + q / 64 % 64), .int .u8 (128 + q % 64)] 5) = w3 := ⟨_, rfl⟩
    have HO : Aside0 (Kd.R (Kd.int .u8) 5 w3 w2.heap.size (fun _ => True) (.slice (some ⟨w2.heap.size + 1, 0, none⟩) 4 4) Y) := ⟨by rw [← hw3, ← hY]; have h5 := Kd.R_lower (raw_own4 (240 + q / 262144 % 8) (128 + q / 4096 % 64) (128 + q / 64 % 64) (128 + q % 64) (w2.alloc (.cells #[.int .u8 (224 + q / 4096 % 16), .int .u8 (128 + q / 64 % 64), .int .u8 (128 + q % 64)] 5))) (show w2.heap.size ≤ _ by simp); rw [show (w2.alloc (.cells #[.int .u8 (224 + q / 4096 % 16), .int .u8 (128 + q / 64 % 64), .int .u8 (128 + q % 64)] 5)).heap.size = w2.heap.size + 1 by simp] at h5; exact h5⟩
    have HB3 : Aside0 (Below w2.heap.size w2 w3) := ⟨by rw [← hw3]; exact below_alloc (below_alloc (Below.refl _ _) _) _⟩
    rw [hw3]
    have HBR := Aside0.mk (below_then (below_then HB1.out HB1.out.size HCB.out) (Nat.le_trans HB1.out.size HCB.out.size) HB3.out)
    clear hw3 hY
    go_wp2_with (first
      | ((with_reducible refine gate_builtin (b := .append) (xs := #[.tmp 67, .tmp 68]) rfl ?_); at_builtin; refine Kd.R_append_rows (Kd.int .u8) (w0 := w2) w2.heap.size rfl (.tmp 67) (.tmp 68) 23 5 (.int .u8 0) 1 rfl Try.underlying23 info5 rfl (by decide) (by omega) _ Y l _ _ _ (fun _ => True) (fun _ => False) rfl rfl HO.out (Kd.C_below HR.out HBR.out) (fun _ _ h => h) (fun _ h => h.elim) (fun _ _ => trivial) HB3.out HB3.out.size (by have := H100.out; have := HYL.out; simp; omega) ?_; intro v_ w22 ho_ hb_ hg_ hat_; clear hg_ hat_; rw [hZ] at ho_; obtain ⟨A2, c2, rfl⟩ := Kd.R_slice ho_; have HO92 := Aside0.mk ho_; have HBW := Aside0.mk (below_then (below_then HB1.out HB1.out.size HCB.out) (Nat.le_trans HB1.out.size HCB.out.size) hb_); clear ho_ hb_)
      | (go_at_call 23; (with_reducible refine (utf8_any _ _ Z _ rfl _ _ (Kd.R_reads' HO92.out).2.2 (Kd.R_reads' HO92.out).2.1 HU.out).mono ?_); rintro e w24 ⟨rfl, ⟨nd, rfl⟩⟩))
    go_ret
    exact ⟨by simp, pw_below_drewN HBW.out _⟩
  · have hsg := raw3_sign q (by have := HQ2.out; simp at p1; omega) (by have := HQ.out; have := HQ2.out; simp at *; omega) l
    obtain ⟨Y, hY⟩ : ∃ Y, raw3 q = Y := ⟨_, rfl⟩
    have hYl : Y.length = 3 := by rw [← hY]; rfl
    have HYL : Aside0 (Y.length ≤ 4) := ⟨by omega⟩
    rw [hY] at hsg
    obtain ⟨Z, hZ⟩ : ∃ Z, Y ++ l = Z := ⟨_, rfl⟩
    rw [hZ] at hsg
    have hZl : Z.length = 3 + l.length := by rw [← hZ, List.length_append, hYl]
    have HU : Aside0 (wire_Utf8.f 150 Z = some 0) := ⟨by
      rw [utf8_f Z 111 150 (by have := H100.out; omega) (by have := H100.out; omega) (by omega), U_bad Z 110 (by intro h; rw [h] at hZl; simp at hZl; omega) hsg]; rfl⟩
    clear hsg hYl hZl
    go_upto_region 11 with (fail)
    obtain ⟨w3, hw3⟩ : ∃ w3, w2.alloc (.cells #[.int .u8 (224 + q / 4096 % 16), .int .u8 (128 + q / 64 % 64), .int .u8 (128 + q % 64)] 5) = w3 := ⟨_, rfl⟩
    have HO : Aside0 (Kd.R (Kd.int .u8) 5 w3 w2.heap.size (fun _ => True) (.slice (some ⟨w2.heap.size, 0, none⟩) 3 3) Y) := ⟨by rw [← hw3, ← hY]; exact raw_own3 _ _ _ _⟩
    have HB3 : Aside0 (Below w2.heap.size w2 w3) := ⟨by rw [← hw3]; exact below_alloc (Below.refl _ _) _⟩
    rw [hw3]
    have HBR := Aside0.mk (below_then (below_then HB1.out HB1.out.size HCB.out) (Nat.le_trans HB1.out.size HCB.out.size) HB3.out)
    clear hw3 hY
    go_wp2_with (first
      | ((with_reducible refine gate_builtin (b := .append) (xs := #[.tmp 67, .tmp 68]) rfl ?_); at_builtin; refine Kd.R_append_rows (Kd.int .u8) (w0 := w2) w2.heap.size rfl (.tmp 67) (.tmp 68) 23 5 (.int .u8 0) 1 rfl Try.underlying23 info5 rfl (by decide) (by omega) _ Y l _ _ _ (fun _ => True) (fun _ => False) rfl rfl HO.out (Kd.C_below HR.out HBR.out) (fun _ _ h => h) (fun _ h => h.elim) (fun _ _ => trivial) HB3.out HB3.out.size (by have := H100.out; have := HYL.out; simp; omega) ?_; intro v_ w22 ho_ hb_ hg_ hat_; clear hg_ hat_; rw [hZ] at ho_; obtain ⟨A2, c2, rfl⟩ := Kd.R_slice ho_; have HO92 := Aside0.mk ho_; have HBW := Aside0.mk (below_then (below_then HB1.out HB1.out.size HCB.out) (Nat.le_trans HB1.out.size HCB.out.size) hb_); clear ho_ hb_)
      | (go_at_call 23; (with_reducible refine (utf8_any _ _ Z _ rfl _ _ (Kd.R_reads' HO92.out).2.2 (Kd.R_reads' HO92.out).2.1 HU.out).mono ?_); rintro e w24 ⟨rfl, ⟨nd, rfl⟩⟩))
    go_ret
    exact ⟨by simp, pw_below_drewN HBW.out _⟩

set_option maxHeartbeats 1600000 in
theorem runes_large (A : Option Addr) (c : Nat) (l : List Int) (r : Int) (w : World) (h : 100 < l.length) :
    Calls Try.prog 5 #[.int .i32 r, .slice A l.length c] w fun e w' => e = .returned (.bool true) ∧ Below w.heap.size w w' := by
  have d0 : decide ((100 : Int) < (l.length : Int)) = true := decide_eq_true (by omega)
  have d0' : decide (100 < l.length) = true := decide_eq_true (by omega)
  clear h
  go_enter Try.func5, Try.ntmps5
  go_wp2_with (first
    | (go_at_call 22; refine (awake01 _).mono ?_; rintro e w1 ⟨rfl, hb1⟩; have HB1 := Aside0.mk hb1; clear hb1))
  go_ret
  exact ⟨rfl, HB1.out⟩

theorem WireRunes_walk (a1 : Int) (a0 : Option Addr) (len0 cap0 : Nat) (z0 : List Int) (w : World) (w1 : (Lit.int .i32 a1).wf = true)
    (w0 : (a0 = none ∧ len0 = 0 ∧ cap0 = 0 ∧ z0 = []) ∨ ∃ x, a0 = some x ∧ len0 ≤ cap0 ∧ cap0 ≤ maxLen ∧ z0.length = cap0 ∧ (∀ i, i < z0.length → w.cell? (x.add i) = some (.int .u8 (z0.getD i 0))) ∧ ∀ n ∈ z0, (Lit.int .u8 n).wf = true)
    (y0 : len0 * 1 ≤ 140737488351232) :
    Calls Try.prog 5 #[.int .i32 a1, .slice a0 len0 cap0] w fun e w' => e = .returned (.bool true) ∧ Below w.heap.size w w' := by
  obtain ⟨l, rfl, hr, hm, hw, hc⟩ := ReadsInt.ofRowC w0
  by_cases h : l.length ≤ 100
  · have hC := Kd.C_of_reads (d := (0 : Int)) (h1 := fun _ => rfl) hr
    have hq := and_i32 a1
    by_cases hg : a1 % 2097152 ≤ 1114111 ∧ (a1 % 2097152 < 55296 ∨ 57343 < a1 % 2097152)
    · exact runes_good _ _ l a1 _ w hq (by omega) hg.1 hg.2 hC hc h
    · exact runes_bad _ _ l a1 _ w hq (by omega) (by omega) (by omega) hC hc h
  · exact runes_large _ _ l a1 w (by omega)
end Go.Proofs.Ytgabfoafchnpiaa.Hand
