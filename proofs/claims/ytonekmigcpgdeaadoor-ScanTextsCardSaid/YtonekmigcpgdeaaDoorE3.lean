/- Layer 13, scan: the document's reader: escape whole. -/
import Derived.Test.YtonekmigcpgdeaaDoorE2
namespace Go.Proofs.YtonekmigcpgdeaaDoor.Hand
open Go.RowKit Go.Proofs.YtonekmigcpgdeaaDoor.QAll Go.Proofs.YtonekmigcpgdeaaDoorW.PrintWords Go.Proofs.YtonekmigcpgdeaaDoorW.PrintLast Go.Proofs.YtonekmigcpgdeaaDoorW.PrintMore Go.Proofs.YtonekmigcpgdeaaDoor.Runes
set_option linter.unusedVariables false
set_option linter.unusedSimpArgs false
theorem ZB_iff (b : List Int) (i : Nat) (v : Int) (h1 : v ≠ -1) (h2 : v ≠ 0) : hereZ b i = v ↔ hereB b i = v := by
  rcases Nat.lt_or_ge i b.length with h | h
  · rw [hereZ_B h]
  · rw [(hereZ_no (b := b) (i := i) (by omega)).1, (hereZ_no (b := b) (i := i) (by omega)).2]
    exact ⟨fun e => absurd e.symm h1, fun e => absurd e.symm h2⟩
section resc
variable {w0 w : World} {r : Nat} {b : List Int} {i : Nat}
theorem R_nil_any (w : World) (B : Nat) : Kd.R (Kd.int .u8) 5 w B (fun _ => True) (.slice none 0 0) [] := Kd.R_nil _ _ _ _ _
theorem lit_R (w W : World) (t : Int) (h : w.heap.size ≤ W.heap.size) : Kd.R (Kd.int .u8) 5 (W.alloc (.cells #[.int .u8 t] 5)) w.heap.size (fun _ => True) (.slice (some ⟨W.heap.size, 0, none⟩) 1 1) [t] :=
  Kd.R_of_own (enc := Value.int .u8) (h1 := fun _ => rfl) (World.ownsRow_lit W #[.int .u8 t] 1 h (by decide) rfl) (fun _ _ => trivial)
set_option maxHeartbeats 6400000 in
set_option maxRecDepth 100000 in
theorem resc_any (h : RS w0 w r b i) (hi : i ≤ b.length) : Calls Tryd.prog 23 #[.pointer (some ⟨r, 0, none⟩)] w (EscR (escV b i) w0 w r b) := by
  have H := Aside0.mk h
  have HI := Aside0.mk hi
  have hlim := h.lim
  have HHR := rs_here h
  obtain ⟨c, hc⟩ : ∃ c, hereZ b i = c := ⟨_, rfl⟩
  rw [hc] at HHR
  have HH := Aside0.mk HHR
  have hkz := kz_ZB b i
  rw [hc] at hkz
  have hcb := hereZ_byte h.byte i
  rw [hc] at hcb
  have HLT : Aside0 (c ≠ -1 → i < b.length) := ⟨fun hne => by
    rcases Nat.lt_or_ge i b.length with q | q
    · exact q
    · exact absurd (hc ▸ (hereZ_no (b := b) (i := i) (by omega)).1) hne⟩
  obtain ⟨R, hR⟩ : ∃ R, escV b i = R := ⟨_, rfl⟩
  have HNO : Aside0 (∀ W j, R = none → RS w0 W r b j → KeepBut w W r none → EscR R w0 w r b (.returned (.tuple #[.slice none 0 0, .bool false])) W) := ⟨fun W j e h1 h2 => by
    subst e; exact ⟨_, rfl, R_nil_any _ _, ⟨j, h1, fun p hp => by cases hp⟩, h2⟩⟩
  have HKZ : Aside0 (kz c < 8 → R = some (toZ (kz c), i + 1)) := ⟨fun e => by rw [← hR, escV_kz b i (by rw [← hkz.1]; exact e), hkz.1]⟩
  have HKN : Aside0 (¬ kz c < 8 → R = if c = 117 then pairV b i else none) := ⟨fun e => by
    rw [← hR, escV_no b i (by rw [← hkz.1]; exact e)]
    by_cases q : c = 117
    · rw [if_pos q, if_pos (hkz.2.1 q)]
    · rw [if_neg q, if_neg (fun z => q (hkz.2.2 z))]⟩
  rw [hR]
  have wi : IntKind.i64.wrap ((i : Int) + 1) = (i : Int) + 1 := by rw [IntKind.wrap_i64]; omega
  have HC := Aside0.mk hcb
  clear h hi HHR hc hkz hR hcb
  go_enter Tryd.func23, Tryd.ntmps23
  go_upto_region 2 with (go_at_call 21; (with_reducible refine HH.out.mono ?_); rintro e w1 ⟨rfl, hs, hk⟩; have HS1 := Aside0.mk hs; have HK1 := Aside0.mk hk; clear hs hk)
  have y1 := HS1.out.c4
  have yf := HS1.out.f4
  go_upto_region 3 with (fail)
  obtain ⟨w2, hw2⟩ : ∃ w2, w1.setCell ⟨r, 4, none⟩ (.int .i64 ((i : Int) + 1)) = w2 := ⟨_, rfl⟩
  have hmv : RS w0 (w1.setCell ⟨r, 4, none⟩ (.int .i64 ((i : Int) + 1))) r b (i + 1) ∧ KeepBut w1 (w1.setCell ⟨r, 4, none⟩ (.int .i64 ((i : Int) + 1))) r none := by have h := HS1.out.move (i + 1); rw [Int.natCast_add] at h; exact h
  rw [hw2] at hmv ⊢
  have HS2 := Aside0.mk hmv.1
  have HK2 := Aside0.mk (keep_trans HK1.out hmv.2)
  clear hmv hw2 y1 yf wi
  go_wp2_with (fail)
  go_loopg [7] 9 (fun kq v7 wr => ∃ (k : Nat), v7 = .int .i64 k ∧ Aside0 (k ≤ kz c) ∧ Aside0 (9 ≤ kq + k) ∧ wr = w2)
  case atStart => exact ⟨0, rfl, ⟨Nat.zero_le _⟩, ⟨by omega⟩, rfl⟩
  case round =>
    obtain ⟨k, rfl, HKX, HKK, rfl⟩ := hrel
    have j0 : (0 : Int) ≤ (k : Int) := Int.natCast_nonneg _
    by_cases h8 : k < 8
    · have hfs := fromZ_at c k h8 HKX.out
      have hbt : ∀ h : k < (⟨#[34, 92, 47, 98, 102, 110, 114, 116]⟩ : ByteArray).size, (((⟨#[34, 92, 47, 98, 102, 110, 114, 116]⟩ : ByteArray)[k]'h).toNat : Int) = bt fromZ (k : Int) := fun h => bt_at fromZ (k : Int) h
      have hbr := bt_range fromZ (k : Int)
      obtain ⟨y, hy⟩ : ∃ y, bt fromZ (k : Int) = y := ⟨_, rfl⟩
      rw [hy] at hbt hfs hbr
      have wy : IntKind.i64.wrap y = y := by rw [IntKind.wrap_i64]; omega
      have e0 : decide (k < 8) = true := decide_eq_true h8
      have e1 : decide ((k : Int) < 8) = true := decide_eq_true (by omega)
      have j1 : (k : Int) < 8 := by omega
      have wk : IntKind.i64.wrap ((k : Int) + 1) = (k : Int) + 1 := by rw [IntKind.wrap_i64]; omega
      by_cases hkx : k = kz c
      · have q1 : (c == y) = true := by simp [(hfs.2 hkx).symm]
        have HE := Aside0.mk (HKZ.out (by omega))
        have hbt2 : ∀ h : k < (⟨#[34, 92, 47, 8, 12, 10, 13, 9]⟩ : ByteArray).size, (((⟨#[34, 92, 47, 8, 12, 10, 13, 9]⟩ : ByteArray)[k]'h).toNat : Int) = toZ k := fun h => (bt_at toZS (k : Int) h).trans (toZS_at k h8)
        have htz := toZ_lt k
        rw [← hkx] at HE
        obtain ⟨t, ht⟩ : ∃ t, toZ k = t := ⟨_, rfl⟩
        rw [ht] at hbt2 HE htz
        have HTZ := Aside0.mk htz
        clear hfs hkx hy hbr htz ht
        go_wp2_with (fail)
        go_ret2
        rw [HE.out]
        exact ⟨.slice (some ⟨wr.heap.size, 0, none⟩) 1 1, rfl, by
          have e : Lib.encodeRuneZ t = [t] := Lib.encodeRuneZ_one HTZ.out.1 (by have := HTZ.out; omega)
          show Kd.R (Kd.int .u8) 5 _ _ _ _ (Lib.encodeRuneZ t)
          rw [e]; exact lit_R w wr t HK2.out.1, ⟨i + 1, HS2.out.kept (below_alloc (Below.refl _ _) _), fun p hp => by injection hp with hp; rw [← hp]⟩, keep_trans HK2.out (keep_below (below_alloc (Below.refl _ _) _))⟩
      · have q1 : (c == y) = false := by
          rw [beq_eq_false_iff_ne]; intro e; exact hkx (hfs.1 e.symm)
        have HK3 : Aside0 (k + 1 ≤ kz c) := ⟨by have := HKX.out; omega⟩
        obtain ⟨n2, rfl⟩ : ∃ n2, gk = n2 + 1 := ⟨gk - 1, by have := HKK.out; omega⟩
        clear hfs hkx hy hbr
        go_wp2_with (fail)
        go_roundg n2
        case measure => omega
        case rel => exact ⟨k + 1, by go_num, HK3, ⟨by have := HKK.out; omega⟩, rfl⟩
    · have e0 : decide (k < 8) = false := decide_eq_false h8
      have e1 : decide ((k : Int) < 8) = false := decide_eq_false (by omega)
      have HE := Aside0.mk (HKN.out (by have := HKX.out; omega))
      by_cases h117 : c = 117
      · have q1 : (c != 117) = false := by simp [h117]
        have hlt : i < b.length := HLT.out (by omega)
        have hR := HE.out
        rw [if_pos h117] at hR
        have hun := rs_unit HS2.out (by omega)
        unfold pairV at hR
        obtain ⟨n, j, hg, hcase⟩ : ∃ n j, unitG b 4 (i + 1) 0 = (n, j) ∧ ((unitV b (i + 1) = none ∧ n = -1) ∨ (unitV b (i + 1) = some n ∧ j = i + 5)) := by
          rcases unitG_V b (i + 1) (by omega) with ⟨n, h1, h2⟩ | ⟨h1, j, _, h2⟩
          · exact ⟨n, _, h2, .inr ⟨h1, rfl⟩⟩
          · exact ⟨-1, j, h2, .inl ⟨h1, rfl⟩⟩
        rw [hg] at hun
        have HUN := Aside0.mk hun
        clear hun hg HE h117 HKZ HKN
        rcases hcase with ⟨hu, rfl⟩ | ⟨hu, rfl⟩
        · rw [hu] at hR
          have HRN : Aside0 (R = none) := ⟨hR⟩
          clear hR hu
          go_wp2_with (go_at_call 33; (with_reducible refine HUN.out.mono ?_); rintro e w5 ⟨rfl, hs, hk⟩; have HS5 := Aside0.mk hs; have HK5 := Aside0.mk (keep_trans HK2.out hk); clear hs hk)
          go_ret2
          exact HNO.out _ _ HRN.out HS5.out HK5.out
        rw [hu] at hR
        dsimp only at hR
        have hnb := unitV_bound hu
        have hle := unitV_le hu
        have HNB := Aside0.mk hnb
        have n0 : decide (n < 0) = false := decide_eq_false (by omega)
        by_cases c55 : n / 1024 = 55
        · rw [if_pos c55] at hR
          have HRN : Aside0 (R = none) := ⟨hR⟩
          have n1 : decide (56320 ≤ n) = true := decide_eq_true (by omega)
          have n2 : decide (n < 57344) = true := decide_eq_true (by omega)
          clear hR hu c55 hnb
          go_wp2_with (go_at_call 33; (with_reducible refine HUN.out.mono ?_); rintro e w5 ⟨rfl, hs, hk⟩; have HS5 := Aside0.mk hs; have HK5 := Aside0.mk (keep_trans HK2.out hk); clear hs hk)
          go_ret2
          exact HNO.out _ _ HRN.out HS5.out HK5.out
        rw [if_neg c55] at hR
        by_cases c54 : n / 1024 ≠ 54
        · rw [if_pos c54] at hR
          have HRS : Aside0 (R = some (n, i + 5)) := ⟨hR⟩
          have HSG := Aside0.mk (rsign_f n hnb.1 (by omega) (by omega))
          have ways : (decide (56320 ≤ n) = false ∧ decide (n < 55296) = true) ∨ (decide (56320 ≤ n) = true ∧ decide (n < 57344) = false ∧ decide (n < 55296) = false ∧ decide (57344 ≤ n) = true) := by
            by_cases q : n < 55296
            · exact .inl ⟨decide_eq_false (by omega), decide_eq_true q⟩
            · exact .inr ⟨decide_eq_true (by omega), decide_eq_false (by omega), decide_eq_false q, decide_eq_true (by omega)⟩
          clear hR hu c55 c54 hnb
          rcases ways with ⟨n1, n3⟩ | ⟨n1, n2, n3, n4⟩
          all_goals
            go_wp2_with (first
              | (go_at_call 33; (with_reducible refine HUN.out.mono ?_); rintro e w5 ⟨rfl, hs, hk⟩; have HS5 := Aside0.mk hs; have HK5 := Aside0.mk (keep_trans HK2.out hk); clear hs hk)
              | (go_at_call 34; (with_reducible refine (transomref13_sign.calls n _ _ HSG.out).mono ?_); rintro e w6 ⟨v6, rfl, hr6, hb6⟩; obtain ⟨A6, c6, rfl⟩ := Kd.R_slice hr6; have HR6 := Aside0.mk hr6; have HB6 := Aside0.mk hb6; clear hr6 hb6))
            go_ret2
            rw [HRS.out]
            exact ⟨.slice A6 (Lib.encodeRuneZ n).length c6, rfl, Kd.R_lower HR6.out HK5.out.1, ⟨i + 5, HS5.out.kept HB6.out, fun p hp => by injection hp with hp; rw [← hp]⟩, keep_trans HK5.out (keep_below HB6.out)⟩
        rw [if_neg c54] at hR
        have n1 : decide (56320 ≤ n) = false := decide_eq_false (by omega)
        have n3 : decide (n < 55296) = false := decide_eq_false (by omega)
        have n4 : decide (57344 ≤ n) = false := decide_eq_false (by omega)
        have HC54 : Aside0 (n / 1024 = 54) := ⟨by omega⟩
        clear hu c55 c54 hnb
        go_upto_region 16 with (go_at_call 33; (with_reducible refine HUN.out.mono ?_); rintro e w5 ⟨rfl, hs, hk⟩; have HS5 := Aside0.mk hs; have HK5 := Aside0.mk (keep_trans HK2.out hk); clear hs hk)
        have HR := Aside0.mk hR
        have HLE := Aside0.mk hle
        clear hR hle
        have hh5 := rs_here HS5.out
        by_cases p5 : hereZ b (i + 5) = 92
        · rw [p5] at hh5
          have hb5 : hereB b (i + 5) = 92 := (ZB_iff b (i + 5) 92 (by decide) (by decide)).1 p5
          have hl5 : i + 5 < b.length := hereB_lt (by rw [hb5]; decide)
          have HH5 := Aside0.mk hh5
          have HB5 := Aside0.mk (And.intro hb5 hl5)
          have w5i : IntKind.i64.wrap (((i : Int) + 5) + 1) = (i : Int) + 6 := by rw [IntKind.wrap_i64]; have := HS2.out.lim; omega
          have w6i : IntKind.i64.wrap (((i : Int) + 6) + 1) = (i : Int) + 7 := by rw [IntKind.wrap_i64]; have := HS2.out.lim; omega
          clear hh5 p5 hb5 hl5
          go_upto_region 18 with (go_at_call 21; (with_reducible refine HH5.out.mono ?_); rintro e w6 ⟨rfl, hs, hk⟩; have HS6 := Aside0.mk hs; have HK6 := Aside0.mk (keep_trans HK5.out hk); clear hs hk)
          have y6 : w6.cell? ⟨r, 4, none⟩ = some (.int .i64 ((i : Int) + 5)) := HS6.out.c4
          have yf := HS6.out.f4
          go_upto_region 19 with (fail)
          obtain ⟨w7, hw7⟩ : ∃ w7, w6.setCell ⟨r, 4, none⟩ (.int .i64 ((i : Int) + 6)) = w7 := ⟨_, rfl⟩
          have hmv : RS w0 (w6.setCell ⟨r, 4, none⟩ (.int .i64 ((i : Int) + 6))) r b (i + 6) ∧ KeepBut w6 (w6.setCell ⟨r, 4, none⟩ (.int .i64 ((i : Int) + 6))) r none := HS6.out.move (i + 6)
          rw [hw7] at hmv ⊢
          have HS7 := Aside0.mk hmv.1
          have HK7 := Aside0.mk (keep_trans HK6.out hmv.2)
          clear hmv hw7 y6 yf w5i
          have hh7 := rs_here HS7.out
          by_cases p6 : hereZ b (i + 6) = 117
          · rw [p6] at hh7
            have hb6 : hereB b (i + 6) = 117 := (ZB_iff b (i + 6) 117 (by decide) (by decide)).1 p6
            have hl6 : i + 6 < b.length := hereB_lt (by rw [hb6]; decide)
            have HH7 := Aside0.mk hh7
            have hR := HR.out
            rw [if_pos ⟨by omega, HB5.out.1, hb6⟩] at hR
            clear hh7 p6 hb6
            go_upto_region 21 with (go_at_call 21; (with_reducible refine HH7.out.mono ?_); rintro e w8 ⟨rfl, hs, hk⟩; have HS8 := Aside0.mk hs; have HK8 := Aside0.mk (keep_trans HK7.out hk); clear hs hk)
            have y8 : w8.cell? ⟨r, 4, none⟩ = some (.int .i64 ((i : Int) + 6)) := HS8.out.c4
            have yf := HS8.out.f4
            go_upto_region 22 with (fail)
            obtain ⟨w9, hw9⟩ : ∃ w9, w8.setCell ⟨r, 4, none⟩ (.int .i64 ((i : Int) + 7)) = w9 := ⟨_, rfl⟩
            have hmv : RS w0 (w8.setCell ⟨r, 4, none⟩ (.int .i64 ((i : Int) + 7))) r b (i + 7) ∧ KeepBut w8 (w8.setCell ⟨r, 4, none⟩ (.int .i64 ((i : Int) + 7))) r none := HS8.out.move (i + 7)
            rw [hw9] at hmv ⊢
            have HS9 := Aside0.mk hmv.1
            have HK9 := Aside0.mk (keep_trans HK8.out hmv.2)
            clear hmv hw9 y8 yf w6i
            have hun := rs_unit HS9.out (by omega)
            obtain ⟨m, j2, hg, hcase⟩ : ∃ m j2, unitG b 4 (i + 7) 0 = (m, j2) ∧ ((unitV b (i + 7) = none ∧ m = -1) ∨ (unitV b (i + 7) = some m ∧ j2 = i + 11)) := by
              rcases unitG_V b (i + 7) (by omega) with ⟨m, h1, h2⟩ | ⟨h1, j, _, h2⟩
              · exact ⟨m, _, h2, .inr ⟨h1, rfl⟩⟩
              · exact ⟨-1, j, h2, .inl ⟨h1, rfl⟩⟩
            rw [hg] at hun
            have HUN2 := Aside0.mk hun
            have ways : (R = none ∧ decide (m < 56320) = true) ∨ (R = none ∧ decide (m < 56320) = false ∧ decide (57344 ≤ m) = true) ∨ (R = some (65536 + (n - 55296) * 1024 + m - 56320, i + 11) ∧ j2 = i + 11 ∧ (56320 ≤ m ∧ m < 57344)) := by
              rcases hcase with ⟨hu, e⟩ | ⟨hu, e⟩
              · rw [hu] at hR
                exact .inl ⟨hR, decide_eq_true (by omega)⟩
              · rw [hu] at hR
                dsimp only at hR
                by_cases q : m / 1024 = 55
                · rw [if_pos q] at hR
                  exact .inr (.inr ⟨hR, e, by omega⟩)
                · rw [if_neg q] at hR
                  by_cases q2 : m < 56320
                  · exact .inl ⟨hR, decide_eq_true q2⟩
                  · exact .inr (.inl ⟨hR, decide_eq_false q2, decide_eq_true (by omega)⟩)
            clear hR hun hg hcase hl6
            rcases ways with ⟨hn, m1⟩ | ⟨hn, m1, m2⟩ | ⟨hn, hj, hm⟩
            · have HRN := Aside0.mk hn
              clear hn
              go_wp2_with (go_at_call 33; (with_reducible refine HUN2.out.mono ?_); rintro e w10 ⟨rfl, hs, hk⟩; have HS10 := Aside0.mk hs; have HK10 := Aside0.mk (keep_trans HK9.out hk); clear hs hk)
              go_ret2
              exact HNO.out _ _ HRN.out HS10.out HK10.out
            · have HRN := Aside0.mk hn
              clear hn
              go_wp2_with (go_at_call 33; (with_reducible refine HUN2.out.mono ?_); rintro e w10 ⟨rfl, hs, hk⟩; have HS10 := Aside0.mk hs; have HK10 := Aside0.mk (keep_trans HK9.out hk); clear hs hk)
              go_ret2
              exact HNO.out _ _ HRN.out HS10.out HK10.out
            · have HRS := Aside0.mk hn
              subst hj
              have m1 : decide (m < 56320) = false := decide_eq_false (by omega)
              have m2 : decide (57344 ≤ m) = false := decide_eq_false (by omega)
              have hnn := HNB.out
              have hc54 := HC54.out
              have v1 : IntKind.i64.wrap (n - 55296) = n - 55296 := by rw [IntKind.wrap_i64]; omega
              have v2 : IntKind.i64.wrap ((n - 55296) * 1024) = (n - 55296) * 1024 := by rw [IntKind.wrap_i64]; omega
              have v3 : IntKind.i64.wrap (65536 + (n - 55296) * 1024) = 65536 + (n - 55296) * 1024 := by rw [IntKind.wrap_i64]; omega
              have v4 : IntKind.i64.wrap (65536 + (n - 55296) * 1024 + m) = 65536 + (n - 55296) * 1024 + m := by rw [IntKind.wrap_i64]; omega
              have HQ : Aside0 (0 ≤ 65536 + (n - 55296) * 1024 + m - 56320 ∧ 65536 + (n - 55296) * 1024 + m - 56320 ≤ 1114111 ∧ 57343 < 65536 + (n - 55296) * 1024 + m - 56320) := ⟨by omega⟩
              obtain ⟨q, hq⟩ : ∃ q, 65536 + (n - 55296) * 1024 + m - 56320 = q := ⟨_, rfl⟩
              have v5 : wrap64 (65536 + (n - 55296) * 1024 + m - 56320) = q := by unfold wrap64; omega
              rw [hq] at HQ HRS
              have HSG := Aside0.mk (rsign_f q HQ.out.1 HQ.out.2.1 (.inr HQ.out.2.2))
              clear hn hm hnn hc54 hq
              go_wp2_with (first
                | (go_at_call 33; (with_reducible refine HUN2.out.mono ?_); rintro e w10 ⟨rfl, hs, hk⟩; have HS10 := Aside0.mk hs; have HK10 := Aside0.mk (keep_trans HK9.out hk); clear hs hk)
                | (go_at_call 34; (with_reducible refine (transomref13_sign.calls q _ _ HSG.out).mono ?_); rintro e w11 ⟨v6, rfl, hr6, hb6⟩; obtain ⟨A6, c6, rfl⟩ := Kd.R_slice hr6; have HR6 := Aside0.mk hr6; have HB6 := Aside0.mk hb6; clear hr6 hb6))
              go_ret2
              rw [HRS.out]
              exact ⟨.slice A6 (Lib.encodeRuneZ q).length c6, rfl, Kd.R_lower HR6.out HK10.out.1, ⟨i + 11, HS10.out.kept HB6.out, fun p hp => by injection hp with hp; rw [← hp]⟩, keep_trans HK10.out (keep_below HB6.out)⟩
          · obtain ⟨y, hy⟩ : ∃ y, hereZ b (i + 6) = y := ⟨_, rfl⟩
            rw [hy] at hh7 p6
            have HH7 := Aside0.mk hh7
            have q2 : (y != 117) = true := by simp [p6]
            have HRN : Aside0 (R = none) := ⟨by
              rw [HR.out, if_neg]
              intro e
              exact p6 (hy ▸ (ZB_iff b (i + 6) 117 (by decide) (by decide)).2 e.2.2)⟩
            clear hh7 p6 hy
            go_wp2_with (go_at_call 21; (with_reducible refine HH7.out.mono ?_); rintro e w8 ⟨rfl, hs, hk⟩; have HS8 := Aside0.mk hs; have HK8 := Aside0.mk (keep_trans HK7.out hk); clear hs hk)
            go_ret2
            exact HNO.out _ _ HRN.out HS8.out HK8.out
        · obtain ⟨y, hy⟩ : ∃ y, hereZ b (i + 5) = y := ⟨_, rfl⟩
          rw [hy] at hh5 p5
          have HH5 := Aside0.mk hh5
          have q2 : (y != 92) = true := by simp [p5]
          have HRN : Aside0 (R = none) := ⟨by
            rw [HR.out, if_neg]
            intro e
            exact p5 (hy ▸ (ZB_iff b (i + 5) 92 (by decide) (by decide)).2 e.2.1)⟩
          clear hh5 p5 hy
          go_wp2_with (go_at_call 21; (with_reducible refine HH5.out.mono ?_); rintro e w8 ⟨rfl, hs, hk⟩; have HS8 := Aside0.mk hs; have HK8 := Aside0.mk (keep_trans HK5.out hk); clear hs hk)
          go_ret2
          exact HNO.out _ _ HRN.out HS8.out HK8.out
      · have q1 : (c != 117) = true := by simp [h117]
        have HRN : Aside0 (R = none) := ⟨by rw [HE.out, if_neg h117]⟩
        clear h117
        go_wp2_with (fail)
        go_ret2
        exact HNO.out _ _ HRN.out HS2.out HK2.out
end resc
end Go.Proofs.YtonekmigcpgdeaaDoor.Hand
