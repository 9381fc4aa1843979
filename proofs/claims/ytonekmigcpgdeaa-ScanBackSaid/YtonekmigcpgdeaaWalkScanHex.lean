/- ScanHex: the walk of the law. -/
import Derived.Test.YtonekmigcpgdeaaS14
namespace Go.Proofs.Ytonekmigcpgdeaa.Hand
open Go.RowKit Go.Proofs.Ytonekmigcpgdeaa.QAll Go.Proofs.YtonekmigcpgdeaaW.PrintWords Go.Proofs.YtonekmigcpgdeaaW.PrintLast Go.Proofs.YtonekmigcpgdeaaW.PrintMore Go.Proofs.Ytonekmigcpgdeaa.Runes
set_option linter.unusedVariables false
set_option linter.unusedSimpArgs false
theorem wf_u8 {n : Int} (h : (Lit.int .u8 n).wf = true) : 0 ≤ n ∧ n < 256 := by
  simp [Lit.wf, IntKind.min, IntKind.max, IntKind.signed, IntKind.bits] at h; omega
theorem undig_bytes (w : World) (b r : List Int) (q : Int) (n : Nat) (S : ByteArray) (k : Nat) (hS : strOfNums b = S) (hn : b.length = n) (hb : ∀ x ∈ b, 0 ≤ x ∧ x < 256) (hl : n ≤ 1000000) (hf : scan_Undigits.f k b = some (r, q)) :
    Calls Try.prog 15 #[.slice (some ⟨w.heap.size, 0, none⟩) n (grownCap w n 0 5)] (Lib.bytesWorld w 5 S) fun e w' => ∃ A c, e = .returned (.tuple #[.slice A r.length c, .int .i64 q]) ∧ Kd.C (Kd.int .u8) w' A r.length r ∧ Below w.heap.size w w' := by
  subst hS hn
  refine (scan_Undigits.calls k _ _ _ _ _ _ (C_bytes w b hb hl) (grownCap_ge w _ 0 5) hf).mono fun e w' hp => ?_
  obtain ⟨v, h1, h2, h3⟩ := hp
  obtain ⟨A, c, hv, _, hC⟩ := Kd.R_reads h2
  subst hv
  exact ⟨A, c, h1, hC, (below_bytes w _).trans (below_from h3 (below_bytes w _).size)⟩
theorem undig_any (w : World) (A : Option Addr) (c : Nat) (b r : List Int) (q : Int) (k : Nat) (hr : Kd.C (Kd.int .u8) w A b.length b) (hc : b.length ≤ c) (hf : scan_Undigits.f k b = some (r, q)) :
    Calls Try.prog 15 #[.slice A b.length c] w fun e w' => ∃ A c, e = .returned (.tuple #[.slice A r.length c, .int .i64 q]) ∧ Kd.C (Kd.int .u8) w' A r.length r ∧ Below w.heap.size w w' := by
  refine (scan_Undigits.calls k _ _ _ _ _ _ hr hc hf).mono fun e w' hp => ?_
  obtain ⟨v, h1, h2, h3⟩ := hp
  obtain ⟨A, c, hv, _, hC⟩ := Kd.R_reads h2
  subst hv
  exact ⟨A, c, h1, hC, h3⟩
theorem empty_R (w : World) : Kd.R (Kd.int .u8) 5 (w.alloc (.cells #[] 5)) w.heap.size (fun _ => True) (.slice (some ⟨w.heap.size, 0, none⟩) 0 0) [] :=
  Kd.R_of_own (enc := Value.int .u8) (h1 := fun _ => rfl) (World.ownsRow_made w #[] 0 (Nat.le_refl _) (Nat.zero_le _) rfl) (fun _ _ => trivial)
/-- The last place below i at which the digit stands. -/
def wantF (x i : Int) : Int := match hexS x with | some d => if d < i then d else -1 | none => -1
theorem wantF_zero (x : Int) : wantF x 0 = -1 := by
  unfold wantF
  cases h : hexS x with
  | none => rfl
  | some d => have := hexS_le h; simp; omega
theorem want_step (x i : Int) (h0 : 0 ≤ i) (h1 : i < 16) : ((dg false i == x) = true ∧ wantF x (i + 1) = i) ∨ ((dg false i == x) = false ∧ wantF x (i + 1) = wantF x i) := by
  by_cases e : dg false i = x
  · left
    refine ⟨by simp [e], ?_⟩
    unfold wantF
    rw [← e, hexS_dg i h0 h1]
    simp; omega
  · right
    refine ⟨by simp [e], ?_⟩
    unfold wantF
    cases h : hexS x with
    | none => rfl
    | some d =>
      have hd := hexS_le h
      have hne : d ≠ i := by
        intro e2; subst e2
        apply e
        unfold hexS at h
        unfold dg
        split at h
        · injection h with h; rw [if_pos (by omega)]; omega
        · split at h
          · injection h with h; rw [if_neg (by omega), if_neg (show ¬ (false = true) by decide)]; omega
          · cases h
      simp only
      by_cases a : d < i
      · rw [if_pos a, if_pos (by omega)]
      · rw [if_neg a, if_neg (by omega)]
theorem want_end (x : Int) : wantF x 16 = (hexS x).getD (-1) := by
  unfold wantF
  cases h : hexS x with
  | none => rfl
  | some d => have := hexS_le h; simp; omega
set_option maxHeartbeats 1600000 in
set_option maxRecDepth 100000 in
theorem hex_large (A A2 : Option Addr) (c c2 : Nat) (b s : List Int) (x : Int) (w : World) (hl : b.length ≤ 140737488351232) (hl2 : s.length ≤ 140737488351232) (h : 1000 < b.length ∨ 1000 < s.length) :
    Calls Try.prog 5 #[.slice A b.length c, .slice A2 s.length c2, .int .u8 x] w fun e w' => e = .returned (.bool true) ∧ Below w.heap.size w w' := by
  by_cases h1 : 1000 < b.length
  · have d1 : decide (1000 < b.length) = true := decide_eq_true h1
    have d2 : decide (1000 < (b.length : Int)) = true := decide_eq_true (by omega)
    clear h h1
    go_enter Try.func5, Try.ntmps5
    go_wp2_with (go_at_call 8; (with_reducible refine (awake_any w).mono ?_); rintro e w1 ⟨rfl, hb⟩; have HB := Aside0.mk hb; clear hb)
    go_ret
    exact ⟨rfl, HB.out⟩
  · have d1 : decide (1000 < b.length) = false := decide_eq_false h1
    have d2 : decide (1000 < (b.length : Int)) = false := decide_eq_false (by omega)
    have d3 : decide (1000 < s.length) = true := decide_eq_true (by omega)
    have d4 : decide (1000 < (s.length : Int)) = true := decide_eq_true (by omega)
    clear h h1
    go_enter Try.func5, Try.ntmps5
    go_wp2_with (go_at_call 8; (with_reducible refine (awake_any w).mono ?_); rintro e w1 ⟨rfl, hb⟩; have HB := Aside0.mk hb; clear hb)
    go_ret
    exact ⟨rfl, HB.out⟩
set_option maxHeartbeats 6400000 in
set_option maxRecDepth 100000 in
theorem hex_small (A A2 : Option Addr) (c c2 : Nat) (b s : List Int) (x : Int) (w : World) (hr : Kd.C (Kd.int .u8) w A b.length b) (hc : b.length ≤ c) (hb : ∀ x ∈ b, 0 ≤ x ∧ x < 256)
    (hr2 : Kd.C (Kd.int .u8) w A2 s.length s) (hc2 : s.length ≤ c2) (hb2 : ∀ x ∈ s, 0 ≤ x ∧ x < 256) (hx : 0 ≤ x ∧ x < 256) (hl : b.length ≤ 1000) (hl2 : s.length ≤ 1000) :
    Calls Try.prog 5 #[.slice A b.length c, .slice A2 s.length c2, .int .u8 x] w fun e w' => e = .returned (.bool true) ∧ Below w.heap.size w w' := by
  have d1 : decide (1000 < b.length) = false := decide_eq_false (by omega)
  have d2 : decide (1000 < (b.length : Int)) = false := decide_eq_false (by omega)
  have d3 : decide (1000 < s.length) = false := decide_eq_false (by omega)
  have d4 : decide (1000 < (s.length : Int)) = false := decide_eq_false (by omega)
  have HR := Aside0.mk hr
  have HC := Aside0.mk hc
  have HBY := Aside0.mk hb
  have HR2 := Aside0.mk hr2
  have HC2 := Aside0.mk hc2
  have HBY2 := Aside0.mk hb2
  have HX := Aside0.mk hx
  have HL := Aside0.mk hl
  have HL2 := Aside0.mk hl2
  have HDB := Aside0.mk (digs_bytes b hb)
  have HD := Aside0.mk (digits_f b 2000 (by omega) hb (by omega))
  have hU1 := undig_f (digs b) 3000 (by rw [digs_length]; omega) (by rw [digs_length]; omega)
  rw [undF_digs b hb] at hU1
  have HU1 := Aside0.mk hU1
  have hU2 := undig_f s 3000 (by omega) (by omega)
  have HDL := Aside0.mk (digs_length b)
  obtain ⟨R, hR⟩ : ∃ R, undF s = R := ⟨_, rfl⟩
  have HREF := Aside0.mk (fun W hW => refundigits_any A2 c2 s W hW hc2 (by omega) hb2)
  rw [hR] at hU2 HREF
  have HU2 : Aside0 (scan_Undigits.f 3000 s = some (R.getD [], if R.isSome = true then 0 else 20)) := ⟨by rw [hU2]; cases R <;> rfl⟩
  obtain ⟨D, hD⟩ : ∃ D, strOfNums (digs b) = D := ⟨_, rfl⟩
  have HDD := Aside0.mk hD
  rw [hD] at HD
  have kb := fun (w : World) (s : ByteArray) => Lib.run_convert_string_bytes (P := Try.prog) w 9 24 5 s Try.underlying9 Try.underlying24 Try.underlying5
  clear hr hc hb hr2 hc2 hb2 hx hl hl2 hU1 hU2 hD hR
  go_enter Try.func5, Try.ntmps5
  go_upto_region 5 with (go_at_call 8; (with_reducible refine (awake_any w).mono ?_); rintro e w1 ⟨rfl, hb⟩; have HB := Aside0.mk hb; clear hb)
  have HR1 := Aside0.mk (Kd.C_below (Kd.C_below HR.out HB.out) (below_alloc (Below.refl w1.heap.size w1) (.cells #[] 5)))
  go_wp2_with ((with_reducible refine gate_builtin (b := .append) (xs := #[.tmp 28, .tmp 29]) rfl ?_); at_builtin; refine Kd.R_append_row (Value.int .u8) (0 : Int) (h1 := fun _ => rfl) (w0 := w1) w1.heap.size rfl (.tmp 28) (.tmp 29) 24 5 (.int .u8 0) 1 rfl Try.underlying24 info5 rfl (by decide) (.slice (some ⟨w1.heap.size, 0, none⟩) 0 0) [] b A b.length c (fun _ => True) rfl rfl (fun _ _ => trivial) ?o1 ?o2 ?o3 ?o4 ?o5 ?_)
  case o1 => exact empty_R w1
  case o2 => exact HR1.out
  case o3 => exact below_alloc (Below.refl _ _) _
  case o4 => simp
  case o5 => have := HL.out; simp; omega
  intro v2 w2 hr2 hb2 _ _
  obtain ⟨A3, c3, rfl, hc3, hC3⟩ := Kd.R_reads hr2
  have HC3 := Aside0.mk hc3
  have HR3 : Aside0 (Kd.C (Kd.int .u8) w2 A3 b.length b) := ⟨hC3⟩
  have HB2 : Aside0 (Below w.heap.size w w2) := ⟨HB.out.trans (below_from hb2 HB.out.size)⟩
  clear hr2 hb2 hc3 hC3
  go_upto_region 6 with (go_at_call 14; (with_reducible refine (scan_Digits.calls 2000 A3 c3 b D w2 HR3.out HC3.out HD.out).mono ?_); rintro e w3 ⟨rfl, hb3⟩; have HB3 : Aside0 (Below w.heap.size w w3) := ⟨HB2.out.trans (below_from hb3 HB2.out.size)⟩; clear hb3)
  have HUB : Aside0 (∀ W, Calls Try.prog 15 #[.slice (some ⟨W.heap.size, 0, none⟩) D.size (grownCap W D.size 0 5)] (Lib.bytesWorld W 5 D) fun e w' => ∃ A c, e = .returned (.tuple #[.slice A b.length c, .int .i64 0]) ∧ Kd.C (Kd.int .u8) w' A b.length b ∧ Below W.heap.size W w') := ⟨fun W => undig_bytes W (digs b) b 0 D.size D 3000 HDD.out (by rw [← HDD.out, strOfNums_size]) HDB.out (by rw [← HDD.out, strOfNums_size, HDL.out]; have := HL.out; omega) HU1.out⟩
  go_upto_region 7 with (go_at_call 15; (with_reducible refine (HUB.out w3).mono ?_); rintro e w4 ⟨A4, c4, rfl, hC4, hb4⟩; have HR4 := Aside0.mk hC4; have HB4 : Aside0 (Below w.heap.size w w4) := ⟨HB3.out.trans (below_from hb4 HB3.out.size)⟩; clear hC4 hb4)
  have HR5 := Aside0.mk (Kd.C_below (Kd.C_below HR2.out HB4.out) (below_alloc (Below.refl w4.heap.size w4) (.cells #[] 5)))
  go_wp2_with ((with_reducible refine gate_builtin (b := .append) (xs := #[.tmp 39, .tmp 40]) rfl ?_); at_builtin; refine Kd.R_append_row (Value.int .u8) (0 : Int) (h1 := fun _ => rfl) (w0 := w4) w4.heap.size rfl (.tmp 39) (.tmp 40) 24 5 (.int .u8 0) 1 rfl Try.underlying24 info5 rfl (by decide) (.slice (some ⟨w4.heap.size, 0, none⟩) 0 0) [] s A2 s.length c2 (fun _ => True) rfl rfl (fun _ _ => trivial) ?p1 ?p2 ?p3 ?p4 ?p5 ?_)
  case p1 => exact empty_R w4
  case p2 => exact HR5.out
  case p3 => exact below_alloc (Below.refl _ _) _
  case p4 => simp
  case p5 => have := HL2.out; simp; omega
  intro v5 w5 hr5 hb5 _ _
  obtain ⟨A6, c6, rfl, hc6, hC6⟩ := Kd.R_reads hr5
  have HC6 := Aside0.mk hc6
  have HR6 : Aside0 (Kd.C (Kd.int .u8) w5 A6 s.length s) := ⟨hC6⟩
  have HB5 : Aside0 (Below w4.heap.size w4 w5) := ⟨hb5⟩
  clear hr5 hb5 hc6 hC6
  obtain ⟨L, hL⟩ : ∃ L, R.getD [] = L := ⟨_, rfl⟩
  obtain ⟨ok, hok⟩ : ∃ ok, R.isSome = ok := ⟨_, rfl⟩
  obtain ⟨q, hq⟩ : ∃ q : Int, (if R.isSome = true then 0 else 20) = q := ⟨_, rfl⟩
  have HQ : Aside0 ((ok = true ∧ q = 0) ∨ (ok = false ∧ q = 20 ∧ L = [])) := ⟨by
    subst hL hok hq; cases R
    · exact .inr ⟨rfl, rfl, rfl⟩
    · exact .inl ⟨rfl, rfl⟩⟩
  have HU3 : Aside0 (scan_Undigits.f 3000 s = some (L, q)) := ⟨by rw [HU2.out, hL, hq]⟩
  have HREF2 : Aside0 (∀ W, Kd.C (Kd.int .u8) W A2 s.length s → Calls Try.prog 16 #[.slice A2 s.length c2] W fun e w' => ∃ A c, e = .returned (.tuple #[.slice A L.length c, .bool ok]) ∧ Kd.C (Kd.int .u8) w' A L.length L ∧ Below W.heap.size W w') := ⟨fun W hW => (HREF.out W hW).mono fun e w' hp => by
    obtain ⟨A, c, h1, h2, h3⟩ := hp
    rw [hL] at h1 h2
    rw [hok] at h1
    exact ⟨A, c, h1, own_C h2, h3⟩⟩
  clear hL hok hq
  go_upto_region 8 with (go_at_call 15; (with_reducible refine (undig_any w5 A6 c6 s L q 3000 HR6.out HC6.out HU3.out).mono ?_); rintro e w6 ⟨A7, c7, rfl, hC7, hb7⟩; have HR7 := Aside0.mk hC7; have HB6 : Aside0 (Below w4.heap.size w4 w6) := ⟨HB5.out.trans (below_from hb7 HB5.out.size)⟩; clear hC7 hb7)
  have HB7 : Aside0 (Below w.heap.size w w6) := ⟨HB4.out.trans (below_from HB6.out HB4.out.size)⟩
  go_upto_region 9 with (go_at_call 16; (with_reducible refine (HREF2.out w6 (Kd.C_below HR2.out HB7.out)).mono ?_); rintro e w7 ⟨A8, c8, rfl, hC8, hb8⟩; have HR8 := Aside0.mk hC8; have HB8 := Aside0.mk hb8; clear hC8 hb8)
  obtain ⟨hv, hhv⟩ : ∃ hv, (hexS x).getD 0 = hv := ⟨_, rfl⟩
  obtain ⟨is, his⟩ : ∃ is, (hexS x).isSome = is := ⟨_, rfl⟩
  have hhx := hex_fk 4 (by decide) x
  rw [hhv, his] at hhx
  have HHX := Aside0.mk hhx
  have HIS := Aside0.mk (And.intro hhv his)
  clear hhv his hhx
  go_upto_region 10 with (go_at_call 17; (with_reducible refine (scan_Hex.calls 4 x hv is _ HHX.out).mono ?_); rintro e w8 ⟨rfl, hd⟩; have HB9 : Aside0 (Below w7.heap.size w7 w8) := ⟨hd.below⟩; clear hd)
  go_wp2_with (fail)
  go_loopg [16, 55] 17 (fun kq v16 v55 wr => ∃ (i : Int), v16 = .int .i64 (wantF x i) ∧ v55 = .int .i64 i ∧ Aside0 (0 ≤ i ∧ i ≤ 16) ∧ Aside0 (16 < (kq : Int) + i) ∧ wr = w8)
  case atStart => exact ⟨0, by rw [wantF_zero], rfl, ⟨by decide⟩, ⟨by decide⟩, rfl⟩
  case round =>
    obtain ⟨i, rfl, rfl, HI, HK, rfl⟩ := hrel
    obtain ⟨n, rfl⟩ : ∃ n, gk = n + 1 := ⟨gk - 1, by have := HK.out; have := HI.out; omega⟩
    by_cases hlt : i < 16
    · have HI2 := HI.out
      obtain ⟨k0, k1⟩ := HI2
      have hbt := bt_at (⟨#[48, 49, 50, 51, 52, 53, 54, 55, 56, 57, 97, 98, 99, 100, 101, 102]⟩ : ByteArray) i
      have hdd := dstr_at false i k0 hlt
      unfold dstr at hdd
      rw [if_neg (show ¬ (false = true) by decide)] at hdd
      rw [hdd] at hbt
      have wi : IntKind.i64.wrap (i + 1) = i + 1 := by rw [IntKind.wrap_i64]; omega
      have e0 : decide (i < 16) = true := decide_eq_true hlt
      have ways := want_step x i k0 hlt
      obtain ⟨dgi, hdg⟩ : ∃ d, dg false i = d := ⟨_, rfl⟩
      rw [hdg] at hbt ways
      clear hdd hdg
      rcases ways with ⟨t1, t2⟩ | ⟨t1, t2⟩
      all_goals
        have HT2 := Aside0.mk t2
        clear t2
        go_wp2_with (fail)
        go_roundg n
        case measure => omega
        case rel => exact ⟨i + 1, by rw [HT2.out], by first | rfl | (rw [wi]), ⟨by omega⟩, ⟨by have := HK.out; omega⟩, rfl⟩
    · have hi : i = 16 := by have := HI.out; omega
      subst hi
      rw [want_end]
      have HBA : Aside0 (Below w4.heap.size w4 wr) := ⟨HB6.out.trans (below_from (HB8.out.trans (below_from HB9.out HB8.out.size)) HB6.out.size)⟩
      have HBW : Aside0 (Below w.heap.size w wr) := ⟨HB4.out.trans (below_from HBA.out HB4.out.size)⟩
      have HRD : Aside0 (Calls Try.prog 18 #[.slice A b.length c] wr fun e w' => e = .returned (.string D) ∧ Drawn0 wr w') := ⟨by
        have h := refdigits_any A c b wr (Kd.C_below HR.out HBW.out) HC.out (by have := HL.out; omega) HBY.out
        rw [HDD.out] at h
        exact h⟩
      have v1 : ∀ k : Nat, (convert 24 9 (.slice A4 b.length c4)).run Try.prog (wr.drewN k) = .ok (.string (strOfNums b)) (wr.drewN k) := fun k => Kd.C_string (P := Try.prog) (c := c4) Try.underlying24 Try.underlying5 Try.underlying9 (Kd.C_drewN (Kd.C_below HR4.out HBA.out) k)
      have v2 : ∀ k : Nat, (convert 24 9 (.slice A b.length c)).run Try.prog (wr.drewN k) = .ok (.string (strOfNums b)) (wr.drewN k) := fun k => Kd.C_string (P := Try.prog) (c := c) Try.underlying24 Try.underlying5 Try.underlying9 (Kd.C_drewN (Kd.C_below HR.out HBW.out) k)
      have v3 : ∀ k : Nat, (convert 24 9 (.slice A7 L.length c7)).run Try.prog (wr.drewN k) = .ok (.string (strOfNums L)) (wr.drewN k) := fun k => Kd.C_string (P := Try.prog) (c := c7) Try.underlying24 Try.underlying5 Try.underlying9 (Kd.C_drewN (Kd.C_below HR7.out (HB8.out.trans (below_from HB9.out HB8.out.size))) k)
      have v4 : ∀ k : Nat, (convert 24 9 (.slice A8 L.length c8)).run Try.prog (wr.drewN k) = .ok (.string (strOfNums L)) (wr.drewN k) := fun k => Kd.C_string (P := Try.prog) (c := c8) Try.underlying24 Try.underlying5 Try.underlying9 (Kd.C_drewN (Kd.C_below HR8.out HB9.out) k)
      have ways : (is = false ∧ (hexS x).getD (-1) = -1) ∨ (is = true ∧ (hexS x).getD (-1) = hv ∧ 0 ≤ hv ∧ hv < 16) := by
        obtain ⟨h1, h2⟩ := HIS.out
        cases h : hexS x with
        | none => rw [h] at h2; exact .inl ⟨h2.symm, rfl⟩
        | some d =>
          have hd := hexS_le h
          rw [h] at h1 h2
          simp only [Option.getD_some] at h1 ⊢
          subst h1
          exact .inr ⟨h2.symm, rfl, hd⟩
      have hq := HQ.out
      clear HK HI hlt
      rcases ways with ⟨rfl, hw⟩ | ⟨rfl, hw, k0, k1⟩
      all_goals
        rw [hw]
        clear hw
        rcases hq with ⟨rfl, rfl⟩ | ⟨rfl, rfl, rfl⟩
        all_goals
          go_wp2_with (go_at_call 18; (with_reducible refine HRD.out.mono ?_); rintro e w9 ⟨rfl, ⟨m9, rfl⟩⟩)
          go_ret
          exact ⟨rfl, HBW.out.trans (below_from (pw_below_drewN (Below.refl _ _) m9) HBW.out.size)⟩
theorem ScanHex_walk (a0 : Option Addr) (len0 cap0 : Nat) (z0 : List Int) (a1 : Option Addr) (len1 cap1 : Nat) (z1 : List Int) (a2 : Int) (w : World)
    (w0 : (a0 = none ∧ len0 = 0 ∧ cap0 = 0 ∧ z0 = []) ∨ ∃ x, a0 = some x ∧ len0 ≤ cap0 ∧ cap0 ≤ maxLen ∧ z0.length = cap0 ∧ (∀ i, i < z0.length → w.cell? (x.add i) = some (.int .u8 (z0.getD i 0))) ∧ ∀ n ∈ z0, (Lit.int .u8 n).wf = true)
    (y0 : len0 * 1 ≤ 140737488351232)
    (w1 : (a1 = none ∧ len1 = 0 ∧ cap1 = 0 ∧ z1 = []) ∨ ∃ x, a1 = some x ∧ len1 ≤ cap1 ∧ cap1 ≤ maxLen ∧ z1.length = cap1 ∧ (∀ i, i < z1.length → w.cell? (x.add i) = some (.int .u8 (z1.getD i 0))) ∧ ∀ n ∈ z1, (Lit.int .u8 n).wf = true)
    (y1 : len1 * 1 ≤ 140737488351232) (w2 : (Lit.int .u8 a2).wf = true) :
    Calls Try.prog 5 #[.slice a0 len0 cap0, .slice a1 len1 cap1, .int .u8 a2] w fun e w' => e = .returned (.bool true) ∧ Below w.heap.size w w' := by
  obtain ⟨l, rfl, hr, hm, hw, hc⟩ := ReadsInt.ofRowC w0
  obtain ⟨l2, rfl, hr2, hm2, hw2, hc2⟩ := ReadsInt.ofRowC w1
  by_cases h : l.length ≤ 1000 ∧ l2.length ≤ 1000
  · exact hex_small _ _ _ _ l l2 a2 w (Kd.C_of_reads (d := (0 : Int)) (h1 := fun _ => rfl) hr) hc (fun x hx => wf_u8 (hw x hx)) (Kd.C_of_reads (d := (0 : Int)) (h1 := fun _ => rfl) hr2) hc2 (fun x hx => wf_u8 (hw2 x hx)) (wf_u8 w2) h.1 h.2
  · exact hex_large _ _ _ _ l l2 a2 w (by omega) (by omega) (by omega)
end Go.Proofs.Ytonekmigcpgdeaa.Hand
