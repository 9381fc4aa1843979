/- Layer 13, scan: the document's digits of base sixteen. -/
import Derived.Test.YtonekmigcpgdeaaS13
import Derived.Test.YtonekmigcpgdeaaWalkScanUnits
namespace Go.Proofs.Ytonekmigcpgdeaa.Hand
open Go.RowKit Go.Proofs.Ytonekmigcpgdeaa.QAll Go.Proofs.YtonekmigcpgdeaaW.PrintWords Go.Proofs.YtonekmigcpgdeaaW.PrintLast Go.Proofs.YtonekmigcpgdeaaW.PrintMore Go.Proofs.Ytonekmigcpgdeaa.Runes
set_option linter.unusedVariables false
set_option linter.unusedSimpArgs false
theorem digs_take (l : List Int) (i : Nat) (h : i < l.length) : digs (l.take (i + 1)) = digs (l.take i) ++ [dg false (l[i] / 16), dg false (l[i] % 16)] := by
  rw [List.take_succ_eq_append_getElem h, digs_append]; rfl
theorem cell_at {W : World} {ad : Addr} {l : List Int} (h : Kd.C (Kd.int .u8) W (some ad) l.length l) (i : Nat) (hi : i < l.length) : W.cell? (ad.add i) = some (.int .u8 l[i]) := by
  have hR := Kd.reads_of_C (enc := Value.int .u8) (d := (0 : Int)) (h1 := fun _ => rfl) h
  obtain ⟨ad', e, hc⟩ := hR.2.2 (by omega)
  injection e with e; subst e
  rw [hc i hi, List.getD_eq_getElem?_getD, List.getElem?_eq_getElem hi]; rfl
theorem addr_of {W : World} {A : Option Addr} {l : List Int} (h : Kd.C (Kd.int .u8) W A l.length l) (hl : 0 < l.length) : ∃ ad, A = some ad := by
  obtain ⟨ad, e, _⟩ := (Kd.reads_of_C (enc := Value.int .u8) (d := (0 : Int)) (h1 := fun _ => rfl) h).2.2 hl
  exact ⟨ad, e⟩
theorem ext_dg (k : Int) (h0 : 0 ≤ k) (h1 : k < 16) : (⟨#[48, 49, 50, 51, 52, 53, 54, 55, 56, 57, 97, 98, 99, 100, 101, 102]⟩ : ByteArray).extract k.toNat (k + 1).toNat = strOfNums [dg false k] := by
  have : k = 0 ∨ k = 1 ∨ k = 2 ∨ k = 3 ∨ k = 4 ∨ k = 5 ∨ k = 6 ∨ k = 7 ∨ k = 8 ∨ k = 9 ∨ k = 10 ∨ k = 11 ∨ k = 12 ∨ k = 13 ∨ k = 14 ∨ k = 15 := by omega
  rcases this with rfl | rfl | rfl | rfl | rfl | rfl | rfl | rfl | rfl | rfl | rfl | rfl | rfl | rfl | rfl | rfl <;> rfl
set_option maxHeartbeats 3200000 in
set_option maxRecDepth 100000 in
theorem refdigits_any (A : Option Addr) (c : Nat) (l : List Int) (w : World) (hr : Kd.C (Kd.int .u8) w A l.length l) (hc : l.length ≤ c) (hl : l.length ≤ 1000000) (hb : ∀ x ∈ l, 0 ≤ x ∧ x < 256) :
    Calls Try.prog 18 #[.slice A l.length c] w fun e w' => e = .returned (.string (strOfNums (digs l))) ∧ Drawn0 w w' := by
  have HR := Aside0.mk hr
  have HC := Aside0.mk hc
  have HL := Aside0.mk hl
  have HBY := Aside0.mk hb
  clear hr hc hl hb
  go_enter Try.func18, Try.ntmps18
  go_wp2
  go_loopg [4, 5] (l.length + 1) (fun kq v4 v5 w' => ∃ (i : Nat), v4 = .string (strOfNums (digs (l.take i))) ∧ v5 = .int .i64 i ∧ Aside0 (i ≤ l.length) ∧ Aside0 (l.length < kq + i) ∧ Drawn0 w w')
  case atStart => exact ⟨0, rfl, rfl, ⟨Nat.zero_le _⟩, ⟨by omega⟩, Drawn0.refl _⟩
  case round =>
    obtain ⟨i, rfl, rfl, HI, HK, ⟨m1, rfl⟩⟩ := hrel
    by_cases hlt : i < l.length
    · obtain ⟨ad, rfl⟩ := addr_of HR.out (by omega)
      have hx := cell_at HR.out i hlt
      have hb := HBY.out _ (List.getElem_mem hlt)
      have ht := digs_take l i hlt
      have hsz : (strOfNums (digs (l.take i))).size ≤ 2000000 := by rw [strOfNums_size, digs_length, List.length_take]; have := HL.out; omega
      obtain ⟨x, hxx⟩ : ∃ x, l[i] = x := ⟨_, rfl⟩
      rw [hxx] at hx hb ht
      obtain ⟨D, hD⟩ : ∃ D, strOfNums (digs (l.take i)) = D := ⟨_, rfl⟩
      have HT := Aside0.mk ht
      have HD := Aside0.mk hD
      rw [hD] at hsz ⊢
      have ha0 : 0 ≤ x / 16 ∧ x / 16 < 16 := by omega
      have hb0 : 0 ≤ x % 16 ∧ x % 16 < 16 := by omega
      have t1 : Int.tdiv x 16 = x / 16 := by rw [Int.tdiv_eq_ediv_of_nonneg hb.1]
      have t2 : Int.tmod x 16 = x % 16 := by rw [Int.tmod_eq_emod_of_nonneg hb.1]
      obtain ⟨a, ha⟩ : ∃ a, x / 16 = a := ⟨_, rfl⟩
      obtain ⟨b, hbb⟩ : ∃ b, x % 16 = b := ⟨_, rfl⟩
      rw [ha] at ha0 t1 HT
      rw [hbb] at hb0 t2 HT
      have w1 : IntKind.u8.wrap a = a := by rw [IntKind.wrap_u8]; omega
      have w2 : IntKind.u8.wrap b = b := by rw [IntKind.wrap_u8]; omega
      have w3 : IntKind.u8.wrap (a + 1) = a + 1 := by rw [IntKind.wrap_u8]; omega
      have w4 : IntKind.u8.wrap (b + 1) = b + 1 := by rw [IntKind.wrap_u8]; omega
      have d0 : decide (i < l.length) = true := decide_eq_true hlt
      have d1 : decide ((i : Int) < (l.length : Int)) = true := decide_eq_true (by omega)
      have k0 : (0 : Int) ≤ (i : Int) := Int.natCast_nonneg _
      have k1 : (i : Int) < (l.length : Int) := by omega
      obtain ⟨a1, a2⟩ := ha0
      obtain ⟨b1, b2⟩ := hb0
      have a3 : a ≤ a + 1 := by omega
      have a4 : a + 1 ≤ 16 := by omega
      have b3 : b ≤ b + 1 := by omega
      have b4 : b + 1 ≤ 16 := by omega
      clear ht hD ha hbb hxx hb
      go_upto_region 6 with (fail)
      go_quiet (fail)
      have HX : Aside0 (D ++ (⟨#[48, 49, 50, 51, 52, 53, 54, 55, 56, 57, 97, 98, 99, 100, 101, 102]⟩ : ByteArray).extract a.toNat (a + 1).toNat ++ (⟨#[48, 49, 50, 51, 52, 53, 54, 55, 56, 57, 97, 98, 99, 100, 101, 102]⟩ : ByteArray).extract b.toNat (b + 1).toNat = strOfNums (digs (l.take (i + 1)))) := ⟨by
        rw [ext_dg a a1 a2, ext_dg b b1 b2, ← HD.out, str_app, str_app, HT.out, List.append_assoc]; rfl⟩
      have wi : IntKind.i64.wrap ((i : Int) + 1) = (i : Int) + 1 := by rw [IntKind.wrap_i64]; have := HL.out; omega
      obtain ⟨n, rfl⟩ : ∃ n, gk = n + 1 := ⟨gk - 1, by have := HK.out; omega⟩
      clear hx t1 t2 w1 w2 w3 w4 d0 d1 a1 a2 b1 b2 a3 a4 b3 b4
      go_wp2_with (fail)
      go_roundg n
      case measure => omega
      case rel => exact ⟨i + 1, by rw [HX.out], by go_num, ⟨by omega⟩, ⟨by have := HK.out; omega⟩, ⟨_, rfl⟩⟩
    · have d0 : decide (i < l.length) = false := decide_eq_false hlt
      have d1 : decide ((i : Int) < (l.length : Int)) = false := decide_eq_false (by omega)
      have HE : Aside0 (l.take i = l) := ⟨List.take_of_length_le (by omega)⟩
      go_wp2_with (fail)
      go_ret
      rw [HE.out]
      exact ⟨rfl, ⟨_, rfl⟩⟩
/-- What Undigits tells. -/
def UndPost (R : Option (List Int)) (w : World) (e : Ending) (w' : World) : Prop :=
  ∃ A c, e = .returned (.tuple #[.slice A (R.getD []).length c, .bool R.isSome]) ∧ w'.ownsRow w.heap.size 5 1 (.slice A (R.getD []).length c) (R.getD []).length (encs (Value.int .u8) (R.getD [])) ∧ Below w.heap.size w w'
theorem below_own {w W W' : World} {row : Option Nat} (h : Below w.heap.size w W) (hg : W.grownBy W' row) (hrow : ∀ k, row = some k → w.heap.size ≤ k) : Below w.heap.size w W' :=
  ⟨hg.os.trans h.os, hg.tape.trans h.tape, hg.output.trans h.output, Nat.le_trans h.size hg.size, fun k hk => (hg.block k (Nat.lt_of_lt_of_le hk h.size) (fun e => by have := hrow k e.symm; omega)).trans (h.block k hk)⟩
set_option maxHeartbeats 3200000 in
set_option maxRecDepth 100000 in
theorem refundigits_any (A : Option Addr) (c : Nat) (l : List Int) (w : World) (hr : Kd.C (Kd.int .u8) w A l.length l) (hc : l.length ≤ c) (hl : l.length ≤ 1000000) (hb : ∀ x ∈ l, 0 ≤ x ∧ x < 256) :
    Calls Try.prog 16 #[.slice A l.length c] w (UndPost (undF l) w) := by
  have HR := Aside0.mk hr
  have HC := Aside0.mk hc
  have HL := Aside0.mk hl
  have HBY := Aside0.mk hb
  obtain ⟨R, hR⟩ : ∃ R, undF l = R := ⟨_, rfl⟩
  have HRR := Aside0.mk hR
  rw [hR]
  have HNO : Aside0 (∀ W, R = none → Below w.heap.size w W → UndPost R w (.returned (.tuple #[.slice none 0 0, .bool false])) W) := ⟨fun W h1 h2 => by
    subst h1; exact ⟨none, 0, rfl, World.ownsRow_nil _ _ _ _, h2⟩⟩
  clear hr hc hl hb hR
  go_enter Try.func16, Try.ntmps16
  go_wp2
  go_loopg [4, 5] (l.length + 1) (fun kq v4 v5 wr => ∃ (i : Nat) (o : List Int), v5 = .int .i64 i ∧ Aside0 (i ≤ l.length + 1) ∧ Aside0 (l.length < kq + i) ∧ Aside0 (o.length ≤ i) ∧ Aside0 ((undF (l.drop i)).map (o ++ ·) = R) ∧ Aside0 (wr.ownsRow w.heap.size 5 1 v4 o.length (encs (Value.int .u8) o)) ∧ Aside0 (Below w.heap.size w wr))
  case atStart => exact ⟨0, [], rfl, ⟨Nat.zero_le _⟩, ⟨by omega⟩, ⟨Nat.le_refl _⟩, ⟨by rw [List.drop_zero, HRR.out]; cases R <;> rfl⟩, ⟨World.ownsRow_nil _ _ _ _⟩, ⟨Below.refl _ _⟩⟩
  case round =>
    obtain ⟨i, o, rfl, HI, HK, HO, HM, HOWN, HB⟩ := hrel
    obtain ⟨Ao, co, rfl, hoc⟩ := own_form HOWN.out
    have k0 : (0 : Int) ≤ (i : Int) := Int.natCast_nonneg _
    obtain ⟨j, hj⟩ : ∃ j, j = i + 1 := ⟨_, rfl⟩
    have HJ := Aside0.mk hj
    have wi1 : IntKind.i64.wrap ((i : Int) + 1) = (j : Int) := by rw [IntKind.wrap_i64]; have := HL.out; have := HI.out; omega
    have wi2 : IntKind.i64.wrap ((i : Int) + 2) = (i : Int) + 2 := by rw [IntKind.wrap_i64]; have := HL.out; have := HI.out; omega
    clear hoc
    by_cases hlt : i < l.length
    · have d0 : decide (i < l.length) = true := decide_eq_true hlt
      have d1 : decide ((i : Int) < (l.length : Int)) = true := decide_eq_true (by omega)
      by_cases hlt2 : j < l.length
      · have d2 : decide (l.length ≤ j) = false := decide_eq_false (by omega)
        have d3 : decide ((l.length : Int) ≤ (j : Int)) = false := decide_eq_false (by omega)
        obtain ⟨ad, rfl⟩ := addr_of HR.out (by omega)
        have hCr := Kd.C_below HR.out HB.out
        have hx := cell_at hCr i hlt
        have hy := cell_at hCr j hlt2
        have hbx := HBY.out _ (List.getElem_mem hlt)
        have hby := HBY.out _ (List.getElem_mem hlt2)
        have hm := HM.out
        rw [List.drop_eq_getElem_cons hlt, ← hj, List.drop_eq_getElem_cons hlt2] at hm
        simp only [undF] at hm
        obtain ⟨x, hxx⟩ : ∃ x, l[i] = x := ⟨_, rfl⟩
        obtain ⟨y, hyy⟩ : ∃ y, l[j] = y := ⟨_, rfl⟩
        rw [hxx] at hx hbx hm
        rw [hyy] at hy hby hm
        have HDX := Aside0.mk (digit_f x hbx.1 hbx.2)
        have HDY := Aside0.mk (digit_f y hby.1 hby.2)
        have HMM := Aside0.mk hm
        have wx : IntKind.i64.wrap x = x := by rw [IntKind.wrap_i64]; omega
        have wy : IntKind.i64.wrap y = y := by rw [IntKind.wrap_i64]; omega
        have k1 : (i : Int) < (l.length : Int) := by omega
        have k2 : (0 : Int) ≤ (j : Int) := Int.natCast_nonneg _
        have k3 : (j : Int) < (l.length : Int) := by omega
        obtain ⟨dx, hdx⟩ : ∃ d, (hexS x).getD (-1) = d := ⟨_, rfl⟩
        obtain ⟨dy, hdy⟩ : ∃ d, (hexS y).getD (-1) = d := ⟨_, rfl⟩
        rw [hdx] at HDX
        rw [hdy] at HDY
        have HX1 := Aside0.mk hdx
        have HY1 := Aside0.mk hdy
        clear hm hxx hyy hdx hdy hbx hby hCr hj
        go_upto_region 7 with (fail)
        go_quiet ((first | (go_at_call 35; with_reducible exact quietD (transomref13_digit.calls 5 x false dx _ HDX.out)) | (go_at_call 35; with_reducible exact quietD (transomref13_digit.calls 5 y false dy _ HDY.out))))
        rename_i nq
        have HB5 : Aside0 (Below w.heap.size w (wr.drewN nq)) := ⟨HB.out.trans (below_from (pw_below_drewN (Below.refl _ _) nq) HB.out.size)⟩
        have HO5 : Aside0 ((wr.drewN nq).ownsRow w.heap.size 5 1 (.slice Ao o.length co) o.length (encs (Value.int .u8) o)) := ⟨own_below HOWN.out (pw_below_drewN (Below.refl _ _) nq)⟩
        obtain ⟨w5, hw5⟩ : ∃ w5, wr.drewN nq = w5 := ⟨_, rfl⟩
        rw [hw5] at HB5 HO5 ⊢
        clear hw5 hx hy wx wy k1 k2 k3 d0 d1 d2 d3
        have ways : (R = none ∧ decide (dx < 0) = true) ∨ (R = none ∧ decide (dx < 0) = false ∧ decide (dy < 0) = true) ∨ (decide (dx < 0) = false ∧ decide (dy < 0) = false ∧ (0 ≤ dx ∧ dx < 16) ∧ (0 ≤ dy ∧ dy < 16) ∧ (undF (l.drop (j + 1))).map ((o ++ [16 * dx + dy]) ++ ·) = R) := by
          have hm := HMM.out
          have h1 := HX1.out
          have h2 := HY1.out
          cases hx : hexS x with
          | none => rw [hx] at hm h1; simp at hm h1; exact .inl ⟨hm.symm, decide_eq_true (by omega)⟩
          | some a =>
            have ha := hexS_le hx
            cases hy : hexS y with
            | none => rw [hx, hy] at hm; rw [hx] at h1; rw [hy] at h2; simp at hm h1 h2; exact .inr (.inl ⟨hm.symm, decide_eq_false (by omega), decide_eq_true (by omega)⟩)
            | some b =>
              have hb := hexS_le hy
              rw [hx, hy] at hm; rw [hx] at h1; rw [hy] at h2
              simp only [Option.getD_some] at h1 h2
              subst h1 h2
              refine .inr (.inr ⟨decide_eq_false (by omega), decide_eq_false (by omega), ha, hb, ?_⟩)
              rw [← hm]
              cases undF (l.drop (j + 1)) <;> simp
        rcases ways with ⟨hn, q1⟩ | ⟨hn, q1, q2⟩ | ⟨q1, q2, ba, bb, hm⟩
        · have HN := Aside0.mk hn
          clear hn
          go_wp2_with (fail)
          go_ret2
          exact HNO.out _ HN.out HB5.out
        · have HN := Aside0.mk hn
          clear hn
          go_wp2_with (fail)
          go_ret2
          exact HNO.out _ HN.out HB5.out
        · have HM2 := Aside0.mk hm
          have v1 : IntKind.i64.wrap (16 * dx) = 16 * dx := by rw [IntKind.wrap_i64]; omega
          have v2 : IntKind.i64.wrap (16 * dx + dy) = 16 * dx + dy := by rw [IntKind.wrap_i64]; omega
          have v3 : IntKind.u8.wrap (16 * dx + dy) = 16 * dx + dy := by rw [IntKind.wrap_u8]; omega
          obtain ⟨z, hz⟩ : ∃ z, 16 * dx + dy = z := ⟨_, rfl⟩
          have hz0 : 0 ≤ z ∧ z < 256 := by omega
          rw [hz] at v2 v3 HM2
          obtain ⟨n, rfl⟩ : ∃ n, gk = n + 1 := ⟨gk - 1, by have := HK.out; omega⟩
          obtain ⟨bz0, bz1⟩ := hz0
          obtain ⟨i0, hi, hz0, hz1, hz2⟩ := info_parts info5
          have HI5 := Aside0.mk hi
          clear hi hm ba bb
          go_wp2_with ((with_reducible refine gate_builtin (b := .append) (xs := #[.tmp 38, .tmp 44]) rfl ?_); at_builtin; refine wpList_append_own _ rfl (.tmp 38) (.tmp 44) 24 rfl w.heap.size 5 i0 (.int .u8 0) 1 1 Try.underlying24 HI5.out hz0 hz1 hz2 rfl (by decide) (.slice Ao o.length co) o.length (encs (Value.int .u8) o) rfl (HO5.out.alloc _) ⟨w5.heap.size, 0, none⟩ 1 1 [.int .u8 z] rfl rfl ?c1 ?c2 ?c3 ?c4 ?c5 ?_)
          case c1 =>
            intro j u hj
            match j, hj with
            | 0, hj => simp at hj; subst hj; simp [Addr.add]
            | (j + 1), hj => simp at hj
          case c2 => intro u hu; simp at hu; subst hu; rfl
          case c3 => unfold maxLen; have := HO.out; have := HL.out; omega
          case c4 => have := HO.out; have := HL.out; omega
          case c5 => have := HB5.out.size; simp; omega
          intro v9 w9 ho9 hg9 _
          have HO9 : Aside0 (w9.ownsRow w.heap.size 5 1 v9 (o ++ [z]).length (encs (Value.int .u8) (o ++ [z]))) := ⟨by rw [encs_append, List.length_append]; exact ho9⟩
          have HB9 : Aside0 (Below w.heap.size w w9) := ⟨below_own (below_alloc HB5.out _) hg9 (own_base HO5.out)⟩
          clear ho9 hg9
          go_wp2_with (fail)
          go_roundg n
          case measure => omega
          case rel => exact ⟨i + 2, o ++ [z], by go_num, ⟨by omega⟩, ⟨by have := HK.out; omega⟩, ⟨by rw [List.length_append]; simp; have := HO.out; omega⟩, ⟨by rw [show i + 2 = j + 1 by have := HJ.out; omega]; exact HM2.out⟩, HO9, HB9⟩
      · have d2 : decide (l.length ≤ j) = true := decide_eq_true (by omega)
        have d3 : decide ((l.length : Int) ≤ (j : Int)) = true := decide_eq_true (by omega)
        have HN : Aside0 (R = none) := ⟨by
          have hm := HM.out
          rw [List.drop_eq_getElem_cons hlt, List.drop_of_length_le (by omega)] at hm
          simpa [undF] using hm.symm⟩
        clear hj
        go_wp2_with (fail)
        go_ret2
        exact HNO.out _ HN.out HB.out
    · have d0 : decide (i < l.length) = false := decide_eq_false hlt
      have d1 : decide ((i : Int) < (l.length : Int)) = false := decide_eq_false (by omega)
      have HE : Aside0 (R = some o) := ⟨by
        have hm := HM.out
        rw [List.drop_of_length_le (by omega)] at hm
        simpa [undF] using hm.symm⟩
      clear hj
      go_wp2_with (fail)
      go_ret2
      rw [HE.out]
      exact ⟨_, _, rfl, HOWN.out, HB.out⟩
end Go.Proofs.Ytonekmigcpgdeaa.Hand
