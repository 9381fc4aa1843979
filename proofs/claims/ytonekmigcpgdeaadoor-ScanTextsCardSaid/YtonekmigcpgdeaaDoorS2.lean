/- Layer 13, scan: a part of bytes, and four digits of base sixteen. -/
import Derived.Test.YtonekmigcpgdeaaDoorS1
namespace Go.Proofs.YtonekmigcpgdeaaDoor.Hand
open Go.RowKit Go.Proofs.YtonekmigcpgdeaaDoor.QAll Go.Proofs.YtonekmigcpgdeaaDoorW.PrintWords Go.Proofs.YtonekmigcpgdeaaDoorW.PrintLast Go.Proofs.YtonekmigcpgdeaaDoorW.PrintMore
set_option linter.unusedVariables false
set_option linter.unusedSimpArgs false

theorem within_ok (l : List Int) (hl : l.length ≤ 1000000) (a n : Nat) : wire_Within.f l (a : Int) (n : Int) = some (decide (a + n ≤ l.length)) := by
  unfold wire_Within.f
  rw [if_pos (by omega), if_pos (by omega)]
  by_cases h : (a : Int) ≤ (l.length : Int)
  · have e : wrap64 ((l.length : Int) - a) = (l.length : Int) - a := by unfold wrap64; omega
    rw [if_pos h, e]
    congr 1
    rw [Bool.eq_iff_iff, decide_eq_true_iff, decide_eq_true_iff]; omega
  · rw [if_neg h]
    congr 1
    symm; rw [decide_eq_false_iff_not]; omega
set_option maxHeartbeats 1600000 in
theorem part_no (A : Option Addr) (c : Nat) (l : List Int) (a n : Nat) (w : World) (hr : Kd.C (Kd.int .u8) w A l.length l) (hc : l.length ≤ c) (hl : l.length ≤ 1000000) (hin : ¬ a + n ≤ l.length) :
    Calls Tryd.prog 29 #[.slice A l.length c, .int .i64 a, .int .i64 n] w fun e w' => e = .returned (.tuple #[.slice none 0 0, .bool false]) ∧ Drawn0 w w' := by
  have HR := Aside0.mk hr
  have HC := Aside0.mk hc
  have HW := Aside0.mk ((within_ok l hl a n).trans (by rw [decide_eq_false hin]))
  clear hr hc hin
  go_enter Tryd.func29, Tryd.ntmps29
  go_wp2_with (go_at_call 39; (with_reducible refine (wire_Within.calls A c l a n _ _ HR.out HC.out HW.out).mono ?_); rintro e w' ⟨rfl, ⟨nd, rfl⟩⟩)
  go_ret2
  exact ⟨rfl, ⟨_, rfl⟩⟩
set_option maxHeartbeats 1600000 in
theorem part_ok (ad : Addr) (c : Nat) (l : List Int) (a n : Nat) (w : World) (hr : Kd.C (Kd.int .u8) w (some ad) l.length l) (hc : l.length ≤ c) (hl : l.length ≤ 1000000) (hin : a + n ≤ l.length) (hn : 1 ≤ n) :
    Calls Tryd.prog 29 #[.slice (some ad) l.length c, .int .i64 a, .int .i64 n] w fun e w' => e = .returned (.tuple #[.slice (some (ad.add a)) n n, .bool true]) ∧ Drawn0 w w' := by
  have HR := Aside0.mk hr
  have HC := Aside0.mk hc
  have HW := Aside0.mk ((within_ok l hl a n).trans (by rw [decide_eq_true hin]))
  have hc1 : (l.length : Int) ≤ (c : Int) := by omega
  have hin1 : (a : Int) + (n : Int) ≤ (l.length : Int) := by omega
  have hin2 : (a : Int) + (n : Int) ≤ (c : Int) := by omega
  have hne : ¬ (n = 0) := by omega
  have HN := Aside0.mk hn
  clear hr hc hn
  go_enter Tryd.func29, Tryd.ntmps29
  go_wp2_with (go_at_call 39; (with_reducible refine (wire_Within.calls (some ad) c l a n _ _ HR.out HC.out HW.out).mono ?_); rintro e w' ⟨rfl, ⟨nd, rfl⟩⟩)
  go_ret2
  have e : a + n - a = n := by omega
  exact ⟨by simp [e], ⟨_, rfl⟩⟩

/-- A digit of base sixteen, small or great. -/
def hexV (c : Int) : Option Int := if 48 ≤ c ∧ c ≤ 57 then some (c - 48) else if 97 ≤ c ∧ c ≤ 102 then some (c - 87) else if 65 ≤ c ∧ c ≤ 70 then some (c - 55) else none
def unitF : List Int → Int → Option Int
  | [], n => some n
  | c :: t, n => (hexV c).bind fun d => unitF t (n * 16 + d)
/-- Four digits from a place on. -/
def unitV (b : List Int) (i : Nat) : Option Int := if i + 4 ≤ b.length then unitF ((b.drop i).take 4) 0 else none
theorem hexV_le {c d : Int} (h : hexV c = some d) : 0 ≤ d ∧ d < 16 := by
  unfold hexV at h; split at h
  · injection h with h; omega
  · split at h
    · injection h with h; omega
    · split at h
      · injection h with h; omega
      · cases h
theorem quietD {f : FuncId} {args : Array Value} {w : World} {n : Nat} {v : Value} (h : Calls Tryd.prog f args (w.drewN n) fun e w' => e = .returned v ∧ Drawn0 (w.drewN n) w') :
    Calls Tryd.prog f args (w.drewN n) fun e w'' => e = .returned v ∧ ∃ m, w'' = w.drewN m :=
  Calls.quiet_of (h.mono fun _ _ ⟨he, hd⟩ => by obtain ⟨k, hk⟩ := hd; exact ⟨he, k, hk⟩)
theorem add_add (a : Addr) (m n : Nat) : (a.add m).add n = a.add (m + n) := by
  unfold Addr.add
  by_cases h1 : m = 0 <;> by_cases h2 : n = 0 <;> simp [h1, h2, Nat.add_assoc]
theorem hex_f (c : Int) : scan_Hex.f 4 c = some (if 48 ≤ c ∧ c ≤ 57 then (c - 48, true) else if 97 ≤ c ∧ c ≤ 102 then (c - 87, true) else (0, false)) := by
  unfold scan_Hex.f
  by_cases h1 : c ≥ 48
  · rw [if_pos h1]
    by_cases h2 : c ≤ 57
    · simp only [scan_Hex.j0, decide_eq_true h2, if_true]
      rw [if_pos (show 48 ≤ c ∧ c ≤ 57 from ⟨h1, h2⟩)]; congr 2; omega
    · simp only [scan_Hex.j0, decide_eq_false h2, Bool.false_eq_true, if_false]
      rw [if_neg (show ¬ (48 ≤ c ∧ c ≤ 57) by omega)]
      by_cases h3 : c ≥ 97
      · rw [if_pos h3]
        by_cases h4 : c ≤ 102
        · rw [if_pos h4, if_pos (show 97 ≤ c ∧ c ≤ 102 from ⟨h3, h4⟩)]; congr 2; omega
        · rw [if_neg h4, if_neg (show ¬ (97 ≤ c ∧ c ≤ 102) by omega)]
      · rw [if_neg h3, if_neg (show ¬ (97 ≤ c ∧ c ≤ 102) by omega)]
  · rw [if_neg h1]
    simp only [scan_Hex.j0, Bool.false_eq_true, if_false]
    rw [if_neg (show ¬ (48 ≤ c ∧ c ≤ 57) by omega), if_neg (show ¬ c ≥ 97 by omega), if_neg (show ¬ (97 ≤ c ∧ c ≤ 102) by omega)]
/-- One digit more. -/
theorem or_i32 (n d : Int) (h0 : 0 ≤ n) (h1 : n < 65536) (h2 : 0 ≤ d) (h3 : d < 16) : Go.bits .or .i32 (n * 16) d = n * 16 + d :=
  bits_join .i32 31 (by decide) (fun x h0 h1 => by rw [IntKind.wrap_i32]; omega) 4 (n * 16) d (by omega) (by omega) (by omega) h2 (by omega) (by omega)
/-- What unit tells: the number, and whether there is one; where the scanner stands then. -/
def UnitPost (g m : Nat) (A : Option Addr) (c : Nat) (b : List Int) (i : Nat) (w : World) (e : Ending) (w' : World) : Prop :=
  e = .returned (.tuple #[.int .i32 ((unitV b i).getD 0), .bool (unitV b i).isSome]) ∧ (∃ (j : Nat) (left' : Int), Scn w' g m A c b j left' ∧ i ≤ j ∧ ((unitV b i).isSome = true → j = i + 4)) ∧ Two g m w w'
theorem unitF_cons (x : Int) (t : List Int) (n : Int) : unitF (x :: t) n = (hexV x).bind fun d => unitF t (n * 16 + d) := rfl
set_option maxHeartbeats 6400000 in
set_option maxRecDepth 100000 in
theorem unit_in {w : World} {g m : Nat} {A : Option Addr} {c : Nat} {b : List Int} {i : Nat} {left : Int} (h : Scn w g m A c b i left) (hi : i + 4 ≤ b.length) :
    Calls Tryd.prog 28 #[.pointer (some ⟨g, 0, none⟩)] w (UnitPost g m A c b i w) := by
  have H := Aside0.mk h
  obtain ⟨ad, rfl, hx0⟩ := h.at_ (show i < b.length by omega)
  clear hx0
  have HI := Aside0.mk hi
  have c0 := h.c0
  have c1 := h.c1
  obtain ⟨R, hR⟩ : ∃ R, unitV b i = R := ⟨_, rfl⟩
  have HR0 : Aside0 (unitF ((b.drop (i + 0)).take (4 - 0)) 0 = R) := ⟨by rw [← hR]; unfold unitV; rw [if_pos hi]; rfl⟩
  have HPOST : Aside0 (∀ (W : World) (lf : Int), Scn W g m (some ad) c b (i + 4) lf → Two g m w W → UnitPost g m (some ad) c b i w (.returned (.tuple #[.int .i32 (R.getD 0), .bool R.isSome])) W) := ⟨fun W lf h1 h2 => by
    unfold UnitPost; rw [hR]; exact ⟨rfl, ⟨i + 4, lf, h1, by omega, fun _ => rfl⟩, h2⟩⟩
  have wi : IntKind.i64.wrap ((i : Int) + 4) = (i : Int) + 4 := by rw [IntKind.wrap_i64]; have := h.lim; omega
  clear h hi hR
  go_enter Tryd.func28, Tryd.ntmps28
  go_wp2
  go_quiet ((go_at_call 29; exact quietD (part_ok ad c b i 4 _ (H.out.bytes _ (Two.of_below g m (Drawn0.below ⟨⟨_, rfl⟩⟩))) H.out.cap H.out.lim.1 HI.out (by decide))))
  rename_i nq
  obtain ⟨w1, hw1⟩ : ∃ w1, w.drewN nq = w1 := ⟨_, rfl⟩
  have hd : Below w.heap.size w w1 := by rw [← hw1]; exact Drawn0.below ⟨⟨_, rfl⟩⟩
  have H1 := Aside0.mk (H.out.kept hd)
  have HT1 := Aside0.mk (Two.of_below g m hd)
  rw [hw1]
  clear hw1 hd c0 c1
  have c2 := H1.out.c2
  have HTAKE := Aside0.mk (take_ok w1 m left 4 H1.out.mt (by decide) (by have := H1.out.bud; have := HI.out; omega) H1.out.bud.2)
  have HP : Aside0 (Scn ((w1.setCell ⟨m, 0, none⟩ (.int .i64 (left - 4))).setCell ⟨g, 1, none⟩ (.int .i64 ((i : Int) + 4))) g m (some ad) c b (i + 4) (left - 4)) := ⟨by have := H1.out.pay 4 (by have := HI.out; omega); rw [Int.natCast_add] at this; exact this⟩
  have HTW : Aside0 (Two g m w ((w1.setCell ⟨m, 0, none⟩ (.int .i64 (left - 4))).setCell ⟨g, 1, none⟩ (.int .i64 ((i : Int) + 4)))) := ⟨(HT1.out.trans (Two.setm g m 0 w1 _)).trans (Two.setg g m 1 _ _)⟩
  have hsg : (w1.setCell ⟨m, 0, none⟩ (.int .i64 (left - 4))).heap[g]? = some (.cells #[.slice (some ad) b.length c, .int .i64 i, .pointer (some ⟨m, 0, none⟩)] 48 (0, 0)) := (Below.heap_setCell w1 ⟨m, 0, none⟩ _ g H1.out.ne).trans H1.out.sc
  obtain ⟨w5, hw5⟩ : ∃ w5, w1.setCell ⟨m, 0, none⟩ (.int .i64 (left - 4)) = w5 := ⟨_, rfl⟩
  rw [hw5] at HTAKE HP HTW hsg
  have HSG := Aside0.mk hsg
  clear hsg hw5
  go_upto_region 4 with (go_at_call 16; (with_reducible refine HTAKE.out.mono ?_); rintro e w6 ⟨rfl, rfl⟩)
  clear c2
  have y1 : w5.cell? ⟨g, 1, none⟩ = some (.int .i64 i) := (blk_cell HSG.out 1).trans rfl
  have yf := blk_frozen HSG.out 1
  go_upto_region 7 with (fail)
  obtain ⟨w7, hw7⟩ : ∃ w7, w5.setCell ⟨g, 1, none⟩ (.int .i64 ((i : Int) + 4)) = w7 := ⟨_, rfl⟩
  rw [hw7] at HP HTW ⊢
  clear hw7 y1 yf wi
  go_loopw [6, 42] (fun v6 v42 wr => ∃ (k : Nat) (n : Int), v42 = .int .i64 k ∧ v6 = .int .i32 n ∧ Aside0 (k ≤ 4) ∧ Aside0 (0 ≤ n ∧ n < 16 ^ k) ∧ Aside0 (unitF ((b.drop (i + k)).take (4 - k)) n = R) ∧ Aside0 (Scn wr g m (some ad) c b (i + 4) (left - 4)) ∧ Aside0 (Two g m w wr)) (fun _ v42 _ => 4 - (intOf v42).toNat)
  case atStart => exact ⟨0, 0, rfl, rfl, ⟨by decide⟩, ⟨by decide⟩, HR0, HP, HTW⟩
  case round =>
    obtain ⟨k, n, rfl, rfl, HK, HN, HU, HS, HT⟩ := hrel
    by_cases hlt : k < 4
    · have hlt2 : i + k < b.length := by have := HI.out; omega
      have hR2 := Kd.reads_of_C (enc := Value.int .u8) (d := (0 : Int)) (h1 := fun _ => rfl) (HS.out.bytes wr (Two.refl _ _ _))
      obtain ⟨ad', e, hc⟩ := hR2.2.2 (by omega)
      injection e with e; subst e
      have hx := hc (i + k) hlt2
      rw [List.getD_eq_getElem?_getD, List.getElem?_eq_getElem hlt2] at hx
      have hdr : (b.drop (i + k)).take (4 - k) = b[i + k] :: (b.drop (i + (k + 1))).take (4 - (k + 1)) := by
        rw [List.drop_eq_getElem_cons hlt2, show 4 - k = (4 - (k + 1)) + 1 by omega, List.take_succ_cons]; rfl
      have hU := HU.out
      rw [hdr, unitF_cons] at hU
      obtain ⟨x, hxx⟩ : ∃ x, b[i + k] = x := ⟨_, rfl⟩
      rw [hxx] at hU
      have hx' : wr.cell? ((ad.add i).add k) = some (.int .u8 x) := by rw [add_add, hx, ← hxx]; rfl
      have hb16 : (16 : Int) ^ k ≤ 4096 := by
        have : k = 0 ∨ k = 1 ∨ k = 2 ∨ k = 3 := by omega
        rcases this with rfl | rfl | rfl | rfl <;> decide
      have d0 : decide (k < 4) = true := decide_eq_true hlt
      have d0' : decide ((k : Int) < 4) = true := decide_eq_true (by omega)
      have k0 : (0 : Int) ≤ (k : Int) := Int.natCast_nonneg _
      have k1 : (k : Int) < 4 := by omega
      have wk : IntKind.i64.wrap ((k : Int) + 1) = (k : Int) + 1 := by rw [IntKind.wrap_i64]; omega
      have HHEX := Aside0.mk (hex_f x)
      clear hxx hx hc hR2 hdr
      have ways : (hexV x = none ∧ scan_Hex.f 4 x = some (0, false) ∧ (decide (65 ≤ x) = false ∨ decide (65 ≤ x) = true ∧ decide (x ≤ 70) = false)) ∨
          (∃ d, hexV x = some d ∧ scan_Hex.f 4 x = some (d, true) ∧ (decide (65 ≤ x) = false ∨ decide (65 ≤ x) = true ∧ decide (x ≤ 70) = false)) ∨
          (hexV x = some (x - 55) ∧ scan_Hex.f 4 x = some (0, false) ∧ 65 ≤ x ∧ x ≤ 70) := by
        have hh := HHEX.out
        unfold hexV
        by_cases p1 : 48 ≤ x ∧ x ≤ 57
        · rw [if_pos p1] at hh ⊢
          exact .inr (.inl ⟨x - 48, rfl, hh, .inl (decide_eq_false (by omega))⟩)
        · rw [if_neg p1] at hh ⊢
          by_cases p2 : 97 ≤ x ∧ x ≤ 102
          · rw [if_pos p2] at hh ⊢
            exact .inr (.inl ⟨x - 87, rfl, hh, .inr ⟨decide_eq_true (by omega), decide_eq_false (by omega)⟩⟩)
          · rw [if_neg p2] at hh ⊢
            by_cases p3 : 65 ≤ x ∧ x ≤ 70
            · rw [if_pos p3]
              exact .inr (.inr ⟨rfl, hh, p3⟩)
            · rw [if_neg p3]
              refine .inl ⟨rfl, hh, ?_⟩
              by_cases p4 : 65 ≤ x
              · exact .inr ⟨decide_eq_true p4, decide_eq_false (by omega)⟩
              · exact .inl (decide_eq_false p4)
      clear HHEX
      rcases ways with ⟨hv, hf, hc2⟩ | ⟨d, hv, hf, hc2⟩ | ⟨hv, hf, hc2, hc3⟩
      · have HF := Aside0.mk hf
        have HRN : Aside0 (R = none) := ⟨by rw [hv] at hU; exact hU.symm⟩
        clear hv hf hU
        rcases hc2 with q1 | ⟨q1, q2⟩
        all_goals
          go_wp2_with (go_at_call 26; (with_reducible refine (scan_Hex.calls 4 x _ _ _ HF.out).mono ?_); rintro e w8 ⟨rfl, hd⟩; have HS8 := Aside0.mk (HS.out.kept hd.below); have HT8 := Aside0.mk (HT.out.trans (Two.of_below g m hd.below)); clear hd hx')
          go_ret2
          have := HPOST.out _ _ HS8.out HT8.out
          rw [HRN.out] at this
          exact this
      · have HF := Aside0.mk hf
        have HV := Aside0.mk (hexV_le hv)
        have HU2 : Aside0 (unitF ((b.drop (i + (k + 1))).take (4 - (k + 1))) (n * 16 + d) = R) := ⟨by rw [hv] at hU; exact hU⟩
        clear hv hf hU
        rcases hc2 with q1 | ⟨q1, q2⟩
        all_goals
          go_upto_region 14 with (go_at_call 26; (with_reducible refine (scan_Hex.calls 4 x _ _ _ HF.out).mono ?_); rintro e w8 ⟨rfl, hd⟩; have HS8 := Aside0.mk (HS.out.kept hd.below); have HT8 := Aside0.mk (HT.out.trans (Two.of_below g m hd.below)); clear hd hx')
          have hor : Go.bits .or .i32 (wrap32 (n * 16)) (wrap32 d) = n * 16 + d := by
            have h1 := HN.out; have h2 := HV.out
            rw [show wrap32 (n * 16) = n * 16 by unfold wrap32; omega, show wrap32 d = d by unfold wrap32; omega]
            exact or_i32 n d h1.1 (by omega) h2.1 h2.2
          have HOR := Aside0.mk hor
          have HB1 : Aside0 (0 ≤ n * 16 + d ∧ n * 16 + d < 16 ^ (k + 1)) := ⟨by
            have h1 := HN.out; have h2 := HV.out
            rw [Int.pow_succ]; generalize (16 : Int) ^ k = P at h1 ⊢; omega⟩
          clear hor
          go_wp2_with (fail)
          go_roundw
          case rel => exact ⟨k + 1, n * 16 + d, by go_num, by rw [HOR.out], ⟨by omega⟩, HB1, HU2, HS8, HT8⟩
          case measure => simp [intOf]; omega
      · have HF := Aside0.mk hf
        have HV := Aside0.mk (hexV_le hv)
        have HU2 : Aside0 (unitF ((b.drop (i + (k + 1))).take (4 - (k + 1))) (n * 16 + (x - 55)) = R) := ⟨by rw [hv] at hU; exact hU⟩
        have q1 : decide (65 ≤ x) = true := decide_eq_true hc2
        have q2 : decide (x ≤ 70) = true := decide_eq_true hc3
        clear hv hf hU
        go_upto_region 14 with (go_at_call 26; (with_reducible refine (scan_Hex.calls 4 x _ _ _ HF.out).mono ?_); rintro e w8 ⟨rfl, hd⟩; have HS8 := Aside0.mk (HS.out.kept hd.below); have HT8 := Aside0.mk (HT.out.trans (Two.of_below g m hd.below)); clear hd hx')
        have hor : Go.bits .or .i32 (wrap32 (n * 16)) (x - 65 + 10) = n * 16 + (x - 55) := by
          have h1 := HN.out; have h2 := HV.out
          rw [show wrap32 (n * 16) = n * 16 by unfold wrap32; omega, show x - 65 + 10 = x - 55 by omega]
          exact or_i32 n (x - 55) h1.1 (by omega) h2.1 h2.2
        have HOR := Aside0.mk hor
        have HB1 : Aside0 (0 ≤ n * 16 + (x - 55) ∧ n * 16 + (x - 55) < 16 ^ (k + 1)) := ⟨by
          have h1 := HN.out; have h2 := HV.out
          rw [Int.pow_succ]; generalize (16 : Int) ^ k = P at h1 ⊢; omega⟩
        clear hor
        go_wp2_with (fail)
        go_roundw
        case rel => exact ⟨k + 1, n * 16 + (x - 55), by go_num, by rw [HOR.out], ⟨by omega⟩, HB1, HU2, HS8, HT8⟩
        case measure => simp [intOf]; omega
    · have d0 : decide (k < 4) = false := decide_eq_false hlt
      have d0' : decide ((k : Int) < 4) = false := decide_eq_false (by omega)
      have HRN : Aside0 (R = some n) := ⟨by
        have hU := HU.out
        rw [show 4 - k = 0 by omega, List.take_zero] at hU
        exact hU.symm⟩
      go_wp2_with (fail)
      go_ret2
      have := HPOST.out _ _ HS.out HT.out
      rw [HRN.out] at this
      exact this
set_option maxHeartbeats 3200000 in
set_option maxRecDepth 100000 in
theorem unit_out {w : World} {g m : Nat} {A : Option Addr} {c : Nat} {b : List Int} {i : Nat} {left : Int} (h : Scn w g m A c b i left) (hi : ¬ i + 4 ≤ b.length) :
    Calls Tryd.prog 28 #[.pointer (some ⟨g, 0, none⟩)] w (UnitPost g m A c b i w) := by
  have H := Aside0.mk h
  have HI := Aside0.mk hi
  have c0 := h.c0
  have c1 := h.c1
  have hR : unitV b i = none := by unfold unitV; rw [if_neg hi]
  have HPOST : Aside0 (∀ (W : World) (lf : Int), Scn W g m A c b i lf → Two g m w W → UnitPost g m A c b i w (.returned (.tuple #[.int .i32 0, .bool false])) W) := ⟨fun W lf h1 h2 => by
    unfold UnitPost; rw [hR]; exact ⟨rfl, ⟨i, lf, h1, Nat.le_refl _, fun h => by cases h⟩, h2⟩⟩
  clear h hi hR
  go_enter Tryd.func28, Tryd.ntmps28
  go_wp2
  go_quiet ((go_at_call 29; exact quietD (part_no A c b i 4 _ (H.out.bytes _ (Two.of_below g m (Drawn0.below ⟨⟨_, rfl⟩⟩))) H.out.cap H.out.lim.1 HI.out)))
  clear c0 c1
  go_wp2_with (fail)
  go_ret2
  exact HPOST.out _ _ (H.out.kept (Drawn0.below ⟨⟨_, rfl⟩⟩)) (Two.of_below g m (Drawn0.below ⟨⟨_, rfl⟩⟩))
theorem unit_any {w : World} {g m : Nat} {A : Option Addr} {c : Nat} {b : List Int} {i : Nat} {left : Int} (h : Scn w g m A c b i left) :
    Calls Tryd.prog 28 #[.pointer (some ⟨g, 0, none⟩)] w (UnitPost g m A c b i w) := by
  by_cases hi : i + 4 ≤ b.length
  · exact unit_in h hi
  · exact unit_out h hi
end Go.Proofs.YtonekmigcpgdeaaDoor.Hand
