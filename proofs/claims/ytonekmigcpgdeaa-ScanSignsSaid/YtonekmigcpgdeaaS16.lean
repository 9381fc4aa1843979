/- Layer 13, scan: words, of the scanner and of the document's reader. -/
import Derived.Test.YtonekmigcpgdeaaS15
import Derived.Lib.Bytes
namespace Go.Proofs.Ytonekmigcpgdeaa.Hand
open Go.RowKit Go.Proofs.Ytonekmigcpgdeaa.QAll Go.Proofs.YtonekmigcpgdeaaW.PrintWords Go.Proofs.YtonekmigcpgdeaaW.PrintLast Go.Proofs.YtonekmigcpgdeaaW.PrintMore Go.Proofs.Ytonekmigcpgdeaa.Runes
set_option linter.unusedVariables false
set_option linter.unusedSimpArgs false
theorem addr_of {W : World} {A : Option Addr} {l : List Int} (h : Kd.C (Kd.int .u8) W A l.length l) (hl : 0 < l.length) : ∃ ad, A = some ad := by
  obtain ⟨ad, e, _⟩ := (Kd.reads_of_C (enc := Value.int .u8) (d := (0 : Int)) (h1 := fun _ => rfl) h).2.2 hl
  exact ⟨ad, e⟩
theorem C_nil (W : World) (X : Option Addr) : Kd.C (Kd.int .u8) W X 0 [] :=
  Kd.C_of_reads (enc := Value.int .u8) (d := (0 : Int)) (h1 := fun _ => rfl) ⟨rfl, by decide, fun h => by omega⟩
set_option maxHeartbeats 1600000 in
theorem part_zero (A : Option Addr) (c : Nat) (l : List Int) (a : Nat) (w : World) (hr : Kd.C (Kd.int .u8) w A l.length l) (hc : l.length ≤ c) (hl : l.length ≤ 1000000) (hin : a ≤ l.length) :
    Calls Try.prog 37 #[.slice A l.length c, .int .i64 a, .int .i64 0] w fun e w' => e = .returned (.tuple #[.slice A 0 0, .bool true]) ∧ Drawn0 w w' := by
  have HR := Aside0.mk hr
  have HC := Aside0.mk hc
  have HW : Aside0 (wire_Within.f l (a : Int) 0 = some true) := ⟨(within_ok l hl a 0).trans (by rw [decide_eq_true (by omega)])⟩
  have hc1 : (l.length : Int) ≤ (c : Int) := by omega
  have hin1 : (a : Int) ≤ (l.length : Int) := by omega
  have hin2 : (a : Int) ≤ (c : Int) := by omega
  have wa : IntKind.i64.wrap ((a : Int) + 0) = (a : Int) := by rw [IntKind.wrap_i64]; omega
  have hA : (∃ ad, A = some ad) ∨ (A = none ∨ True) := .inr (.inr trivial)
  clear hr hA
  cases A with
  | some ad =>
    go_enter Try.func37, Try.ntmps37
    go_wp2_with (go_at_call 44; (with_reducible refine (wire_Within.calls (some ad) c l a 0 _ _ HR.out HC.out HW.out).mono ?_); rintro e w' ⟨rfl, ⟨nd, rfl⟩⟩)
    go_ret2
    exact ⟨by simp, ⟨_, rfl⟩⟩
  | none =>
    go_enter Try.func37, Try.ntmps37
    go_wp2_with (go_at_call 44; (with_reducible refine (wire_Within.calls none c l a 0 _ _ HR.out HC.out HW.out).mono ?_); rintro e w' ⟨rfl, ⟨nd, rfl⟩⟩)
    go_ret2
    exact ⟨by simp, ⟨_, rfl⟩⟩
/-- Does a word stand there? -/
def wordB (b : List Int) (i : Nat) (s : ByteArray) : Bool := decide (skip b i + s.size ≤ b.length) && ((strOfNums ((b.drop (skip b i)).take s.size)).toList == s.toList)
section word
variable {w : World} {g m : Nat} {A : Option Addr} {c : Nat} {b : List Int} {i : Nat} {left : Int}
theorem toList_nil (s : ByteArray) (h : s.size = 0) : s.toList = [] := by
  rw [Lib.toList_data]
  exact List.eq_nil_of_length_eq_zero (by simpa using h)
set_option maxHeartbeats 3200000 in
set_option maxRecDepth 100000 in
theorem word_empty (h : Scn w g m A c b i left) (s : ByteArray) (hi : i ≤ b.length) (h0 : s.size = 0) :
    Calls Try.prog 21 #[.pointer (some ⟨g, 0, none⟩), .string s] w fun e w' => e = .returned (.bool true) ∧ (∃ left', Scn w' g m A c b (skip b i) left') ∧ Two g m w w' := by
  have HBL := Aside0.mk (blank_any h)
  have hsk : skip b i ≤ b.length := (skipF_le (b.length + 1) b i).2.1 hi
  obtain ⟨j, hj⟩ : ∃ j, skip b i = j := ⟨_, rfl⟩
  rw [hj] at HBL hsk ⊢
  have HSK := Aside0.mk hsk
  have z0 : ((strOfNums []).toList == s.toList) = true := by rw [toList_nil s h0, Lib.strOfNums_toList]; rfl
  have hz1 : (s.size : Int) = 0 := by omega
  clear h hj hi hsk
  go_enter Try.func21, Try.ntmps21
  go_wp2_with (go_at_call 25; (with_reducible refine HBL.out.mono ?_); rintro e w1 ⟨rfl, lf, hs1, ht1⟩; have HS1 := Aside0.mk hs1; have HT1 := Aside0.mk ht1; have c0 := hs1.c0; have c1 := hs1.c1; have c2 := hs1.c2; clear hs1 ht1)
  go_quiet ((go_at_call 37; exact quietD (part_zero A c b j _ (HS1.out.bytes _ (Two.of_below g m (Drawn0.below ⟨⟨_, rfl⟩⟩))) HS1.out.cap HS1.out.lim.1 HSK.out)))
  rename_i nq
  have vs : ∀ k : Nat, (convert 24 9 (.slice A 0 0)).run Try.prog (w1.drewN k) = .ok (.string (strOfNums [])) (w1.drewN k) := fun k => Kd.C_string (P := Try.prog) (c := 0) Try.underlying24 Try.underlying5 Try.underlying9 (C_nil _ A)
  go_wp2_with (fail)
  have HS2 : Aside0 (Scn (w1.drewN nq) g m A c b j lf) := ⟨HS1.out.kept (Drawn0.below ⟨⟨_, rfl⟩⟩)⟩
  have HBD := Aside0.mk HS2.out.bud
  clear c0 c1 c2
  (with_reducible refine (take_ok (w1.drewN nq) m lf 0 HS2.out.mt (by decide) (by have := HSK.out; have := HBD.out; omega) (by have := HBD.out; omega)).mono ?_)
  rintro e w2 ⟨rfl, hw2⟩
  have hsp := HS2.out.pay 0 (by have := HSK.out; omega)
  rw [show ((0 : Nat) : Int) = 0 from rfl, hw2, Nat.add_zero] at hsp
  have HSP := Aside0.mk hsp
  have sc2 : w2.heap[g]? = some (.cells #[.slice A b.length c, .int .i64 j, .pointer (some ⟨m, 0, none⟩)] 65 (0, 0)) := by
    rw [← hw2]; exact (Below.heap_setCell _ ⟨m, 0, none⟩ _ g HS2.out.ne).trans HS2.out.sc
  have HT2 : Aside0 (Two g m w w2) := ⟨by rw [← hw2]; exact (HT1.out.trans (Two.of_below g m (Drawn0.below (w' := w1.drewN nq) ⟨⟨_, rfl⟩⟩))).trans (Two.setm g m 0 _ _)⟩
  have d1 : w2.cell? ⟨g, 1, none⟩ = some (.int .i64 j) := (blk_cell sc2 1).trans rfl
  have f1 := blk_frozen sc2 1
  have wn : wrap64 (j : Int) = (j : Int) := by unfold wrap64; have := HSK.out; have := HS2.out.lim; omega
  clear hsp sc2 hw2
  go_wp2_with (fail)
  go_ret
  exact ⟨rfl, ⟨lf - 0, HSP.out⟩, HT2.out.trans (Two.setg g m 1 _ _)⟩
theorem word_any (h : Scn w g m A c b i left) (s : ByteArray) (hi : i ≤ b.length) :
    Calls Try.prog 21 #[.pointer (some ⟨g, 0, none⟩), .string s] w fun e w' => e = .returned (.bool (wordB b i s)) ∧ (∃ left', Scn w' g m A c b (if wordB b i s = true then skip b i + s.size else skip b i) left') ∧ Two g m w w' := by
  have hsk : skip b i ≤ b.length := (skipF_le (b.length + 1) b i).2.1 hi
  unfold wordB
  by_cases h0 : s.size = 0
  · have e1 : ((strOfNums ((b.drop (skip b i)).take s.size)).toList == s.toList) = true := by rw [h0, List.take_zero, toList_nil s h0, Lib.strOfNums_toList]; rfl
    rw [e1, decide_eq_true (by omega), h0]
    exact word_empty h s hi h0
  · by_cases hin : skip b i + s.size ≤ b.length
    · by_cases e : (strOfNums ((b.drop (skip b i)).take s.size)).toList = s.toList
      · rw [decide_eq_true hin, beq_iff_eq.mpr e]
        exact word_good h s hin (by omega) e
      · rw [decide_eq_true hin, beq_eq_false_iff_ne.mpr e]
        exact word_bad h s hin (by omega) e
    · rw [decide_eq_false hin]
      exact word_no h s hin
end word
section rword
variable {w : World} {r : Nat} {A : Option Addr} {c : Nat} {b : List Int} {i : Nat}
set_option maxHeartbeats 3200000 in
set_option maxRecDepth 100000 in
theorem rword_no (hby : ∀ x ∈ b, 0 ≤ x ∧ x < 256) (h : Rdr w r A c b i) (s : ByteArray) (hs : s.size ≤ 1000000) (hi : i ≤ b.length) (hno : ¬ (skip b i + s.size ≤ b.length)) :
    Calls Try.prog 22 #[.pointer (some ⟨r, 0, none⟩), .string s] w fun e w' => e = .returned (.bool false) ∧ Rdr w' r A c b (skip b i) ∧ Two r r w w' := by
  have HBL := Aside0.mk (rblank_any hby h)
  have hsk : skip b i ≤ b.length := (skipF_le (b.length + 1) b i).2.1 hi
  have hlim := h.lim
  obtain ⟨j, hj⟩ : ∃ j, skip b i = j := ⟨_, rfl⟩
  rw [hj] at HBL hno hsk ⊢
  have wd : IntKind.i64.wrap ((b.length : Int) - (j : Int)) = (b.length : Int) - (j : Int) := by rw [IntKind.wrap_i64]; omega
  have d0 : decide ((b.length : Int) - (j : Int) < (s.size : Int)) = true := decide_eq_true (by omega)
  clear h hj hi hsk hno hlim hby hs
  go_enter Try.func22, Try.ntmps22
  go_wp2_with (go_at_call 23; (with_reducible refine HBL.out.mono ?_); rintro e w1 ⟨rfl, hs1, ht1⟩; have HS1 := Aside0.mk hs1; have HT1 := Aside0.mk ht1; have c3 := hs1.c3; have c4 := hs1.c4; clear hs1 ht1)
  go_quiet (fail)
  clear c3 c4
  go_wp2_with (fail)
  go_ret
  exact ⟨rfl, HS1.out.kept (Drawn0.below ⟨⟨_, rfl⟩⟩), HT1.out.trans (Two.of_below r r (Drawn0.below ⟨⟨_, rfl⟩⟩))⟩
set_option maxHeartbeats 3200000 in
set_option maxRecDepth 100000 in
theorem rword_bad (hby : ∀ x ∈ b, 0 ≤ x ∧ x < 256) (h : Rdr w r A c b i) (s : ByteArray) (hin : skip b i + s.size ≤ b.length) (hs0 : 0 < s.size) (hne : (strOfNums ((b.drop (skip b i)).take s.size)).toList ≠ s.toList) :
    Calls Try.prog 22 #[.pointer (some ⟨r, 0, none⟩), .string s] w fun e w' => e = .returned (.bool false) ∧ Rdr w' r A c b (skip b i) ∧ Two r r w w' := by
  have HBL := Aside0.mk (rblank_any hby h)
  have hlim := h.lim
  obtain ⟨j, hj⟩ : ∃ j, skip b i = j := ⟨_, rfl⟩
  rw [hj] at HBL hin hne ⊢
  obtain ⟨ad, hA⟩ := addr_of (h.bytes w (Two.refl _ _ _)) (by omega)
  subst hA
  obtain ⟨L, hL⟩ : ∃ L, (b.drop j).take s.size = L := ⟨_, rfl⟩
  rw [hL] at hne
  have HCP : Aside0 (∀ W, Kd.C (Kd.int .u8) W (some ad) b.length b → Kd.C (Kd.int .u8) W (some (ad.add j)) s.size L) := ⟨fun W hW => by rw [← hL]; exact C_part hin hs0 hW⟩
  have z0 : ((strOfNums L).toList == s.toList) = false := beq_eq_false_iff_ne.mpr hne
  have hcap := h.cap
  have wd : IntKind.i64.wrap ((b.length : Int) - (j : Int)) = (b.length : Int) - (j : Int) := by rw [IntKind.wrap_i64]; omega
  have ws : IntKind.i64.wrap ((j : Int) + (s.size : Int)) = (j : Int) + (s.size : Int) := by rw [IntKind.wrap_i64]; omega
  have d0 : decide ((b.length : Int) - (j : Int) < (s.size : Int)) = false := decide_eq_false (by omega)
  have k0 : (0 : Int) ≤ (j : Int) := Int.natCast_nonneg _
  have k1 : (j : Int) ≤ (j : Int) + (s.size : Int) := by omega
  have k2 : (j : Int) + (s.size : Int) ≤ (c : Int) := by omega
  have k3 : ¬ c = j := by omega
  clear h hj hin hlim hby hs0 hL hne hcap
  go_enter Try.func22, Try.ntmps22
  go_upto_region 2 with (go_at_call 23; (with_reducible refine HBL.out.mono ?_); rintro e w1 ⟨rfl, hs1, ht1⟩; have HS1 := Aside0.mk hs1; have HT1 := Aside0.mk ht1; have c3 := hs1.c3; have c4 := hs1.c4; clear hs1 ht1)
  have vs : ∀ k : Nat, (convert 24 9 (.slice (some (ad.add j)) s.size (c - j))).run Try.prog (w1.drewN k) = .ok (.string (strOfNums L)) (w1.drewN k) := fun k => Kd.C_string (P := Try.prog) (c := c - j) Try.underlying24 Try.underlying5 Try.underlying9 (HCP.out _ (HS1.out.bytes _ (Two.of_below r r (Drawn0.below ⟨⟨_, rfl⟩⟩))))
  go_quiet (fail)
  clear c3 c4 vs
  go_wp2_with (fail)
  go_ret
  exact ⟨rfl, HS1.out.kept (Drawn0.below ⟨⟨_, rfl⟩⟩), HT1.out.trans (Two.of_below r r (Drawn0.below ⟨⟨_, rfl⟩⟩))⟩
set_option maxHeartbeats 3200000 in
set_option maxRecDepth 100000 in
theorem rword_good (hby : ∀ x ∈ b, 0 ≤ x ∧ x < 256) (h : Rdr w r A c b i) (s : ByteArray) (hin : skip b i + s.size ≤ b.length) (hs0 : 0 < s.size) (hne : (strOfNums ((b.drop (skip b i)).take s.size)).toList = s.toList) :
    Calls Try.prog 22 #[.pointer (some ⟨r, 0, none⟩), .string s] w fun e w' => e = .returned (.bool true) ∧ Rdr w' r A c b (skip b i + s.size) ∧ Two r r w w' := by
  have HBL := Aside0.mk (rblank_any hby h)
  have hlim := h.lim
  obtain ⟨j, hj⟩ : ∃ j, skip b i = j := ⟨_, rfl⟩
  rw [hj] at HBL hin hne ⊢
  obtain ⟨ad, hA⟩ := addr_of (h.bytes w (Two.refl _ _ _)) (by omega)
  subst hA
  obtain ⟨L, hL⟩ : ∃ L, (b.drop j).take s.size = L := ⟨_, rfl⟩
  rw [hL] at hne
  have HCP : Aside0 (∀ W, Kd.C (Kd.int .u8) W (some ad) b.length b → Kd.C (Kd.int .u8) W (some (ad.add j)) s.size L) := ⟨fun W hW => by rw [← hL]; exact C_part hin hs0 hW⟩
  have z0 : ((strOfNums L).toList == s.toList) = true := beq_iff_eq.mpr hne
  have hcap := h.cap
  have HIN := Aside0.mk hin
  have wd : IntKind.i64.wrap ((b.length : Int) - (j : Int)) = (b.length : Int) - (j : Int) := by rw [IntKind.wrap_i64]; omega
  have ws : IntKind.i64.wrap ((j : Int) + (s.size : Int)) = (j : Int) + (s.size : Int) := by rw [IntKind.wrap_i64]; omega
  have d0 : decide ((b.length : Int) - (j : Int) < (s.size : Int)) = false := decide_eq_false (by omega)
  have k0 : (0 : Int) ≤ (j : Int) := Int.natCast_nonneg _
  have k1 : (j : Int) ≤ (j : Int) + (s.size : Int) := by omega
  have k2 : (j : Int) + (s.size : Int) ≤ (c : Int) := by omega
  have k3 : ¬ c = j := by omega
  clear h hj hin hlim hby hs0 hL hne hcap
  go_enter Try.func22, Try.ntmps22
  go_upto_region 2 with (go_at_call 23; (with_reducible refine HBL.out.mono ?_); rintro e w1 ⟨rfl, hs1, ht1⟩; have HS1 := Aside0.mk hs1; have HT1 := Aside0.mk ht1; have c3 := hs1.c3; have c4 := hs1.c4; clear hs1 ht1)
  have vs : ∀ k : Nat, (convert 24 9 (.slice (some (ad.add j)) s.size (c - j))).run Try.prog (w1.drewN k) = .ok (.string (strOfNums L)) (w1.drewN k) := fun k => Kd.C_string (P := Try.prog) (c := c - j) Try.underlying24 Try.underlying5 Try.underlying9 (HCP.out _ (HS1.out.bytes _ (Two.of_below r r (Drawn0.below ⟨⟨_, rfl⟩⟩))))
  go_quiet (fail)
  rename_i nq
  have HS2 : Aside0 (Rdr (w1.drewN nq) r (some ad) c b j) := ⟨HS1.out.kept (Drawn0.below ⟨⟨_, rfl⟩⟩)⟩
  have HT2 : Aside0 (Two r r w (w1.drewN nq)) := ⟨HT1.out.trans (Two.of_below r r (Drawn0.below ⟨⟨_, rfl⟩⟩))⟩
  obtain ⟨w2, hw2⟩ : ∃ w2, w1.drewN nq = w2 := ⟨_, rfl⟩
  rw [hw2] at HS2 HT2 ⊢
  clear c3 c4 vs hw2
  have y1 := HS2.out.c4
  have yf := blk_frozen HS2.out.sc 4
  go_wp2_with (fail)
  go_ret
  exact ⟨rfl, by have := HS2.out.move (j + s.size) (by have := HIN.out; omega); rw [Int.natCast_add] at this; exact this, HT2.out.trans (Two.setg r r 4 _ _)⟩
set_option maxHeartbeats 3200000 in
set_option maxRecDepth 100000 in
theorem rword_empty (hby : ∀ x ∈ b, 0 ≤ x ∧ x < 256) (h : Rdr w r A c b i) (s : ByteArray) (hi : i ≤ b.length) (h0 : s.size = 0) :
    Calls Try.prog 22 #[.pointer (some ⟨r, 0, none⟩), .string s] w fun e w' => e = .returned (.bool true) ∧ Rdr w' r A c b (skip b i) ∧ Two r r w w' := by
  have HBL := Aside0.mk (rblank_any hby h)
  have hsk : skip b i ≤ b.length := (skipF_le (b.length + 1) b i).2.1 hi
  have hlim := h.lim
  have hcap := h.cap
  obtain ⟨j, hj⟩ : ∃ j, skip b i = j := ⟨_, rfl⟩
  rw [hj] at HBL hsk ⊢
  have HSK := Aside0.mk hsk
  have z0 : ((strOfNums []).toList == s.toList) = true := by rw [toList_nil s h0, Lib.strOfNums_toList]; rfl
  have hz1 : (s.size : Int) = 0 := by omega
  have wd : IntKind.i64.wrap ((b.length : Int) - (j : Int)) = (b.length : Int) - (j : Int) := by rw [IntKind.wrap_i64]; omega
  have ws : IntKind.i64.wrap ((j : Int) + 0) = (j : Int) := by rw [IntKind.wrap_i64]; omega
  have ws2 : IntKind.i64.wrap (j : Int) = (j : Int) := by rw [IntKind.wrap_i64]; omega
  have ws3 : wrap64 (j : Int) = (j : Int) := by unfold wrap64; omega
  have d0 : decide ((b.length : Int) - (j : Int) < 0) = false := decide_eq_false (by omega)
  have d1 : decide ((b.length : Int) < (j : Int)) = false := decide_eq_false (by omega)
  have d2 : decide (b.length < j) = false := decide_eq_false (by omega)
  have k0 : (0 : Int) ≤ (j : Int) := Int.natCast_nonneg _
  have k2 : (j : Int) ≤ (c : Int) := by omega
  clear h hj hi hsk hlim hby hcap
  have ways : c = j ∨ ¬ c = j := Decidable.em _
  cases A
  all_goals
    go_enter Try.func22, Try.ntmps22
    go_upto_region 2 with (go_at_call 23; (with_reducible refine HBL.out.mono ?_); rintro e w1 ⟨rfl, hs1, ht1⟩; have HS1 := Aside0.mk hs1; have HT1 := Aside0.mk ht1; have c3 := hs1.c3; have c4 := hs1.c4; clear hs1 ht1)
    have vs : ∀ (k n : Nat) (X : Option Addr), (convert 24 9 (.slice X 0 n)).run Try.prog (w1.drewN k) = .ok (.string (strOfNums [])) (w1.drewN k) := fun k n X => Kd.C_string (P := Try.prog) (c := n) Try.underlying24 Try.underlying5 Try.underlying9 (C_nil _ X)
    rcases ways with hcj | hcj
    all_goals
      go_quiet (fail)
      rename_i nq
      have HS2 := Aside0.mk (HS1.out.kept (Drawn0.below (w' := w1.drewN nq) ⟨⟨_, rfl⟩⟩))
      have HT2 : Aside0 (Two r r w (w1.drewN nq)) := ⟨HT1.out.trans (Two.of_below r r (Drawn0.below ⟨⟨_, rfl⟩⟩))⟩
      obtain ⟨w2, hw2⟩ : ∃ w2, w1.drewN nq = w2 := ⟨_, rfl⟩
      rw [hw2] at HS2 HT2 ⊢
      clear c3 c4 vs hw2 hcj
      have y1 := HS2.out.c4
      have yf := blk_frozen HS2.out.sc 4
      go_wp2_with (fail)
      go_ret
      exact ⟨rfl, by first | exact HS2.out.move j (by have := HSK.out; omega) | (have h9 := HS2.out.move j (by have := HSK.out; omega); simpa using h9), HT2.out.trans (Two.setg r r 4 _ _)⟩
theorem rword_any (hby : ∀ x ∈ b, 0 ≤ x ∧ x < 256) (h : Rdr w r A c b i) (s : ByteArray) (hs : s.size ≤ 1000000) (hi : i ≤ b.length) :
    Calls Try.prog 22 #[.pointer (some ⟨r, 0, none⟩), .string s] w fun e w' => e = .returned (.bool (wordB b i s)) ∧ Rdr w' r A c b (if wordB b i s = true then skip b i + s.size else skip b i) ∧ Two r r w w' := by
  have hsk : skip b i ≤ b.length := (skipF_le (b.length + 1) b i).2.1 hi
  unfold wordB
  by_cases h0 : s.size = 0
  · have e1 : ((strOfNums ((b.drop (skip b i)).take s.size)).toList == s.toList) = true := by rw [h0, List.take_zero, toList_nil s h0, Lib.strOfNums_toList]; rfl
    rw [e1, decide_eq_true (by omega), h0]
    exact rword_empty hby h s hi h0
  · by_cases hin : skip b i + s.size ≤ b.length
    · by_cases e : (strOfNums ((b.drop (skip b i)).take s.size)).toList = s.toList
      · rw [decide_eq_true hin, beq_iff_eq.mpr e]
        exact rword_good hby h s hin (by omega) e
      · rw [decide_eq_true hin, beq_eq_false_iff_ne.mpr e]
        exact rword_bad hby h s hin (by omega) e
    · rw [decide_eq_false hin]
      exact rword_no hby h s hs hi hin
end rword
end Go.Proofs.Ytonekmigcpgdeaa.Hand
