/- Layer 13, scan: a word. -/
import Derived.Test.YtonekmigcpgdeaaS5
namespace Go.Proofs.Ytonekmigcpgdeaa.Hand
open Go.RowKit Go.Proofs.Ytonekmigcpgdeaa.QAll Go.Proofs.YtonekmigcpgdeaaW.PrintWords Go.Proofs.YtonekmigcpgdeaaW.PrintLast Go.Proofs.YtonekmigcpgdeaaW.PrintMore
set_option linter.unusedVariables false
set_option linter.unusedSimpArgs false
theorem C_part {W : World} {ad : Addr} {b : List Int} {k n : Nat} (hk : k + n ≤ b.length) (hn : 0 < n) (h : Kd.C (Kd.int .u8) W (some ad) b.length b) : Kd.C (Kd.int .u8) W (some (ad.add k)) n ((b.drop k).take n) := by
  have hR := Kd.reads_of_C (enc := Value.int .u8) (d := (0 : Int)) (h1 := fun _ => rfl) h
  obtain ⟨ad', e, hc⟩ := hR.2.2 (by omega)
  injection e with e; subst e
  refine Kd.C_of_reads (enc := Value.int .u8) (d := (0 : Int)) (h1 := fun _ => rfl) ⟨by simp; omega, Nat.le_trans (show n ≤ b.length by omega) hR.2.1, fun _ => ⟨_, rfl, fun j hj => ?_⟩⟩
  rw [add_add, hc (k + j) (by omega)]
  rw [List.getD_eq_getElem?_getD, List.getD_eq_getElem?_getD, List.getElem?_take_of_lt hj, List.getElem?_drop]
section word
variable {w : World} {g m : Nat} {A : Option Addr} {c : Nat} {b : List Int} {i : Nat} {left : Int}
set_option maxHeartbeats 3200000 in
set_option maxRecDepth 100000 in
/-- A word for which there is no room. -/
theorem word_no (h : Scn w g m A c b i left) (s : ByteArray) (hno : ¬ (skip b i + s.size ≤ b.length)) :
    Calls Try.prog 21 #[.pointer (some ⟨g, 0, none⟩), .string s] w fun e w' => e = .returned (.bool false) ∧ (∃ left', Scn w' g m A c b (skip b i) left') ∧ Two g m w w' := by
  have HBL := Aside0.mk (blank_any h)
  obtain ⟨j, hj⟩ : ∃ j, skip b i = j := ⟨_, rfl⟩
  rw [hj] at HBL hno ⊢
  have HNO := Aside0.mk hno
  clear h hj hno
  go_enter Try.func21, Try.ntmps21
  go_wp2_with (go_at_call 25; (with_reducible refine HBL.out.mono ?_); rintro e w1 ⟨rfl, lf, hs1, ht1⟩; have HS1 := Aside0.mk hs1; have HT1 := Aside0.mk ht1; have c0 := hs1.c0; have c1 := hs1.c1; clear hs1 ht1)
  go_quiet ((go_at_call 37; exact quietD (part_no A c b j s.size _ (HS1.out.bytes _ (Two.of_below g m (Drawn0.below ⟨⟨_, rfl⟩⟩))) HS1.out.cap HS1.out.lim.1 HNO.out)))
  clear c0 c1
  go_wp2_with (fail)
  go_ret
  exact ⟨rfl, ⟨lf, HS1.out.kept (Drawn0.below ⟨⟨_, rfl⟩⟩)⟩, HT1.out.trans (Two.of_below g m (Drawn0.below ⟨⟨_, rfl⟩⟩))⟩
set_option maxHeartbeats 3200000 in
set_option maxRecDepth 100000 in
/-- Another word stands there. -/
theorem word_bad (h : Scn w g m A c b i left) (s : ByteArray) (hin : skip b i + s.size ≤ b.length) (hs0 : 0 < s.size) (hne : (strOfNums ((b.drop (skip b i)).take s.size)).toList ≠ s.toList) :
    Calls Try.prog 21 #[.pointer (some ⟨g, 0, none⟩), .string s] w fun e w' => e = .returned (.bool false) ∧ (∃ left', Scn w' g m A c b (skip b i) left') ∧ Two g m w w' := by
  have HBL := Aside0.mk (blank_any h)
  obtain ⟨j, hj⟩ : ∃ j, skip b i = j := ⟨_, rfl⟩
  rw [hj] at HBL hin hne ⊢
  have HIN := Aside0.mk hin
  have HS0 := Aside0.mk hs0
  obtain ⟨n, hn⟩ : ∃ n, s.size = n := ⟨_, rfl⟩
  have HN := Aside0.mk hn
  obtain ⟨L, hL⟩ : ∃ L, (b.drop j).take s.size = L := ⟨_, rfl⟩
  rw [hL] at hne
  have z0 : ((strOfNums L).toList == s.toList) = false := beq_eq_false_iff_ne.mpr hne
  obtain ⟨left1, hs9⟩ : ∃ left1, left1 = left := ⟨_, rfl⟩
  have hA : ∃ ad, A = some ad := by obtain ⟨ad, e, _⟩ := Kd.reads_of_C (enc := Value.int .u8) (d := (0 : Int)) (h1 := fun _ => rfl) (h.bytes w (Two.refl _ _ _)) |>.2.2 (by omega); exact ⟨ad, e⟩
  obtain ⟨ad, hA⟩ := hA
  subst hA
  have HCP : Aside0 (∀ W, Kd.C (Kd.int .u8) W (some ad) b.length b → Kd.C (Kd.int .u8) W (some (ad.add j)) s.size L) := ⟨fun W hW => by rw [← hL]; exact C_part hin hs0 hW⟩
  clear h hj hin hs0 hne hL hs9 hn
  go_enter Try.func21, Try.ntmps21
  go_wp2_with (go_at_call 25; (with_reducible refine HBL.out.mono ?_); rintro e w1 ⟨rfl, lf, hs1, ht1⟩; have HS1 := Aside0.mk hs1; have HT1 := Aside0.mk ht1; have c0 := hs1.c0; have c1 := hs1.c1; clear hs1 ht1)
  go_quiet ((go_at_call 37; exact quietD (part_ok ad c b j s.size _ (HS1.out.bytes _ (Two.of_below g m (Drawn0.below ⟨⟨_, rfl⟩⟩))) HS1.out.cap HS1.out.lim.1 HIN.out HS0.out)))
  clear c0 c1
  rename_i nq
  have vs : ∀ k : Nat, (convert 24 9 (.slice (some (ad.add j)) s.size s.size)).run Try.prog (w1.drewN k) = .ok (.string (strOfNums L)) (w1.drewN k) := fun k => Kd.C_string (P := Try.prog) (c := s.size) Try.underlying24 Try.underlying5 Try.underlying9 (HCP.out _ (HS1.out.bytes _ (Two.of_below g m (Drawn0.below ⟨⟨_, rfl⟩⟩))))
  go_wp2_with (fail)
  go_ret
  exact ⟨rfl, ⟨lf, HS1.out.kept (Drawn0.below ⟨⟨_, rfl⟩⟩)⟩, HT1.out.trans (Two.of_below g m (Drawn0.below ⟨⟨_, rfl⟩⟩))⟩
set_option maxHeartbeats 3200000 in
set_option maxRecDepth 100000 in
/-- The word stands there. -/
theorem word_good (h : Scn w g m A c b i left) (s : ByteArray) (hin : skip b i + s.size ≤ b.length) (hs0 : 0 < s.size) (hne : (strOfNums ((b.drop (skip b i)).take s.size)).toList = s.toList) :
    Calls Try.prog 21 #[.pointer (some ⟨g, 0, none⟩), .string s] w fun e w' => e = .returned (.bool true) ∧ (∃ left', Scn w' g m A c b (skip b i + s.size) left') ∧ Two g m w w' := by
  have HBL := Aside0.mk (blank_any h)
  obtain ⟨j, hj⟩ : ∃ j, skip b i = j := ⟨_, rfl⟩
  rw [hj] at HBL hin hne ⊢
  have HIN := Aside0.mk hin
  have HS0 := Aside0.mk hs0
  obtain ⟨n, hn⟩ : ∃ n, s.size = n := ⟨_, rfl⟩
  have HN := Aside0.mk hn
  obtain ⟨L, hL⟩ : ∃ L, (b.drop j).take s.size = L := ⟨_, rfl⟩
  rw [hL] at hne
  have z0 : ((strOfNums L).toList == s.toList) = true := beq_iff_eq.mpr hne
  obtain ⟨left1, hs9⟩ : ∃ left1, left1 = left := ⟨_, rfl⟩
  have hA : ∃ ad, A = some ad := by obtain ⟨ad, e, _⟩ := Kd.reads_of_C (enc := Value.int .u8) (d := (0 : Int)) (h1 := fun _ => rfl) (h.bytes w (Two.refl _ _ _)) |>.2.2 (by omega); exact ⟨ad, e⟩
  obtain ⟨ad, hA⟩ := hA
  subst hA
  have HCP : Aside0 (∀ W, Kd.C (Kd.int .u8) W (some ad) b.length b → Kd.C (Kd.int .u8) W (some (ad.add j)) s.size L) := ⟨fun W hW => by rw [← hL]; exact C_part hin hs0 hW⟩
  clear h hj hin hs0 hne hL hs9 hn
  go_enter Try.func21, Try.ntmps21
  go_wp2_with (go_at_call 25; (with_reducible refine HBL.out.mono ?_); rintro e w1 ⟨rfl, lf, hs1, ht1⟩; have HS1 := Aside0.mk hs1; have HT1 := Aside0.mk ht1; have c0 := hs1.c0; have c1 := hs1.c1; have c2 := hs1.c2; clear hs1 ht1)
  go_quiet ((go_at_call 37; exact quietD (part_ok ad c b j s.size _ (HS1.out.bytes _ (Two.of_below g m (Drawn0.below ⟨⟨_, rfl⟩⟩))) HS1.out.cap HS1.out.lim.1 HIN.out HS0.out)))
  rename_i nq
  have vs : ∀ k : Nat, (convert 24 9 (.slice (some (ad.add j)) s.size s.size)).run Try.prog (w1.drewN k) = .ok (.string (strOfNums L)) (w1.drewN k) := fun k => Kd.C_string (P := Try.prog) (c := s.size) Try.underlying24 Try.underlying5 Try.underlying9 (HCP.out _ (HS1.out.bytes _ (Two.of_below g m (Drawn0.below ⟨⟨_, rfl⟩⟩))))
  go_wp2_with (fail)
  have HS2 : Aside0 (Scn (w1.drewN nq) g m (some ad) c b j lf) := ⟨HS1.out.kept (Drawn0.below ⟨⟨_, rfl⟩⟩)⟩
  have HBD := Aside0.mk HS2.out.bud
  clear c0 c1 c2
  (with_reducible refine (take_ok (w1.drewN nq) m lf s.size HS2.out.mt (by omega) (by have := HIN.out; have := HBD.out; omega) (by have := HBD.out; omega)).mono ?_)
  rintro e w2 ⟨rfl, hw2⟩
  have hsp := HS2.out.pay s.size (by have := HIN.out; omega)
  rw [hw2] at hsp
  have HSP := Aside0.mk hsp
  have sc2 : w2.heap[g]? = some (.cells #[.slice (some ad) b.length c, .int .i64 j, .pointer (some ⟨m, 0, none⟩)] 65 (0, 0)) := by
    rw [← hw2]; exact (Below.heap_setCell _ ⟨m, 0, none⟩ _ g HS2.out.ne).trans HS2.out.sc
  have HT2 : Aside0 (Two g m w w2) := ⟨by rw [← hw2]; exact (HT1.out.trans (Two.of_below g m (Drawn0.below (w' := w1.drewN nq) ⟨⟨_, rfl⟩⟩))).trans (Two.setm g m 0 _ _)⟩
  have d1 : w2.cell? ⟨g, 1, none⟩ = some (.int .i64 j) := (blk_cell sc2 1).trans rfl
  have f1 := blk_frozen sc2 1
  have wn : IntKind.i64.wrap ((j : Int) + (s.size : Int)) = (j : Int) + (s.size : Int) := by rw [IntKind.wrap_i64]; have := HIN.out; have := HS2.out.lim; omega
  clear hsp sc2 hw2
  go_wp2_with (fail)
  go_ret
  exact ⟨rfl, ⟨lf - s.size, HSP.out⟩, HT2.out.trans (Two.setg g m 1 _ _)⟩
end word
end Go.Proofs.Ytonekmigcpgdeaa.Hand
