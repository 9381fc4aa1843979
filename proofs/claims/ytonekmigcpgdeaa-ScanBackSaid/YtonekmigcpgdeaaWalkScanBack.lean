/- ScanBack: the walk of the law. -/
import Derived.Test.YtonekmigcpgdeaaS21
import Derived.Test.YtonekmigcpgdeaaWalkScanHex
namespace Go.Proofs.Ytonekmigcpgdeaa.Hand
open Go.RowKit Go.Proofs.Ytonekmigcpgdeaa.QAll Go.Proofs.YtonekmigcpgdeaaW.PrintWords Go.Proofs.YtonekmigcpgdeaaW.PrintLast Go.Proofs.YtonekmigcpgdeaaW.PrintMore Go.Proofs.Ytonekmigcpgdeaa.Runes
set_option linter.unusedVariables false
set_option linter.unusedSimpArgs false
theorem runesFrom_ints (s : ByteArray) : ∀ (bound i : Nat) (acc : Array Value), ∃ ns : List Int, (Conv.runesFrom s bound i acc).toList = acc.toList ++ ns.map (Value.int .i32)
  | 0, _, acc => ⟨[], by simp [Conv.runesFrom]⟩
  | bound + 1, i, acc => by
    unfold Conv.runesFrom
    split
    · obtain ⟨ns, h⟩ := runesFrom_ints s bound (i + (Utf8.decode s i).2) (acc.push (.int .i32 (Int.ofNat (Utf8.decode s i).1)))
      exact ⟨Int.ofNat (Utf8.decode s i).1 :: ns, by simp only [h]; simp⟩
    · exact ⟨[], by simp⟩
/-- A string as runes, and back: signs that are UTF-8. -/
theorem runes_round (w : World) (s : ByteArray) (hs : s.size ≤ 1000000) : ∃ (ns : List Int) (N c : Nat) (W : World), ns.length ≤ s.size ∧
    (convert 9 31 (.string s)).run Try.prog w = .ok (.slice (some ⟨w.heap.size, 0, none⟩) N c) W ∧ (convert 31 9 (.slice (some ⟨w.heap.size, 0, none⟩) N c)).run Try.prog W = .ok (.string (strOfNums (flatR ns))) W ∧ Below w.heap.size w W := by
  have hsz := size_runesFrom s s.size 0 #[]
  obtain ⟨ns, hns⟩ := runesFrom_ints s s.size 0 #[]
  have hr := run_runes_of_string (P := Try.prog) w 9 31 21 s Try.underlying9 Try.underlying31 Try.underlying21 (by simp at hsz; omega)
  obtain ⟨R, hR⟩ : ∃ R, Conv.runesFrom s s.size 0 #[] = R := ⟨_, rfl⟩
  rw [hR] at hr hns hsz
  have hlen : R.size = ns.length := by rw [← Array.length_toList, hns]; simp
  refine ⟨ns, R.size, _, _, by simp at hsz; omega, hr, ?_, (below_drew (Below.refl _ _)).trans (below_from (below_alloc (Below.refl w.drew.heap.size w.drew) _) (Nat.le_refl _))⟩
  have hc := run_convert_runes (P := Try.prog) (w.drew.alloc (.cells (R ++ Array.replicate (grownCap w R.size 0 21 - R.size) (.int .i32 0)) 21)) 31 9 21 ⟨w.heap.size, 0, none⟩ R.size (grownCap w R.size 0 21) ns (by omega) Try.underlying31 Try.underlying21 Try.underlying9 (by
    intro j hj
    have e : (⟨w.heap.size, 0, none⟩ : Addr).add j = ⟨w.heap.size, j, none⟩ := by unfold Addr.add; split <;> simp_all
    have hh := heap_alloc_new w.drew (.cells (R ++ Array.replicate (grownCap w R.size 0 21 - R.size) (.int .i32 0)) 21)
    rw [e]
    have hc := cell_of_row _ _ j _ _ _ hh
    refine (show World.cell? _ ⟨w.heap.size, j, none⟩ = _ from hc).trans ?_
    rw [Array.getElem?_append_left (by omega), ← Array.getElem?_toList, hns]
    simp only [List.nil_append, List.getElem?_map, List.getElem?_eq_getElem hj, Option.map_some]
    rw [List.getD_eq_getElem?_getD, List.getElem?_eq_getElem hj]; rfl)
  rw [hlen, List.take_length, runes_str] at hc
  rw [hlen]
  exact hc
theorem qf_byte (x : Int) (hx : 0 ≤ x ∧ x < 256) : ∀ y ∈ qf x, 0 ≤ y ∧ y < 256 := by
  intro y hy
  unfold qf at hy
  split at hy
  · simp only [List.mem_cons, List.not_mem_nil, or_false] at hy
    rcases hy with rfl | rfl
    · decide
    · unfold toL; (repeat' split) <;> decide
  · split at hy
    · simp only [List.mem_cons, List.not_mem_nil, or_false] at hy
      rcases hy with rfl | rfl | rfl | rfl | rfl | rfl
      · decide
      · decide
      · decide
      · decide
      · exact dg_byte false _ (by omega) (by omega)
      · exact dg_byte false _ (by omega) (by omega)
    · rw [List.mem_singleton.1 hy]; exact hx
theorem qfs_byte : ∀ (l : List Int), (∀ x ∈ l, 0 ≤ x ∧ x < 256) → ∀ y ∈ qfs l, 0 ≤ y ∧ y < 256
  | [], _, y, hy => by cases hy
  | x :: t, h, y, hy => by
    simp only [qfs, List.mem_append] at hy
    rcases hy with hy | hy
    · exact qf_byte x (h x List.mem_cons_self) y hy
    · exact qfs_byte t (fun z hz => h z (List.mem_cons_of_mem _ hz)) y hy
set_option maxHeartbeats 1600000 in
set_option maxRecDepth 100000 in
theorem back_large (A : Option Addr) (c : Nat) (s : ByteArray) (b : List Int) (w : World) (hl : b.length ≤ 140737488351232) (hl2 : s.size ≤ 140737488351232) (h : 2000 < s.size ∨ 1000 < b.length) :
    Calls Try.prog 4 #[.string s, .slice A b.length c] w fun e w' => e = .returned (.bool true) ∧ Below w.heap.size w w' := by
  by_cases h1 : 2000 < s.size
  · have d1 : decide (2000 < s.size) = true := decide_eq_true h1
    have d2 : decide (2000 < (s.size : Int)) = true := decide_eq_true (by omega)
    clear h h1
    go_enter Try.func4, Try.ntmps4
    go_wp2_with (go_at_call 8; (with_reducible refine (awake_any w).mono ?_); rintro e w1 ⟨rfl, hb⟩; have HB := Aside0.mk hb; clear hb)
    go_ret
    exact ⟨rfl, HB.out⟩
  · have d1 : decide (2000 < s.size) = false := decide_eq_false h1
    have d2 : decide (2000 < (s.size : Int)) = false := decide_eq_false (by omega)
    have d3 : decide (1000 < b.length) = true := decide_eq_true (by omega)
    have d4 : decide (1000 < (b.length : Int)) = true := decide_eq_true (by omega)
    clear h h1
    go_enter Try.func4, Try.ntmps4
    go_wp2_with (go_at_call 8; (with_reducible refine (awake_any w).mono ?_); rintro e w1 ⟨rfl, hb⟩; have HB := Aside0.mk hb; clear hb)
    go_ret
    exact ⟨rfl, HB.out⟩
set_option maxHeartbeats 6400000 in
set_option maxRecDepth 100000 in
theorem back_small (A : Option Addr) (c : Nat) (s : ByteArray) (b : List Int) (w : World) (hr : Kd.C (Kd.int .u8) w A b.length b) (hc : b.length ≤ c) (hb : ∀ x ∈ b, 0 ≤ x ∧ x < 256) (hl : b.length ≤ 1000) (hl2 : s.size ≤ 2000) :
    Calls Try.prog 4 #[.string s, .slice A b.length c] w fun e w' => e = .returned (.bool true) ∧ Below w.heap.size w w' := by
  have d1 : decide (2000 < s.size) = false := decide_eq_false (by omega)
  have d2 : decide (2000 < (s.size : Int)) = false := decide_eq_false (by omega)
  have d3 : decide (1000 < b.length) = false := decide_eq_false (by omega)
  have d4 : decide (1000 < (b.length : Int)) = false := decide_eq_false (by omega)
  have HR := Aside0.mk hr
  have HC := Aside0.mk hc
  have HBY := Aside0.mk hb
  have HL := Aside0.mk hl
  have HL2 := Aside0.mk hl2
  have kb := fun (w : World) (s : ByteArray) => Lib.run_convert_string_bytes (P := Try.prog) w 9 24 5 s Try.underlying9 Try.underlying24 Try.underlying5
  clear hr hc hb hl hl2
  go_enter Try.func4, Try.ntmps4
  go_upto_region 5 with (go_at_call 8; (with_reducible refine (awake_any w).mono ?_); rintro e w1 ⟨rfl, hb⟩; have HB := Aside0.mk hb; clear hb)
  obtain ⟨ns, N, cN, w2, hns, hr1, hr2, hb2⟩ := runes_round w1 s (by have := HL2.out; omega)
  have HNS := Aside0.mk hns
  have HB2 : Aside0 (Below w.heap.size w w2) := ⟨HB.out.trans (below_from hb2 HB.out.size)⟩
  clear hns hb2
  obtain ⟨T, hT⟩ : ∃ T, flatR ns = T := ⟨_, rfl⟩
  have HTB : Aside0 (∀ x ∈ T, 0 ≤ x ∧ x < 256) := ⟨by rw [← hT]; exact flatR_byte ns⟩
  have HTU : Aside0 (U T.length T = none) := ⟨by rw [← hT]; exact U_flat ns _ (Nat.le_refl _)⟩
  have HTL : Aside0 (T.length ≤ 8000) := ⟨by rw [← hT]; have := flatR_length ns; have := HNS.out; have := HL2.out; omega⟩
  rw [hT] at hr2
  obtain ⟨S, hS⟩ : ∃ S, strOfNums T = S := ⟨_, rfl⟩
  rw [hS] at hr2
  have HSS := Aside0.mk hS
  have HSZ : Aside0 (T.length = S.size) := ⟨by rw [← hS, strOfNums_size]⟩
  obtain ⟨Q, hQ⟩ : ∃ Q, strOfNums (quoted T) = Q := ⟨_, rfl⟩
  have HQQ := Aside0.mk hQ
  have HQL : Aside0 ((quoted T).length ≤ 48002) := ⟨by unfold quoted; have := qfs_length T; have := HTL.out; simp; omega⟩
  have HQZ : Aside0 ((quoted T).length = Q.size) := ⟨by rw [← hQ, strOfNums_size]⟩
  have hQuote : ∀ W, Calls Try.prog 12 #[.slice (some ⟨W.heap.size, 0, none⟩) S.size (grownCap W S.size 0 5)] (Lib.bytesWorld W 5 S) fun e w' => e = .returned (.string Q) ∧ Below W.heap.size W w' := by
    intro W
    have h := refquoted_any (some ⟨W.heap.size, 0, none⟩) (grownCap W T.length 0 5) T (Lib.bytesWorld W 5 (strOfNums T)) (C_bytes W T HTB.out (by have := HTL.out; omega)) (grownCap_ge W _ 0 5) (by have := HTL.out; omega) HTB.out
    rw [hQ, HSZ.out, hS] at h
    exact h.mono fun e w' hp => ⟨hp.1, (below_bytes W S).trans (below_from hp.2 (below_bytes W S).size)⟩
  have HQUOTE := Aside0.mk hQuote
  clear hQuote hT hS hQ
  go_upto_region 7 with (go_at_call 12; (with_reducible refine (HQUOTE.out w2).mono ?_); rintro e w3 ⟨rfl, hb3⟩; have HB3 : Aside0 (Below w.heap.size w w3) := ⟨HB2.out.trans (below_from hb3 HB2.out.size)⟩; clear hb3)
  clear hr1 hr2
  obtain ⟨Q2, hQ2⟩ : ∃ Q2, (⟨#[32, 9]⟩ : ByteArray) ++ Q = Q2 := ⟨_, rfl⟩
  have hQ2S : strOfNums (32 :: 9 :: quoted T) = Q2 := by
    rw [← hQ2, ← HQQ.out]
    exact (str_app [32, 9] (quoted T)).symm
  have hqb : ∀ x ∈ quoted T, 0 ≤ x ∧ x < 256 := by
    intro x hx
    unfold quoted at hx
    simp only [List.mem_cons, List.mem_append, List.not_mem_nil, or_false] at hx
    rcases hx with rfl | hx | rfl
    · decide
    · exact qfs_byte T HTB.out x hx
    · decide
  have hz2 : Q2.size = Q.size + 2 := by rw [← hQ2S, strOfNums_size]; have := HQZ.out; simp; omega
  have hzq : Q.size ≤ 48002 := by have := HQZ.out; have := HQL.out; omega
  obtain ⟨A9, c9, w4, hrun, hle, hC9, hB9⟩ := append_bytes w3 (32 :: 9 :: quoted T) b (by
      intro x hx
      rcases List.mem_cons.1 hx with rfl | hx
      · decide
      · rcases List.mem_cons.1 hx with rfl | hx
        · decide
        · exact hqb x hx) Q2.size Q2 24 hQ2S (by rw [← hQ2S, strOfNums_size]) A c (Kd.C_below (Kd.C_below HR.out HB3.out) (below_bytes w3 Q2)) (by have := HL.out; omega)
  have hBL : backL T b = (32 :: 9 :: quoted T) ++ b := rfl
  rw [← hBL] at hrun hle hC9
  have HBB : Aside0 (∀ x ∈ backL T b, 0 ≤ x ∧ x < 256) := ⟨by
    intro x hx
    unfold backL at hx
    rcases List.mem_cons.1 hx with rfl | hx
    · decide
    · rcases List.mem_cons.1 hx with rfl | hx
      · decide
      · rcases List.mem_append.1 hx with hx | hx
        · exact hqb x hx
        · exact HBY.out x hx⟩
  have HBLL : Aside0 ((backL T b).length ≤ 1000000) := ⟨by unfold backL; have := HL.out; have := HQL.out; simp; omega⟩
  have hTV := back_text T b HTB.out HTU.out
  rw [HQZ.out] at hTV
  have HTV := Aside0.mk hTV
  have HOP : Aside0 (Calls Try.prog 10 #[.slice A9 (backL T b).length c9, .int .i64 0] w4 (Opened A9 c9 (backL T b) 0 w4)) := ⟨open_any (w := w4) (A := A9) (c := c9) (b := backL T b) (i := 0) hC9 hle HBLL.out (Nat.zero_le _)⟩
  have HRUN := Aside0.mk hrun
  have HB4 : Aside0 (Below w.heap.size w w4) := ⟨HB3.out.trans (below_from hB9 HB3.out.size)⟩
  have wq : IntKind.i64.wrap ((Q.size : Int) + 2) = ((Q.size + 2 : Nat) : Int) := by rw [IntKind.wrap_i64]; omega
  obtain ⟨BL, hBLe⟩ : ∃ BL, backL T b = BL := ⟨_, rfl⟩
  rw [hBLe] at HTV HOP HRUN HBB HBLL
  have HZ2 := Aside0.mk hz2
  clear hz2 hQ2S hqb hrun hle hC9 hB9 hBL hTV hBLe
  go_upto_region 8 with ((with_reducible refine gate_builtin (b := .append) (xs := #[.tmp 27, .tmp 28]) rfl ?_); at_builtin; refine wpList_append_run rfl (.tmp 27) (.tmp 28) 24 rfl (.slice (some ⟨w3.heap.size, 0, none⟩) Q2.size (grownCap w3 Q2.size 0 5)) (.slice A b.length c) (.slice A9 BL.length c9) rfl rfl HRUN.out ?_)
  (with_reducible refine HOP.out.mono ?_)
  rintro e w5 ho
  obtain ⟨g, m, rfl, hs5, hg5, hm5, hb5⟩ := ho
  have HS5 := Aside0.mk hs5
  have HG5 : Aside0 (w.heap.size ≤ g ∧ w.heap.size ≤ m) := ⟨Nat.le_trans HB4.out.size hg5, Nat.le_trans HB4.out.size hm5⟩
  have HB5 : Aside0 (Below w.heap.size w w5) := ⟨HB4.out.trans (below_from hb5 HB4.out.size)⟩
  clear hs5 hg5 hm5 hb5
  have qself : (((Q.size + 2 : Nat) : Int) == ((Q.size + 2 : Nat) : Int)) = true := by simp
  go_wp2_with (first
    | (go_at_call 11; (with_reducible refine (text_some HS5.out HBB.out HTV.out).mono ?_); rintro e w6 ⟨A6, c6, rfl, ho6, ⟨lf6, hs6⟩, ht6⟩; have HS6 := Aside0.mk hs6; have HB6 : Aside0 (Below w.heap.size w w6) := ⟨ht6.fresh HB5.out HG5.out.1 HG5.out.2⟩; have vs6 : (convert 24 9 (.slice A6 T.length c6)).run Try.prog w6 = .ok (.string S) w6 := (by rw [← HSS.out]; exact Kd.C_string (P := Try.prog) (c := c6) Try.underlying24 Try.underlying5 Try.underlying9 (own_C ho6)); clear hs6 ht6 ho6)
    | (go_at_call 13; (with_reducible refine (at_any HS6.out).mono ?_); rintro e w7 ⟨rfl, ⟨n7, rfl⟩⟩))
  go_ret
  exact ⟨rfl, HB6.out.trans (below_from (pw_below_drewN (Below.refl _ _) n7) HB6.out.size)⟩
theorem ScanBack_walk (a0 : ByteArray) (a1 : Option Addr) (len1 cap1 : Nat) (z1 : List Int) (w : World) (w0 : a0.size ≤ 140737488351232)
    (w1 : (a1 = none ∧ len1 = 0 ∧ cap1 = 0 ∧ z1 = []) ∨ ∃ x, a1 = some x ∧ len1 ≤ cap1 ∧ cap1 ≤ maxLen ∧ z1.length = cap1 ∧ (∀ i, i < z1.length → w.cell? (x.add i) = some (.int .u8 (z1.getD i 0))) ∧ ∀ n ∈ z1, (Lit.int .u8 n).wf = true)
    (y1 : len1 * 1 ≤ 140737488351232) :
    Calls Try.prog 4 #[.string a0, .slice a1 len1 cap1] w fun e w' => e = .returned (.bool true) ∧ Below w.heap.size w w' := by
  obtain ⟨l, rfl, hr, hm, hw, hc⟩ := ReadsInt.ofRowC w1
  by_cases h : a0.size ≤ 2000 ∧ l.length ≤ 1000
  · exact back_small _ _ a0 l w (Kd.C_of_reads (d := (0 : Int)) (h1 := fun _ => rfl) hr) hc (fun x hx => wf_u8 (hw x hx)) h.2 h.1
  · exact back_large _ _ a0 l w (by omega) w0 (by omega)
end Go.Proofs.Ytonekmigcpgdeaa.Hand
