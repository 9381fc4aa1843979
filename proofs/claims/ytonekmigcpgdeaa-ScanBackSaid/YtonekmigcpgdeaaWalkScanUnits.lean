/- ScanUnits: the walk of the law. -/
import Derived.Test.YtonekmigcpgdeaaS12
namespace Go.Proofs.Ytonekmigcpgdeaa.Hand
open Go.RowKit Go.Proofs.Ytonekmigcpgdeaa.QAll Go.Proofs.YtonekmigcpgdeaaW.PrintWords Go.Proofs.YtonekmigcpgdeaaW.PrintLast Go.Proofs.YtonekmigcpgdeaaW.PrintMore Go.Proofs.Ytonekmigcpgdeaa.Runes
set_option linter.unusedVariables false
set_option linter.unusedSimpArgs false
theorem below_bytes (w : World) (s : ByteArray) : Below w.heap.size w (Lib.bytesWorld w 5 s) := by
  refine ⟨rfl, rfl, rfl, by rw [Lib.bytesWorld_size]; omega, fun k hk => Lib.bytesWorld_at_old w 5 s k hk⟩
theorem strOfNums_at (b : List Int) (hb : ∀ x ∈ b, 0 ≤ x ∧ x < 256) (j : Nat) (hj : j < b.length) : (((strOfNums b).data.toList.getD j 0).toNat : Int) = b.getD j 0 := by
  have h := hb _ (List.getElem_mem hj)
  rw [strOfNums_data, List.getD_eq_getElem?_getD, List.getD_eq_getElem?_getD, List.getElem?_map, List.getElem?_eq_getElem hj]
  simp
  omega
theorem C_bytes (w : World) (b : List Int) (hb : ∀ x ∈ b, 0 ≤ x ∧ x < 256) (hl : b.length ≤ 1000000) : Kd.C (Kd.int .u8) (Lib.bytesWorld w 5 (strOfNums b)) (some ⟨w.heap.size, 0, none⟩) b.length b := by
  refine Kd.C_of_reads (enc := Value.int .u8) (d := (0 : Int)) (h1 := fun _ => rfl) ⟨rfl, by omega, fun _ => ⟨_, rfl, fun j hj => ?_⟩⟩
  have e : (⟨w.heap.size, 0, none⟩ : Addr).add j = ⟨w.heap.size, j, none⟩ := by unfold Addr.add; split <;> simp_all
  rw [e, Lib.bytesWorld_cell w 5 _ j (by rw [strOfNums_size]; exact hj), strOfNums_at b hb j hj]
theorem open_bytes (w : World) (b : List Int) (n : Nat) (S : ByteArray) (hS : strOfNums b = S) (hn : b.length = n) (hb : ∀ x ∈ b, 0 ≤ x ∧ x < 256) (hl : n ≤ 1000000) :
    Calls Try.prog 10 #[.slice (some ⟨w.heap.size, 0, none⟩) n (grownCap w n 0 5), .int .i64 0] (Lib.bytesWorld w 5 S) (Opened (some ⟨w.heap.size, 0, none⟩) (grownCap w n 0 5) b 0 (Lib.bytesWorld w 5 S)) := by
  subst hS hn
  exact open_any (i := 0) (C_bytes w b hb hl) (grownCap_ge w _ 0 5) hl (Nat.zero_le _)
theorem dg_byte (great : Bool) (k : Int) (h0 : 0 ≤ k) (h1 : k < 16) : 0 ≤ dg great k ∧ dg great k < 256 := by
  unfold dg; split
  · omega
  · split <;> omega
theorem uL_byte (great : Bool) (n : Int) : ∀ x ∈ uL great n, 0 ≤ x ∧ x < 256 := by
  intro x hx
  unfold uL at hx
  simp only [List.mem_cons, List.not_mem_nil, or_false] at hx
  rcases hx with rfl | rfl | rfl | rfl | rfl | rfl
  · decide
  · decide
  all_goals exact dg_byte great _ (by omega) (by omega)
theorem q1_byte (great : Bool) (n : Int) : ∀ x ∈ q1 great n, 0 ≤ x ∧ x < 256 := by
  intro x hx
  unfold q1 at hx
  simp only [List.mem_cons, List.mem_append, List.not_mem_nil, or_false] at hx
  rcases hx with rfl | h | rfl
  · decide
  · exact uL_byte _ _ x h
  · decide
theorem q2_byte (great : Bool) (n m : Int) : ∀ x ∈ q2 great n m, 0 ≤ x ∧ x < 256 := by
  intro x hx
  unfold q2 at hx
  simp only [List.mem_cons, List.mem_append, List.not_mem_nil, or_false] at hx
  rcases hx with rfl | h | h | rfl
  · decide
  · exact uL_byte _ _ x h
  · exact uL_byte _ _ x h
  · decide
theorem str_app (a b : List Int) : strOfNums a ++ strOfNums b = strOfNums (a ++ b) := by
  apply ByteArray.ext
  rw [ByteArray.data_append]
  simp [strOfNums]
/-- Up to the first question of the law: the closure's own digits. -/
def Mid (great : Bool) (p : Nat) (w w' : World) : Prop := w'.cell? ⟨p, 0, none⟩ = some (.string (dstr great)) ∧ Below w.heap.size w w'
theorem Mid.step {great : Bool} {p : Nat} {w w' w'' : World} (h : Mid great p w w') (hb : Below w'.heap.size w' w'') : Mid great p w w'' :=
  ⟨(hb.cell (World.block_lt_of_cell? w' _ h.1)).trans h.1, h.2.trans (below_from hb h.2.size)⟩
set_option maxHeartbeats 3200000 in
set_option maxRecDepth 100000 in
theorem ScanUnits_walk (r : Int) (great : Bool) (w : World) (hr : (Lit.int .i32 r).wf = true) : Calls Try.prog 3 #[.int .i32 r, .bool great] w fun e w' => e = .returned (.bool true) ∧ Below w.heap.size w w' := by
  have hq := and_i32 r
  have hq0 : 0 ≤ r % 2097152 ∧ r % 2097152 < 2097152 := by omega
  obtain ⟨q, hqq⟩ : ∃ q, r % 2097152 = q := ⟨_, rfl⟩
  rw [hqq] at hq hq0
  obtain ⟨q0, q1'⟩ := hq0
  clear hqq hr
  have kb := fun (w : World) (s : ByteArray) => Lib.run_convert_string_bytes (P := Try.prog) w 9 24 5 s Try.underlying9 Try.underlying24 Try.underlying5
  by_cases big : 1114111 < q
  · have big' : decide (1114111 < q) = true := decide_eq_true big
    clear kb
    cases great
    all_goals
      go_enter Try.func3, Try.ntmps3
      go_wp2_with (go_at_call 8; (with_reducible refine (awake_any w).mono ?_); rintro e w1 ⟨rfl, hb⟩; have HB := Aside0.mk hb; clear hb)
      go_ret
      exact ⟨rfl, below_alloc HB.out _⟩
  have big' : decide (1114111 < q) = false := decide_eq_false big
  by_cases two : 65535 < q
  · have two' : decide (65535 < q) = true := decide_eq_true two
    have sur1 : decide (55296 ≤ q) = true := decide_eq_true (by omega)
    have sur2 : decide (q < 57344) = false := decide_eq_false (by omega)
    have q2a : 65536 ≤ q := by omega
    have q2b : q ≤ 1114111 := by omega
    have hT := q2_text great q q2a q2b
    have hm := and1023 (q - 65536) (by omega) (by omega)
    have hE := enc_str q q0 (by omega) (by omega)
    obtain ⟨L, hL⟩ : ∃ L, Lib.encodeRuneZ q = L := ⟨_, rfl⟩
    rw [hL] at hT hE
    have hB1 : 0 ≤ 55296 + (q - 65536) / 1024 ∧ 55296 + (q - 65536) / 1024 ≤ 2097151 := by omega
    have hB2 : 0 ≤ 56320 + (q - 65536) % 1024 ∧ 56320 + (q - 65536) % 1024 ≤ 2097151 := by omega
    obtain ⟨lo0, hlo0⟩ : ∃ lo0, (q - 65536) % 1024 = lo0 := ⟨_, rfl⟩
    have lo1 : 0 ≤ lo0 ∧ lo0 < 1024 := by omega
    obtain ⟨hi, hhi⟩ : ∃ hi, 55296 + (q - 65536) / 1024 = hi := ⟨_, rfl⟩
    obtain ⟨lo, hlo⟩ : ∃ lo, 56320 + lo0 = lo := ⟨_, rfl⟩
    rw [hlo0] at hm hT hB2
    rw [hlo] at hT hB2
    rw [hhi] at hT hB1
    have HT := Aside0.mk hT
    have HU : Aside0 (∀ (great : Bool) (p : Nat) (n : Int) (w W : World), (0 ≤ n ∧ n ≤ 2097151) → Mid great p w W → Calls Try.prog 9 #[.int .i32 n, .pointer (some ⟨p, 0, none⟩)] W fun e w' => e = .returned (.string (strOfNums (uL great n))) ∧ Mid great p w w') := ⟨fun gr p n w W hn hM => (unit_clos gr n hM.1 hn.1 hn.2).mono fun e w' h => ⟨h.1, hM.step h.2⟩⟩
    have hBY := Aside0.mk (q2_byte great hi lo)
    have hSS : Aside0 (strOfNums (q2 great hi lo) = strOfNums [34] ++ (strOfNums (uL great hi) ++ strOfNums (uL great lo)) ++ strOfNums [34]) := ⟨by rw [str_app, str_app, str_app]; rfl⟩
    obtain ⟨UA, hUA⟩ : ∃ UA, strOfNums (uL great q) = UA := ⟨_, rfl⟩
    obtain ⟨UB, hUB⟩ : ∃ UB, strOfNums (uL great hi) = UB := ⟨_, rfl⟩
    obtain ⟨UC, hUC⟩ : ∃ UC, strOfNums (uL great lo) = UC := ⟨_, rfl⟩
    obtain ⟨U1, hU1⟩ : ∃ U1, UB ++ UC = U1 := ⟨_, rfl⟩
    obtain ⟨U2, hU2⟩ : ∃ U2, (⟨#[34]⟩ : ByteArray) ++ U1 = U2 := ⟨_, rfl⟩
    obtain ⟨U3, hU3⟩ : ∃ U3, U2 ++ (⟨#[34]⟩ : ByteArray) = U3 := ⟨_, rfl⟩
    have HU3 : Aside0 (strOfNums (q2 great hi lo) = U3) := ⟨by rw [hSS.out, ← hU3, ← hU2, ← hU1, ← hUB, ← hUC]; rfl⟩
    have z3 : U3.size = 14 := by rw [← HU3.out, strOfNums_size]; rfl
    have zb : UB.size = 6 := by rw [← hUB, strOfNums_size]; rfl
    have zc : UC.size = 6 := by rw [← hUC, strOfNums_size]; rfl
    have z1 : U1.size = 12 := by rw [← hU1, ByteArray.size_append, zb, zc]
    have z2 : U2.size = 13 := by rw [← hU2, ByteArray.size_append, z1]; rfl
    have HCA : Aside0 (∀ (p : Nat) (W : World), Mid great p w W → Calls Try.prog 9 #[.int .i32 q, .pointer (some ⟨p, 0, none⟩)] W fun e w' => e = .returned (.string UA) ∧ Mid great p w w') := ⟨fun p W hW => by have h := HU.out great p q w W ⟨q0, by omega⟩ hW; rw [hUA] at h; exact h⟩
    have HCB : Aside0 (∀ (p : Nat) (W : World), Mid great p w W → Calls Try.prog 9 #[.int .i32 hi, .pointer (some ⟨p, 0, none⟩)] W fun e w' => e = .returned (.string UB) ∧ Mid great p w w') := ⟨fun p W hW => by have h := HU.out great p hi w W hB1 hW; rw [hUB] at h; exact h⟩
    have HCC : Aside0 (∀ (p : Nat) (W : World), Mid great p w W → Calls Try.prog 9 #[.int .i32 lo, .pointer (some ⟨p, 0, none⟩)] W fun e w' => e = .returned (.string UC) ∧ Mid great p w w') := ⟨fun p W hW => by have h := HU.out great p lo w W hB2 hW; rw [hUC] at h; exact h⟩
    have HOP : Aside0 (∀ W : World, Calls Try.prog 10 #[.slice (some ⟨W.heap.size, 0, none⟩) 14 (grownCap W 14 0 5), .int .i64 0] (Lib.bytesWorld W 5 U3) (Opened (some ⟨W.heap.size, 0, none⟩) (grownCap W 14 0 5) (q2 great hi lo) 0 (Lib.bytesWorld W 5 U3))) := ⟨fun W => open_bytes W (q2 great hi lo) 14 U3 HU3.out rfl hBY.out (by decide)⟩
    obtain ⟨lo2, lo3⟩ := lo1
    clear hT hUA hUB hUC big two hL hB1 hB2
    cases great
    all_goals
      go_enter Try.func3, Try.ntmps3
      go_upto_region 8 with (go_at_call 8; (with_reducible refine (awake_any w).mono ?_); rintro e w1 ⟨rfl, hb⟩; have HB := Aside0.mk hb; clear hb)
      generalize hw2 : World.alloc w1 _ = w2
      first
        | have HM : Aside0 (Mid false w1.heap.size w w2) := ⟨by rw [← hw2]; exact (blk_cell (heap_alloc_new w1 _) 0).trans rfl, by rw [← hw2]; exact below_alloc HB.out _⟩
        | have HM : Aside0 (Mid true w1.heap.size w w2) := ⟨by rw [← hw2]; exact (blk_cell (heap_alloc_new w1 _) 0).trans rfl, by rw [← hw2]; exact below_alloc HB.out _⟩
      obtain ⟨p, hp⟩ : ∃ p, w1.heap.size = p := ⟨_, rfl⟩
      rw [hp] at HM ⊢
      clear hw2 hp HB
      go_upto_region 12 with (go_at_call 9; (with_reducible refine (HCA.out p w2 HM.out).mono ?_); rintro e w3 ⟨rfl, hm3⟩; have HM3 := Aside0.mk hm3; clear hm3)
      go_upto_region 13 with (first
        | (go_at_call 9; (with_reducible refine (HCB.out p w3 HM3.out).mono ?_); rintro e w4 ⟨rfl, hm4⟩; have HM4 := Aside0.mk hm4; clear hm4)
        | (go_at_call 9; (with_reducible refine (HCC.out p w4 HM4.out).mono ?_); rintro e w5 ⟨rfl, hm5⟩; have HB5 := Aside0.mk hm5.2; clear hm5))
      go_wp2_with (first
        | (go_at_call 10; (with_reducible refine (HOP.out w5).mono ?_); rintro e w6 ho; obtain ⟨g6, m6, rfl, hs6, hg6, hm6, hb6⟩ := ho; have HS6 := Aside0.mk hs6; have HG6 : Aside0 (w5.heap.size ≤ g6 ∧ w5.heap.size ≤ m6) := ⟨Nat.le_trans (below_bytes w5 U3).size hg6, Nat.le_trans (below_bytes w5 U3).size hm6⟩; have HB6 : Aside0 (Below w5.heap.size w5 w6) := ⟨(below_bytes w5 U3).trans (below_from hb6 (below_bytes w5 U3).size)⟩; clear hs6 hg6 hm6 hb6)
        | (go_at_call 11; (with_reducible refine (text_some HS6.out hBY.out HT.out).mono ?_); rintro e w7 ⟨A7, c7, rfl, ho7, _, ht7⟩; have HT7 := Aside0.mk ht7; have vs7 : (convert 24 9 (.slice A7 L.length c7)).run Try.prog w7 = .ok (.string (strOfNums L)) w7 := Kd.C_string (P := Try.prog) (c := c7) Try.underlying24 Try.underlying5 Try.underlying9 (own_C ho7); clear ht7 ho7))
      go_ret
      exact ⟨rfl, HB5.out.trans (below_from (HT7.out.fresh HB6.out HG6.out.1 HG6.out.2) HB5.out.size)⟩
  have two' : decide (65535 < q) = false := decide_eq_false two
  have HU : Aside0 (∀ (great : Bool) (p : Nat) (w W : World), Mid great p w W → Calls Try.prog 9 #[.int .i32 q, .pointer (some ⟨p, 0, none⟩)] W fun e w' => e = .returned (.string (strOfNums (uL great q))) ∧ Mid great p w w') := ⟨fun gr p w W hM => (unit_clos gr q hM.1 q0 (by omega)).mono fun e w' h => ⟨h.1, hM.step h.2⟩⟩
  have hT := q1_text great q q0 (by omega)
  have hBY := Aside0.mk (q1_byte great q)
  have hSS : Aside0 (strOfNums (q1 great q) = strOfNums [34] ++ strOfNums (uL great q) ++ strOfNums [34]) := ⟨by rw [str_app, str_app]; rfl⟩
  by_cases sur : 55296 ≤ q ∧ q < 57344
  · rw [if_pos sur] at hT
    have sur1 : decide (55296 ≤ q) = true := decide_eq_true sur.1
    have sur2 : decide (q < 57344) = true := decide_eq_true sur.2
    have HT := Aside0.mk hT
    obtain ⟨U1, hU1⟩ : ∃ U1, strOfNums (uL great q) = U1 := ⟨_, rfl⟩
    obtain ⟨U2, hU2⟩ : ∃ U2, (⟨#[34]⟩ : ByteArray) ++ U1 = U2 := ⟨_, rfl⟩
    obtain ⟨U3, hU3⟩ : ∃ U3, U2 ++ (⟨#[34]⟩ : ByteArray) = U3 := ⟨_, rfl⟩
    have HU3 : Aside0 (strOfNums (q1 great q) = U3) := ⟨by rw [hSS.out, ← hU3, ← hU2, ← hU1]; rfl⟩
    have z3 : U3.size = 8 := by rw [← HU3.out, strOfNums_size]; rfl
    have z1 : U1.size = 6 := by rw [← hU1, strOfNums_size]; rfl
    have z2 : U2.size = 7 := by rw [← hU2, ByteArray.size_append, z1]; rfl
    have HU1 := Aside0.mk hU1
    have HOP : Aside0 (∀ W : World, Calls Try.prog 10 #[.slice (some ⟨W.heap.size, 0, none⟩) 8 (grownCap W 8 0 5), .int .i64 0] (Lib.bytesWorld W 5 U3) (Opened (some ⟨W.heap.size, 0, none⟩) (grownCap W 8 0 5) (q1 great q) 0 (Lib.bytesWorld W 5 U3))) := ⟨fun W => open_bytes W (q1 great q) 8 U3 HU3.out rfl hBY.out (by decide)⟩
    clear hT hU1 sur big two
    cases great
    all_goals
      go_enter Try.func3, Try.ntmps3
      go_upto_region 8 with (go_at_call 8; (with_reducible refine (awake_any w).mono ?_); rintro e w1 ⟨rfl, hb⟩; have HB := Aside0.mk hb; clear hb)
      generalize hw2 : World.alloc w1 _ = w2
      first
        | have HM : Aside0 (Mid false w1.heap.size w w2) := ⟨by rw [← hw2]; exact (blk_cell (heap_alloc_new w1 _) 0).trans rfl, by rw [← hw2]; exact below_alloc HB.out _⟩
        | have HM : Aside0 (Mid true w1.heap.size w w2) := ⟨by rw [← hw2]; exact (blk_cell (heap_alloc_new w1 _) 0).trans rfl, by rw [← hw2]; exact below_alloc HB.out _⟩
      obtain ⟨p, hp⟩ : ∃ p, w1.heap.size = p := ⟨_, rfl⟩
      rw [hp] at HM ⊢
      clear hw2 hp HB
      have HCL := Aside0.mk (HU.out _ p w w2 HM.out)
      rw [HU1.out] at HCL
      go_wp2_with (first
        | (go_at_call 9; (with_reducible refine HCL.out.mono ?_); rintro e w3 ⟨rfl, hm3⟩; have HB3 := Aside0.mk hm3.2; clear hm3)
        | (go_at_call 10; (with_reducible refine (HOP.out w3).mono ?_); rintro e w4 ho; obtain ⟨g4, m4, rfl, hs4, hg4, hm4, hb4⟩ := ho; have HS4 := Aside0.mk hs4; have HG4 : Aside0 (w3.heap.size ≤ g4 ∧ w3.heap.size ≤ m4) := ⟨Nat.le_trans (below_bytes w3 U3).size hg4, Nat.le_trans (below_bytes w3 U3).size hm4⟩; have HB4 : Aside0 (Below w3.heap.size w3 w4) := ⟨(below_bytes w3 U3).trans (below_from hb4 (below_bytes w3 U3).size)⟩; clear hs4 hg4 hm4 hb4)
        | (go_at_call 11; (with_reducible refine (text_none HS4.out hBY.out HT.out).mono ?_); rintro e w5 ⟨A5, c5, rfl, ht5⟩; have HT5 := Aside0.mk ht5; clear ht5))
      go_ret
      exact ⟨rfl, HB3.out.trans (below_from (HT5.out.fresh HB4.out HG4.out.1 HG4.out.2) HB3.out.size)⟩
  rw [if_neg sur] at hT
  have sur0 : decide (55296 ≤ q) = false ∨ (decide (55296 ≤ q) = true ∧ decide (q < 57344) = false) := by
    by_cases a : 55296 ≤ q
    · exact .inr ⟨decide_eq_true a, decide_eq_false (by omega)⟩
    · exact .inl (decide_eq_false a)
  have hE := enc_str q q0 (by omega) (by omega)
  obtain ⟨L, hL⟩ : ∃ L, Lib.encodeRuneZ q = L := ⟨_, rfl⟩
  rw [hL] at hT hE
  have HT := Aside0.mk hT
  obtain ⟨U1, hU1⟩ : ∃ U1, strOfNums (uL great q) = U1 := ⟨_, rfl⟩
  obtain ⟨U2, hU2⟩ : ∃ U2, (⟨#[34]⟩ : ByteArray) ++ U1 = U2 := ⟨_, rfl⟩
  obtain ⟨U3, hU3⟩ : ∃ U3, U2 ++ (⟨#[34]⟩ : ByteArray) = U3 := ⟨_, rfl⟩
  have HU3 : Aside0 (strOfNums (q1 great q) = U3) := ⟨by rw [hSS.out, ← hU3, ← hU2, ← hU1]; rfl⟩
  have z3 : U3.size = 8 := by rw [← HU3.out, strOfNums_size]; rfl
  have z1 : U1.size = 6 := by rw [← hU1, strOfNums_size]; rfl
  have z2 : U2.size = 7 := by rw [← hU2, ByteArray.size_append, z1]; rfl
  have HU1 := Aside0.mk hU1
  have HOP : Aside0 (∀ W : World, Calls Try.prog 10 #[.slice (some ⟨W.heap.size, 0, none⟩) 8 (grownCap W 8 0 5), .int .i64 0] (Lib.bytesWorld W 5 U3) (Opened (some ⟨W.heap.size, 0, none⟩) (grownCap W 8 0 5) (q1 great q) 0 (Lib.bytesWorld W 5 U3))) := ⟨fun W => open_bytes W (q1 great q) 8 U3 HU3.out rfl hBY.out (by decide)⟩
  clear hT hU1 sur big two hL
  rcases sur0 with sur1 | ⟨sur1, sur2⟩ <;> cases great
  all_goals
    go_enter Try.func3, Try.ntmps3
    go_upto_region 8 with (go_at_call 8; (with_reducible refine (awake_any w).mono ?_); rintro e w1 ⟨rfl, hb⟩; have HB := Aside0.mk hb; clear hb)
    generalize hw2 : World.alloc w1 _ = w2
    first
      | have HM : Aside0 (Mid false w1.heap.size w w2) := ⟨by rw [← hw2]; exact (blk_cell (heap_alloc_new w1 _) 0).trans rfl, by rw [← hw2]; exact below_alloc HB.out _⟩
      | have HM : Aside0 (Mid true w1.heap.size w w2) := ⟨by rw [← hw2]; exact (blk_cell (heap_alloc_new w1 _) 0).trans rfl, by rw [← hw2]; exact below_alloc HB.out _⟩
    obtain ⟨p, hp⟩ : ∃ p, w1.heap.size = p := ⟨_, rfl⟩
    rw [hp] at HM ⊢
    clear hw2 hp HB
    have HCL := Aside0.mk (HU.out _ p w w2 HM.out)
    rw [HU1.out] at HCL
    go_wp2_with (first
      | (go_at_call 9; (with_reducible refine HCL.out.mono ?_); rintro e w3 ⟨rfl, hm3⟩; have HB3 := Aside0.mk hm3.2; clear hm3)
      | (go_at_call 10; (with_reducible refine (HOP.out w3).mono ?_); rintro e w4 ho; obtain ⟨g4, m4, rfl, hs4, hg4, hm4, hb4⟩ := ho; have HS4 := Aside0.mk hs4; have HG4 : Aside0 (w3.heap.size ≤ g4 ∧ w3.heap.size ≤ m4) := ⟨Nat.le_trans (below_bytes w3 U3).size hg4, Nat.le_trans (below_bytes w3 U3).size hm4⟩; have HB4 : Aside0 (Below w3.heap.size w3 w4) := ⟨(below_bytes w3 U3).trans (below_from hb4 (below_bytes w3 U3).size)⟩; clear hs4 hg4 hm4 hb4)
      | (go_at_call 11; (with_reducible refine (text_some HS4.out hBY.out HT.out).mono ?_); rintro e w5 ⟨A5, c5, rfl, ho5, _, ht5⟩; have HT5 := Aside0.mk ht5; have vs5 : (convert 24 9 (.slice A5 L.length c5)).run Try.prog w5 = .ok (.string (strOfNums L)) w5 := Kd.C_string (P := Try.prog) (c := c5) Try.underlying24 Try.underlying5 Try.underlying9 (own_C ho5); clear ht5 ho5))
    go_ret
    exact ⟨rfl, HB3.out.trans (below_from (HT5.out.fresh HB4.out HG4.out.1 HG4.out.2) HB3.out.size)⟩

end Go.Proofs.Ytonekmigcpgdeaa.Hand
