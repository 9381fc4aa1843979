/- Texts joined: L1 L3 L4 L5. -/
import Derived.Test.YthilhndejhnlnaaZD24
section
/- value: its walk where bytes are made. -/
namespace Go.Proofs.Ythilhndejhnlnaa.Hand
open Go.RowKit Go.Proofs.Ythilhndejhnlnaa.QAll Go.Proofs.YthilhndejhnlnaaW.PrintWords Go.Proofs.YthilhndejhnlnaaW.PrintLast Go.Proofs.YthilhndejhnlnaaW.PrintMore Go.Proofs.Ythilhndejhnlnaa.Mk
set_option linter.unusedVariables false
set_option linter.unusedSimpArgs false
abbrev fV (f : S28) : Value := .agg #[.string f.f0, .int .u8 f.f1.f0, .int .i64 f.f1.f1, .int .i64 f.f1.f2, .int .u64 f.f2]
set_option maxHeartbeats 6400000 in
set_option maxRecDepth 100000 in
theorem value_data {st : List S31} {en : List S61} {root : Int} {B : List Int} (hB : BytesOk B) (left : Nat) (rf : Int) (f : S28) (sure : Bool) (i : Int) (us : Value) (w0 w : World) (g : Nat) (i0 : 0 ≤ i) (i1 : i ≤ B.length)
    (hs : IsS84 w0 w g B i) (hb : Below w0.heap.size w0 w) (hS : ∃ a b c, us = .agg #[a, b, c]) :
    Calls Try.prog 23 #[us, tyV 12 rf 0, .pointer (some ⟨g, 0, none⟩), .int .i64 left, fV f, .bool sure] w (VPost st en root B left 12 rf 0 sure i w0 w g) := by
  obtain ⟨a, b, d, rfl⟩ := hS
  obtain ⟨c, j, hc, c0, c1, j0, j1, hrun, hfin⟩ := next_f hB i i0 i1
  obtain ⟨g1, e1⟩ : ∃ g1, w.heap.size = g1 := ⟨_, rfl⟩
  obtain ⟨g2, e2⟩ : ∃ g2, g1 + 1 = g2 := ⟨_, rfl⟩
  obtain ⟨g3, e3⟩ : ∃ g3, g2 + 1 = g3 := ⟨_, rfl⟩
  obtain ⟨g4, e4⟩ : ∃ g4, g3 + 1 = g4 := ⟨_, rfl⟩
  obtain ⟨g5, e5⟩ : ∃ g5, g4 + 1 = g5 := ⟨_, rfl⟩
  obtain ⟨w1, hw1⟩ : ∃ w1, (((((w.alloc (.cells #[a, b, d] 35)).alloc (.cells #[.int .u8 12, .int .i64 rf, .int .i64 0] 25)).alloc (.cells #[.string f.f0, .int .u8 f.f1.f0, .int .i64 f.f1.f1, .int .i64 f.f1.f2, .int .u64 f.f2] 28)).alloc (.cells #[.int .u64 0, .slice none 0 0, .slice none 0 0, .bool false] 39)).alloc (.cells #[.int .u64 0, .slice none 0 0, .slice none 0 0, .bool false] 39)) = w1 := ⟨_, rfl⟩
  have HV1 := Aside0.mk (vs_new w0 w g B i _ _ _ hs hb e1 e2 e3 e4 e5 hw1)
  have HEQ := Aside0.mk (And.intro e1 (And.intro e2 (And.intro e3 (And.intro e4 (And.intro e5 hw1)))))
  have HN := Aside0.mk (transomhand05_Source_next.calls g B i c j w0 w1 HV1.out.src HV1.out.bel hc)
  have HC : Aside0 (0 ≤ c ∧ c < 256 ∧ i ≤ j ∧ j ≤ B.length ∧ 0 ≤ i ∧ (i < B.length → j = i + 1) ∧ (i = B.length → c = 0 ∧ j = i)) := ⟨c0, c1, j0, j1, i0, hrun, hfin⟩
  clear hc j0 j1 hrun hfin e1 e2 e3 e4 e5 hw1 hs hb i0 i1
  go_enter Try.func23, Try.ntmps23
  go_upto_region 2 with (fail)
  rw [HEQ.out.1, HEQ.out.2.1, HEQ.out.2.2.1, HEQ.out.2.2.2.1, HEQ.out.2.2.2.2.1, HEQ.out.2.2.2.2.2]
  go_upto_region 8 with (go_at_call 32; (with_reducible refine HN.out.mono ?_); rintro e w2 ⟨rfl, hs2, hb2, hk2⟩; have HV2 := Aside0.mk (HV1.out.call hs2 hb2 hk2); clear hs2 hb2 hk2)
  have t0 : w2.cell? ⟨g2, 0, none⟩ = some (.int .u8 12) := (blk_cell HV2.out.t 0).trans rfl
  have t1 : w2.cell? ⟨g2, 1, none⟩ = some (.int .i64 rf) := (blk_cell HV2.out.t 1).trans rfl
  have t2 : w2.cell? ⟨g2, 2, none⟩ = some (.int .i64 0) := (blk_cell HV2.out.t 2).trans rfl
  have HNUM : Aside0 (transomref05_IsNum.f 6 12 rf 0 = some false) := ⟨isnum_f 12 rf 0 (by decide) (by decide)⟩
  go_upto_region 31 with (go_at_call 19; (with_reducible refine (transomref05_IsNum.calls 6 12 rf 0 false _ HNUM.out).mono ?_); rintro e w3 ⟨rfl, hb3⟩; have HV3 := Aside0.mk (HV2.out.below hb3); clear hb3 t0 t1 t2)
  have t0 : w3.cell? ⟨g2, 0, none⟩ = some (.int .u8 12) := (blk_cell HV3.out.t 0).trans rfl
  obtain ⟨m, hm, hm7⟩ : ∃ m : Nat, Int.tmod c 7 = m ∧ m < 7 := ⟨(c % 7).toNat, by rw [tm c 7 HC.out.1 (by decide)]; have := HC.out; omega, by have := HC.out; omega⟩
  have HM := Aside0.mk hm7
  clear hm7
  go_wp2_with (fail)
  clear t0
  go_loopg [25] 7 (fun kq v25 wr => ∃ (q : Nat) (jq : Int) (bs : List Int) (v1 : Value), v25 = .int .i64 q ∧ Aside0 (q ≤ m) ∧ Aside0 (m < kq + q) ∧ Aside0 (bs.length = q ∧ (∀ x ∈ bs, 0 ≤ x ∧ x < 256)) ∧ Aside0 (j ≤ jq ∧ jq ≤ B.length) ∧
      Aside0 (VS w0 w wr g B jq g1 g2 g3 g4 g5 #[a, b, d] #[.int .u8 12, .int .i64 rf, .int .i64 0] #[.string f.f0, .int .u8 f.f1.f0, .int .i64 f.f1.f1, .int .i64 f.f1.f2, .int .u64 f.f2] #[.int .u64 0, v1, .slice none 0 0, .bool false]) ∧
      Aside0 (Rb (Kd.int .u8) 5 wr (g5 + 1) v1 bs))
  case atStart => exact ⟨0, j, [], .slice none 0 0, rfl, ⟨Nat.zero_le _⟩, ⟨HM.out⟩, ⟨rfl, fun _ h => by cases h⟩, ⟨by omega, HC.out.2.2.2.1⟩, HV3, ⟨Rb.nil _ _ _ _⟩⟩
  case round =>
    obtain ⟨q, jq, bs, v1, rfl, HQ, HK, HBS, HJ, HV, HR⟩ := hrel
    obtain ⟨n, rfl⟩ : ∃ n, gk = n + 1 := ⟨gk - 1, by have := HK.out; have := HQ.out; omega⟩
    obtain ⟨A, cc, rfl, -, -⟩ := HR.out.slice
    by_cases p : q < m
    · have p1 : decide (q < m) = true := decide_eq_true p
      have p2 : decide ((q : Int) < (m : Int)) = true := decide_eq_true (by omega)
      obtain ⟨c', j', hc', c0', c1', j0', j1', -, -⟩ := next_f hB jq (by have := HJ.out; have := HC.out; omega) HJ.out.2
      have HN2 := Aside0.mk (transomhand05_Source_next.calls g B jq c' j' w0 wr HV.out.src HV.out.bel hc')
      have wc : IntKind.u8.wrap c' = c' := by rw [IntKind.wrap_u8]; omega
      have HP := Aside0.mk p
      have hq6 : q ≤ 6 := by have := HM.out; omega
      have HC2 : Aside0 (0 ≤ c' ∧ c' < 256 ∧ jq ≤ j' ∧ j' ≤ B.length) := ⟨c0', c1', j0', j1'⟩
      clear hc' j0' j1' c0' c1' p
      go_upto_region 7 with (go_at_call 32; (with_reducible refine HN2.out.mono ?_); rintro e w4 ⟨rfl, hs4, hb4, hk4⟩; have HV4 := Aside0.mk (HV.out.call hs4 hb4 hk4); have HR4 := Aside0.mk (HR.out.keep hk4 (by have := HV.out.ne; omega)); clear hs4 hb4 hk4)
      have o1 : w4.cell? ⟨g5, 1, none⟩ = some (.slice A bs.length cc) := (blk_cell HV4.out.o 1).trans rfl
      go_wp2_with ((with_reducible refine gate_builtin (b := .append) (xs := #[.tmp 39, .tmp 42]) rfl ?_); at_builtin; refine Kd.R_append (Kd.int .u8) (w0 := w4) (W := w4) (g5 + 1) rfl (.tmp 39) (.tmp 42) 36 5 (.int .u8 0) 1 rfl Try.underlying36 info5 rfl (by decide) (by decide) (.slice A bs.length cc) bs c' [.int .u8 c'] (fun _ => True) (fun _ => False) rfl rfl rfl (fun _ h => h.elim) (fun _ _ => trivial) HR4.out (Below.refl _ _) HV4.out.size (by have := HBS.out; have := HQ.out; have := HM.out; omega) ?_)
      intro v9 w9 hr9 hb9 hg9 hat9
      obtain ⟨A9, c9, e9, -, -⟩ := Rb.slice hr9
      rw [List.length_append, List.length_singleton] at e9
      subst e9
      have HV9 := Aside0.mk (HV4.out.grown hg9 (fun k hk => (HR4.out.bas k hk).1))
      have HR9 := Aside0.mk hr9
      have o9 : w9.cell? ⟨g5, 1, none⟩ = some (.slice A bs.length cc) := (blk_cell HV9.out.o 1).trans rfl
      have f9 := blk_frozen HV9.out.o 1
      clear hr9 hb9 hg9 hat9 o1
      go_wp2_with (fail)
      go_roundg n
      case measure => omega
      case rel =>
        exact ⟨q + 1, j', bs ++ [c'], .slice A9 (bs.length + 1) c9, by go_num, ⟨by have := HP.out; omega⟩, ⟨by have := HK.out; omega⟩, ⟨by rw [List.length_append, HBS.out.1]; rfl, fun x hx => by
          rcases List.mem_append.1 hx with h | h
          · exact HBS.out.2 x h
          · rw [List.mem_singleton] at h; subst h; exact ⟨HC2.out.1, HC2.out.2.1⟩⟩, ⟨by have := HC2.out; have := HJ.out; omega, HC2.out.2.2.2⟩, ⟨HV9.out.set 1 (.slice A9 (bs.length + 1) c9)⟩, ⟨Rb.set (p := ⟨g5, 1, none⟩) HR9.out (Nat.lt_succ_self _) _⟩⟩
    · have p1 : decide (q < m) = false := decide_eq_false p
      have p2 : decide ((q : Int) < (m : Int)) = false := decide_eq_false (by omega)
      have o0 : wr.cell? ⟨g5, 0, none⟩ = some (.int .u64 0) := (blk_cell HV.out.o 0).trans rfl
      have o1 : wr.cell? ⟨g5, 1, none⟩ = some (.slice A bs.length cc) := (blk_cell HV.out.o 1).trans rfl
      have o2 : wr.cell? ⟨g5, 2, none⟩ = some (.slice none 0 0) := (blk_cell HV.out.o 2).trans rfl
      have o3 : wr.cell? ⟨g5, 3, none⟩ = some (.bool false) := (blk_cell HV.out.o 3).trans rfl
      have r0 : wr.cell? ⟨g4, 0, none⟩ = some (.int .u64 0) := (blk_cell HV.out.r 0).trans rfl
      have r1 : wr.cell? ⟨g4, 1, none⟩ = some (.slice none 0 0) := (blk_cell HV.out.r 1).trans rfl
      have r2 : wr.cell? ⟨g4, 2, none⟩ = some (.slice none 0 0) := (blk_cell HV.out.r 2).trans rfl
      have r3 : wr.cell? ⟨g4, 3, none⟩ = some (.bool false) := (blk_cell HV.out.r 3).trans rfl
      have y0 := blk_frozen HV.out.r 0
      have y1 := blk_frozen HV.out.r 1
      have y2 := blk_frozen HV.out.r 2
      have y3 := blk_frozen HV.out.r 3
      go_wp2_with (fail)
      clear o0 o1 o2 o3 r0 r1 r2 r3 y0 y1 y2 y3
      obtain ⟨wz, hwz⟩ : ∃ wz, (((wr.setCell ⟨g4, 0, none⟩ (.int .u64 0)).setCell ⟨g4, 1, none⟩ (.slice A bs.length cc)).setCell ⟨g4, 2, none⟩ (.slice none 0 0)).setCell ⟨g4, 3, none⟩ (.bool false) = wz := ⟨_, rfl⟩
      rw [hwz]
      obtain ⟨⟨z0, z1, z2, z3⟩, ⟨hs, hb, hk⟩, hrows⟩ := vs_end HV.out hwz
      refine bodyPost_ret (v := .agg #[.int .u64 0, .slice A bs.length cc, .slice none 0 0, .bool false]) (by simp [results, Try.results23, go_sem, z0, z1, z2, z3]) rfl ⟨⟨0, bs, [], false⟩, jq, _, _, rfl, hrows HR.out, Rb.nil _ _ _ _, hs, hb, hk, ?_⟩
      have h1 := HC.out
      have h2 := HBS.out
      have h3 := HJ.out
      have h4 := HQ.out
      have h5 := HM.out
      refine ⟨?_, fun _ _ h => absurd h (by decide), ?_, by omega, fun h => ?_, fun h => ?_⟩
      · cases left <;> simp [fitsB, leafB, szB]
      · simp only [rng, rngs]; exact ⟨⟨by decide, by decide⟩, h2.2, trivial⟩
      · simp only [wt, wts]; have := h1.2.2.2.2.2.1 h; omega
      · have hc0 := (h1.2.2.2.2.2.2 h).1
        rw [hc0] at hm
        have : (m : Int) = 0 := by rw [← hm]; rfl
        simp only [wt, wts]
        exact ⟨by omega, fun _ => by omega⟩
end Go.Proofs.Ythilhndejhnlnaa.Hand
end

section
/- value: its walk where a number is made. -/
namespace Go.Proofs.Ythilhndejhnlnaa.Hand
open Go.RowKit Go.Proofs.Ythilhndejhnlnaa.QAll Go.Proofs.YthilhndejhnlnaaW.PrintWords Go.Proofs.YthilhndejhnlnaaW.PrintLast Go.Proofs.YthilhndejhnlnaaW.PrintMore Go.Proofs.Ythilhndejhnlnaa.Mk
set_option linter.unusedVariables false
set_option linter.unusedSimpArgs false
theorem heap28 : Kd.Heap k28 := Kd.heap_iso _ (Kd.heap_pair Kd.heap_string (Kd.heap_pair (Kd.heap_iso _ (Kd.heap_pair (Kd.heap_int _) (Kd.heap_pair (Kd.heap_int _) (Kd.heap_int _)))) (Kd.heap_int _)))
theorem heap31 : Kd.Heap k31 := Kd.heap_iso _ (Kd.heap_pair Kd.heap_string (Kd.heap_slice 28 heap28))
theorem heap61 : Kd.Heap k61 := Kd.heap_iso _ (Kd.heap_pair Kd.heap_string (Kd.heap_slice 9 Kd.heap_string))
/-- A schema of an elder world, at all worlds of the call. -/
theorem isS_all {st : List S31} {en : List S61} {root : Int} {us : Value} {w0 w : World} {g : Nat} (hS : IsS w0 st en root us) (hb : Below w0.heap.size w0 w) (hg : w0.heap.size ≤ g) :
    ∃ A0 c0 A1 c1, us = .agg #[.slice A0 st.length c0, .slice A1 en.length c1, .int .i64 root] ∧ st.length ≤ c0 ∧ en.length ≤ c1 ∧ Kd.C k31 w0 A0 st.length st ∧ Kd.C k61 w0 A1 en.length en ∧ ∀ W, KeepBut w W g none → Kd.C k31 W A0 st.length st ∧ Kd.C k61 W A1 en.length en := by
  obtain ⟨A0, c0, A1, c1, e, h1, h2, h3, h4⟩ := hS
  exact ⟨A0, c0, A1, c1, e, h2, h4, h1, h3, fun W hW => ⟨Kd.C_foot_came heap31 h1 hb hg W hW, Kd.C_foot_came heap61 h3 hb hg W hW⟩⟩
theorem szB_le {kd : Int} (h : 0 < szB kd) : kd ≤ 10 := by
  unfold szB at h
  split at h
  · omega
  split at h
  · omega
  split at h
  · omega
  split at h <;> omega
set_option maxHeartbeats 6400000 in
set_option maxRecDepth 100000 in
theorem value_num {st : List S31} {en : List S61} {root : Int} {B : List Int} (hE : EnOk en) (hB : BytesOk B) (left : Nat) (kd rf : Int) (hty : TyG en st.length kd rf 0) (hsz : 0 < szB kd) (f : S28) (hd : numB st en root kd rf 0 f.f2 = true) (hd0 : 0 ≤ f.f2 ∧ f.f2 < 18446744073709551616) (sure : Bool) (i : Int) (us : Value) (w0 w : World) (g : Nat) (i0 : 0 ≤ i) (i1 : i ≤ B.length)
    (hs : IsS84 w0 w g B i) (hb : Below w0.heap.size w0 w) (hS : IsS w0 st en root us) :
    Calls Try.prog 23 #[us, tyV kd rf 0, .pointer (some ⟨g, 0, none⟩), .int .i64 left, fV f, .bool sure] w (VPost st en root B left kd rf 0 sure i w0 w g) := by
  obtain ⟨A0, z0, A1, z1, rfl, hz0, hz1, -, -, hSC⟩ := isS_all hS hb hs.ge
  have HSC := Aside0.mk hSC
  have HZ : Aside0 (st.length ≤ z0 ∧ en.length ≤ z1) := ⟨hz0, hz1⟩
  have hk10 := szB_le hsz
  obtain ⟨c, j, hc, c0, c1, j0, j1, hrun, hfin⟩ := next_f hB i i0 i1
  obtain ⟨g1, e1⟩ : ∃ g1, w.heap.size = g1 := ⟨_, rfl⟩
  obtain ⟨g2, e2⟩ : ∃ g2, g1 + 1 = g2 := ⟨_, rfl⟩
  obtain ⟨g3, e3⟩ : ∃ g3, g2 + 1 = g3 := ⟨_, rfl⟩
  obtain ⟨g4, e4⟩ : ∃ g4, g3 + 1 = g4 := ⟨_, rfl⟩
  obtain ⟨g5, e5⟩ : ∃ g5, g4 + 1 = g5 := ⟨_, rfl⟩
  obtain ⟨w1, hw1⟩ : ∃ w1, (((((w.alloc (.cells #[.slice A0 st.length z0, .slice A1 en.length z1, .int .i64 root] 35)).alloc (.cells #[.int .u8 kd, .int .i64 rf, .int .i64 0] 25)).alloc (.cells #[.string f.f0, .int .u8 f.f1.f0, .int .i64 f.f1.f1, .int .i64 f.f1.f2, .int .u64 f.f2] 28)).alloc (.cells #[.int .u64 0, .slice none 0 0, .slice none 0 0, .bool false] 39)).alloc (.cells #[.int .u64 0, .slice none 0 0, .slice none 0 0, .bool false] 39)) = w1 := ⟨_, rfl⟩
  have HV1 := Aside0.mk (vs_new w0 w g B i _ _ _ hs hb e1 e2 e3 e4 e5 hw1)
  have HEQ := Aside0.mk (And.intro e1 (And.intro e2 (And.intro e3 (And.intro e4 (And.intro e5 hw1)))))
  have HN := Aside0.mk (transomhand05_Source_next.calls g B i c j w0 w1 HV1.out.src HV1.out.bel hc)
  have HC : Aside0 (0 ≤ c ∧ c < 256 ∧ i ≤ j ∧ j ≤ B.length ∧ 0 ≤ i ∧ (i < B.length → j = i + 1) ∧ (i = B.length → c = 0 ∧ j = i)) := ⟨c0, c1, j0, j1, i0, hrun, hfin⟩
  obtain ⟨k, m, j', hm, hmn, hm0, hm1, hj0, hj1⟩ := number_src (st := st) (root := root) hE hB kd rf 0 hty.kr.1 hk10 hty.enm j c f.f2 (by omega) j1 c0 c1 hd0.1 hd0.2 hd f.f0 f.f1.f0 f.f1.f1 f.f1.f2
  have HM := Aside0.mk hm
  have HM2 : Aside0 (numB st en root kd rf 0 m = true ∧ 0 ≤ m ∧ m < 18446744073709551616 ∧ j ≤ j' ∧ j' ≤ B.length) := ⟨hmn, hm0, hm1, hj0, hj1⟩
  have HNUM : Aside0 (transomref05_IsNum.f 6 kd rf 0 = some true) := ⟨by rw [isnum_f kd rf 0 (by have := hty.kr; omega) (by omega)]; simp [hsz]⟩
  have HTY : Aside0 (TyG en st.length kd rf 0 ∧ 0 < szB kd ∧ kd ≤ 10) := ⟨hty, hsz, hk10⟩
  have k13 : (kd == 13) = false := by simp only [beq_eq_false_iff_ne]; omega
  clear hc j0 j1 hrun hfin e1 e2 e3 e4 e5 hw1 hs hb i0 i1 hSC hS hz0 hz1 hm hmn hm0 hm1 hj0 hj1 hty hsz hk10 hd hd0
  go_enter Try.func23, Try.ntmps23
  go_upto_region 2 with (fail)
  rw [HEQ.out.1, HEQ.out.2.1, HEQ.out.2.2.1, HEQ.out.2.2.2.1, HEQ.out.2.2.2.2.1, HEQ.out.2.2.2.2.2]
  go_upto_region 8 with (go_at_call 32; (with_reducible refine HN.out.mono ?_); rintro e w2 ⟨rfl, hs2, hb2, hk2⟩; have HV2 := Aside0.mk (HV1.out.call hs2 hb2 hk2); clear hs2 hb2 hk2)
  have t0 : w2.cell? ⟨g2, 0, none⟩ = some (.int .u8 kd) := (blk_cell HV2.out.t 0).trans rfl
  have t1 : w2.cell? ⟨g2, 1, none⟩ = some (.int .i64 rf) := (blk_cell HV2.out.t 1).trans rfl
  have t2 : w2.cell? ⟨g2, 2, none⟩ = some (.int .i64 0) := (blk_cell HV2.out.t 2).trans rfl
  go_upto_region 30 with (go_at_call 19; (with_reducible refine (transomref05_IsNum.calls 6 kd rf 0 true _ HNUM.out).mono ?_); rintro e w3 ⟨rfl, hb3⟩; have HV3 := Aside0.mk (HV2.out.below hb3); clear hb3 t0 t1 t2)
  have t0 : w3.cell? ⟨g2, 0, none⟩ = some (.int .u8 kd) := (blk_cell HV3.out.t 0).trans rfl
  have t1 : w3.cell? ⟨g2, 1, none⟩ = some (.int .i64 rf) := (blk_cell HV3.out.t 1).trans rfl
  have t2 : w3.cell? ⟨g2, 2, none⟩ = some (.int .i64 0) := (blk_cell HV3.out.t 2).trans rfl
  have s0 : w3.cell? ⟨g1, 0, none⟩ = some (.slice A0 st.length z0) := (blk_cell HV3.out.s 0).trans rfl
  have s1 : w3.cell? ⟨g1, 1, none⟩ = some (.slice A1 en.length z1) := (blk_cell HV3.out.s 1).trans rfl
  have s2 : w3.cell? ⟨g1, 2, none⟩ = some (.int .i64 root) := (blk_cell HV3.out.s 2).trans rfl
  have f0 : w3.cell? ⟨g3, 0, none⟩ = some (.string f.f0) := (blk_cell HV3.out.f 0).trans rfl
  have f1 : w3.cell? ⟨g3, 1, none⟩ = some (.int .u8 f.f1.f0) := (blk_cell HV3.out.f 1).trans rfl
  have f2 : w3.cell? ⟨g3, 2, none⟩ = some (.int .i64 f.f1.f1) := (blk_cell HV3.out.f 2).trans rfl
  have f3 : w3.cell? ⟨g3, 3, none⟩ = some (.int .i64 f.f1.f2) := (blk_cell HV3.out.f 3).trans rfl
  have f4 : w3.cell? ⟨g3, 4, none⟩ = some (.int .u64 f.f2) := (blk_cell HV3.out.f 4).trans rfl
  have HCALL := Aside0.mk (transomhand05_number.calls k A0 z0 st A1 z1 en root kd rf 0 g B j c f.f0 f.f1.f0 f.f1.f1 f.f1.f2 f.f2 m j' w0 w3 HV3.out.src HV3.out.bel (fun W hW => (HSC.out W (keep_trans HV3.out.kp hW)).1) HZ.out.1 (fun W hW => (HSC.out W (keep_trans HV3.out.kp hW)).2) HZ.out.2 HM.out)
  go_upto_region 38 with (go_at_call 33; (with_reducible refine HCALL.out.mono ?_); rintro e w4 ⟨rfl, hs4, hb4, hk4⟩; have HV4 := Aside0.mk (HV3.out.call hs4 hb4 hk4); have o9 : w4.cell? ⟨g5, 0, none⟩ = some (.int .u64 0) := (blk_cell HV4.out.o 0).trans rfl; have y9 := blk_frozen HV4.out.o 0; clear hs4 hb4 hk4 t0 t1 t2 s0 s1 s2 f0 f1 f2 f3 f4)
  have HV5 : Aside0 (VS w0 w (w4.setCell ⟨g5, 0, none⟩ (.int .u64 m)) g B j' g1 g2 g3 g4 g5 #[.slice A0 st.length z0, .slice A1 en.length z1, .int .i64 root] #[.int .u8 kd, .int .i64 rf, .int .i64 0] #[.string f.f0, .int .u8 f.f1.f0, .int .i64 f.f1.f1, .int .i64 f.f1.f2, .int .u64 f.f2] #[.int .u64 m, .slice none 0 0, .slice none 0 0, .bool false]) := ⟨HV4.out.set 0 _⟩
  obtain ⟨w5, hw5⟩ : ∃ w5, w4.setCell ⟨g5, 0, none⟩ (.int .u64 m) = w5 := ⟨_, rfl⟩
  rw [hw5] at HV5 ⊢
  clear hw5 o9 y9
  have o0 : w5.cell? ⟨g5, 0, none⟩ = some (.int .u64 m) := (blk_cell HV5.out.o 0).trans rfl
  have o1 : w5.cell? ⟨g5, 1, none⟩ = some (.slice none 0 0) := (blk_cell HV5.out.o 1).trans rfl
  have o2 : w5.cell? ⟨g5, 2, none⟩ = some (.slice none 0 0) := (blk_cell HV5.out.o 2).trans rfl
  have o3 : w5.cell? ⟨g5, 3, none⟩ = some (.bool false) := (blk_cell HV5.out.o 3).trans rfl
  have r0 : w5.cell? ⟨g4, 0, none⟩ = some (.int .u64 0) := (blk_cell HV5.out.r 0).trans rfl
  have r1 : w5.cell? ⟨g4, 1, none⟩ = some (.slice none 0 0) := (blk_cell HV5.out.r 1).trans rfl
  have r2 : w5.cell? ⟨g4, 2, none⟩ = some (.slice none 0 0) := (blk_cell HV5.out.r 2).trans rfl
  have r3 : w5.cell? ⟨g4, 3, none⟩ = some (.bool false) := (blk_cell HV5.out.r 3).trans rfl
  have y0 := blk_frozen HV5.out.r 0
  have y1 := blk_frozen HV5.out.r 1
  have y2 := blk_frozen HV5.out.r 2
  have y3 := blk_frozen HV5.out.r 3
  go_wp2_with (fail)
  clear o0 o1 o2 o3 r0 r1 r2 r3 y0 y1 y2 y3
  obtain ⟨wz, hwz⟩ : ∃ wz, (((w5.setCell ⟨g4, 0, none⟩ (.int .u64 m)).setCell ⟨g4, 1, none⟩ (.slice none 0 0)).setCell ⟨g4, 2, none⟩ (.slice none 0 0)).setCell ⟨g4, 3, none⟩ (.bool false) = wz := ⟨_, rfl⟩
  rw [hwz]
  obtain ⟨⟨z0', z1', z2', z3'⟩, ⟨hs, hb, hk⟩, hrows⟩ := vs_end HV5.out hwz
  refine bodyPost_ret (v := .agg #[.int .u64 m, .slice none 0 0, .slice none 0 0, .bool false]) (by simp [results, Try.results23, go_sem, z0', z1', z2', z3']) rfl ⟨⟨m, [], [], false⟩, j', _, _, rfl, Rb.nil _ _ _ _, Rb.nil _ _ _ _, hs, hb, hk, ?_⟩
  have h1 := HC.out
  have h2 := HM2.out
  obtain ⟨hty, hsz, hk10⟩ := HTY.out
  refine ⟨?_, fun _ _ h => by omega, ?_, by omega, fun h => ?_, fun h => ?_⟩
  · have e13 : kd ≠ 13 := by omega
    cases left <;> simp [fitsB, leafB, hsz, h2.1, e13]
  · simp only [rng, rngs]; exact ⟨h2.2.1 |> fun x => ⟨x, h2.2.2.1⟩, (fun _ h => by cases h), trivial⟩
  · simp only [wt, wts]; have := h1.2.2.2.2.2.1 h; simp only [List.length_nil]; omega
  · simp only [wt, wts]; exact ⟨by simp only [List.length_nil]; omega, fun _ => by simp only [List.length_nil]⟩
end Go.Proofs.Ythilhndejhnlnaa.Hand
end

section
/- value: its walk where a struct is not there. -/
namespace Go.Proofs.Ythilhndejhnlnaa.Hand
open Go.RowKit Go.Proofs.Ythilhndejhnlnaa.QAll Go.Proofs.YthilhndejhnlnaaW.PrintWords Go.Proofs.YthilhndejhnlnaaW.PrintLast Go.Proofs.YthilhndejhnlnaaW.PrintMore Go.Proofs.Ythilhndejhnlnaa.Mk
set_option linter.unusedVariables false
set_option linter.unusedSimpArgs false
set_option maxHeartbeats 6400000 in
set_option maxRecDepth 100000 in
theorem value_gone {st : List S31} {en : List S61} {root : Int} {B : List Int} (left : Nat) (rf : Int) (f : S28) (sure : Bool) (i c j : Int) (us : Value) (w0 w : World) (g : Nat) (i1 : i ≤ B.length)
    (hc : transomhand05_Source_next.f B i = some (c, j)) (c0 : 0 ≤ c) (hj : i ≤ j ∧ j ≤ B.length) (hrun : i < B.length → j = i + 1)
    (hgo : left = 0 ∨ (0 < left ∧ sure = false ∧ Int.tmod c 3 = 0) ∨ (0 < left ∧ sure = false ∧ Int.tmod c 3 ≠ 0 ∧ (B.length : Int) ≤ j))
    (hs : IsS84 w0 w g B i) (hb : Below w0.heap.size w0 w) (hS : IsS w0 st en root us) :
    Calls Try.prog 23 #[us, tyV 13 rf 0, .pointer (some ⟨g, 0, none⟩), .int .i64 left, fV f, .bool sure] w (VPost st en root B left 13 rf 0 sure i w0 w g) := by
  obtain ⟨A0, z0, A1, z1, rfl, hz0, hz1, -, -, hSC⟩ := isS_all hS hb hs.ge
  obtain ⟨g1, e1⟩ : ∃ g1, w.heap.size = g1 := ⟨_, rfl⟩
  obtain ⟨g2, e2⟩ : ∃ g2, g1 + 1 = g2 := ⟨_, rfl⟩
  obtain ⟨g3, e3⟩ : ∃ g3, g2 + 1 = g3 := ⟨_, rfl⟩
  obtain ⟨g4, e4⟩ : ∃ g4, g3 + 1 = g4 := ⟨_, rfl⟩
  obtain ⟨g5, e5⟩ : ∃ g5, g4 + 1 = g5 := ⟨_, rfl⟩
  obtain ⟨w1, hw1⟩ : ∃ w1, (((((w.alloc (.cells #[.slice A0 st.length z0, .slice A1 en.length z1, .int .i64 root] 35)).alloc (.cells #[.int .u8 13, .int .i64 rf, .int .i64 0] 25)).alloc (.cells #[.string f.f0, .int .u8 f.f1.f0, .int .i64 f.f1.f1, .int .i64 f.f1.f2, .int .u64 f.f2] 28)).alloc (.cells #[.int .u64 0, .slice none 0 0, .slice none 0 0, .bool false] 39)).alloc (.cells #[.int .u64 0, .slice none 0 0, .slice none 0 0, .bool false] 39)) = w1 := ⟨_, rfl⟩
  have HV1 := Aside0.mk (vs_new w0 w g B i _ _ _ hs hb e1 e2 e3 e4 e5 hw1)
  have HEQ := Aside0.mk (And.intro e1 (And.intro e2 (And.intro e3 (And.intro e4 (And.intro e5 hw1)))))
  have HN := Aside0.mk (transomhand05_Source_next.calls g B i c j w0 w1 HV1.out.src HV1.out.bel hc)
  have HOUT : Aside0 (VOk st en root B.length left 13 rf 0 sure i j ⟨0, [], [], false⟩) := ⟨by
    refine ⟨?_, fun h1 _ _ h4 => ?_, ?_, hj, fun h => ?_, fun h => ?_⟩
    · cases left <;> simp [fitsB, goneB]
    · rcases hgo with h | ⟨_, h, _⟩ | ⟨_, h, _⟩
      · omega
      · rw [h1] at h; cases h
      · rw [h1] at h; cases h
    · simp only [rng, rngs]; exact ⟨⟨by decide, by decide⟩, (fun _ h => by cases h), trivial⟩
    · simp only [wt, wts]; have := hrun h; simp only [List.length_nil]; omega
    · simp only [wt, wts]; exact ⟨by simp only [List.length_nil]; omega, fun _ => by simp only [List.length_nil]⟩⟩
  obtain ⟨r, hr⟩ : ∃ r, Int.tmod c 3 = r := ⟨_, rfl⟩
  rw [hr] at hgo
  have ways : (decide ((left : Int) < 1) = true ∧ decide (left < 1) = true) ∨ ((decide ((left : Int) < 1) = false ∧ decide (left < 1) = false) ∧ sure = false ∧ (r == 0) = true) ∨
      ((decide ((left : Int) < 1) = false ∧ decide (left < 1) = false) ∧ sure = false ∧ (r == 0) = false ∧ decide ((B.length : Int) ≤ j) = true) := by
    rcases hgo with h | ⟨h, h2, h3⟩ | ⟨h, h2, h3, h4⟩
    · exact .inl ⟨decide_eq_true (by omega), decide_eq_true (by omega)⟩
    · exact .inr (.inl ⟨⟨decide_eq_false (by omega), decide_eq_false (by omega)⟩, h2, by simp [h3]⟩)
    · exact .inr (.inr ⟨⟨decide_eq_false (by omega), decide_eq_false (by omega)⟩, h2, by simp [h3], decide_eq_true h4⟩)
  clear hc hj hrun e1 e2 e3 e4 e5 hw1 hs hb i1 hSC hS hz0 hz1 hgo c0
  rcases ways with ⟨p1, p2⟩ | ⟨⟨p1, p2⟩, rfl, p3⟩ | ⟨⟨p1, p2⟩, rfl, p3, p4⟩
  all_goals
    go_enter Try.func23, Try.ntmps23
    go_upto_region 2 with (fail)
    rw [HEQ.out.1, HEQ.out.2.1, HEQ.out.2.2.1, HEQ.out.2.2.2.1, HEQ.out.2.2.2.2.1, HEQ.out.2.2.2.2.2]
    go_upto_region 8 with (go_at_call 32; (with_reducible refine HN.out.mono ?_); rintro e w2 ⟨rfl, hs2, hb2, hk2⟩; have HV2 := Aside0.mk (HV1.out.call hs2 hb2 hk2); clear hs2 hb2 hk2)
    have t0 : w2.cell? ⟨g2, 0, none⟩ = some (.int .u8 13) := (blk_cell HV2.out.t 0).trans rfl
    have t2 : w2.cell? ⟨g2, 2, none⟩ = some (.int .i64 0) := (blk_cell HV2.out.t 2).trans rfl
    obtain ⟨As, cs, hsb, -, -⟩ := HV2.out.src
    have b0 := cellS84_0 hsb
    have b1 := cellS84_1 hsb
    clear hsb
    go_upto_region 20 with (fail)
    go_quiet (fail)
    clear t0 t2 b0 b1
    have o0 : w2.cell? ⟨g5, 0, none⟩ = some (.int .u64 0) := (blk_cell HV2.out.o 0).trans rfl
    have o1 : w2.cell? ⟨g5, 1, none⟩ = some (.slice none 0 0) := (blk_cell HV2.out.o 1).trans rfl
    have o2 : w2.cell? ⟨g5, 2, none⟩ = some (.slice none 0 0) := (blk_cell HV2.out.o 2).trans rfl
    have o3 : w2.cell? ⟨g5, 3, none⟩ = some (.bool false) := (blk_cell HV2.out.o 3).trans rfl
    have r0 : w2.cell? ⟨g4, 0, none⟩ = some (.int .u64 0) := (blk_cell HV2.out.r 0).trans rfl
    have r1 : w2.cell? ⟨g4, 1, none⟩ = some (.slice none 0 0) := (blk_cell HV2.out.r 1).trans rfl
    have r2 : w2.cell? ⟨g4, 2, none⟩ = some (.slice none 0 0) := (blk_cell HV2.out.r 2).trans rfl
    have r3 : w2.cell? ⟨g4, 3, none⟩ = some (.bool false) := (blk_cell HV2.out.r 3).trans rfl
    have y0 := blk_frozen HV2.out.r 0
    have y1 := blk_frozen HV2.out.r 1
    have y2 := blk_frozen HV2.out.r 2
    have y3 := blk_frozen HV2.out.r 3
    go_wp2_with (fail)
    clear o0 o1 o2 o3 r0 r1 r2 r3 y0 y1 y2 y3
    have hz := fun n => vs_end (HV2.out.below (Drawn0.below (⟨⟨n, rfl⟩⟩ : Drawn0 w2 (w2.drewN n)))) rfl
    refine bodyPost_ret (v := .agg #[.int .u64 0, .slice none 0 0, .slice none 0 0, .bool false]) (by simp [results, Try.results23, go_sem, (hz _).1.1, (hz _).1.2.1, (hz _).1.2.2.1, (hz _).1.2.2.2]) rfl ⟨⟨0, [], [], false⟩, j, _, _, rfl, Rb.nil _ _ _ _, Rb.nil _ _ _ _, (hz _).2.1.1, (hz _).2.1.2.1, (hz _).2.1.2.2, HOUT.out⟩
end Go.Proofs.Ythilhndejhnlnaa.Hand
end

section
/- value: its walk where a struct is there. -/
namespace Go.Proofs.Ythilhndejhnlnaa.Hand
open Go.RowKit Go.Proofs.Ythilhndejhnlnaa.QAll Go.Proofs.YthilhndejhnlnaaW.PrintWords Go.Proofs.YthilhndejhnlnaaW.PrintLast Go.Proofs.YthilhndejhnlnaaW.PrintMore Go.Proofs.Ythilhndejhnlnaa.Mk
set_option linter.unusedVariables false
set_option linter.unusedSimpArgs false
theorem set4_cell {W : World} {n : Nat} {a : Addr} {v x0 x1 x2 x3 : Value} (hc : W.cell? a = some v) (hne : a.block ≠ n) :
    ((((W.setCell ⟨n, 0, none⟩ x0).setCell ⟨n, 1, none⟩ x1).setCell ⟨n, 2, none⟩ x2).setCell ⟨n, 3, none⟩ x3).cell? a = some v := by
  rw [cell_far (p := ⟨n, 3, none⟩) hne, cell_far (p := ⟨n, 2, none⟩) hne, cell_far (p := ⟨n, 1, none⟩) hne, cell_far (p := ⟨n, 0, none⟩) hne, hc]
theorem VS.far {w0 w W : World} {g : Nat} {B : List Int} {i : Int} {g1 g2 g3 g4 g5 n : Nat} {us ts fs os : Array Value} (h : VS w0 w W g B i g1 g2 g3 g4 g5 us ts fs os) (hn : g5 < n) (q : Nat) (u : Value) : VS w0 w (W.setCell ⟨n, q, none⟩ u) g B i g1 g2 g3 g4 g5 us ts fs os :=
  have e := h.ne
  ⟨h.src.far (p := ⟨n, q, none⟩) (by show g ≠ n; omega) u, Below.setCell h.bel (p := ⟨n, q, none⟩) (by show w0.heap.size ≤ n; omega) u, keep_set h.kp (p := ⟨n, q, none⟩) (by show w.heap.size ≤ n; omega) u, e,
   blk_far h.s (p := ⟨n, q, none⟩) (by show g1 ≠ n; omega) u, blk_far h.t (p := ⟨n, q, none⟩) (by show g2 ≠ n; omega) u, blk_far h.f (p := ⟨n, q, none⟩) (by show g3 ≠ n; omega) u, blk_far h.r (p := ⟨n, q, none⟩) (by show g4 ≠ n; omega) u, blk_far h.o (p := ⟨n, q, none⟩) (by show g5 ≠ n; omega) u⟩
/-- Four cells of a block were written. -/
theorem set4_all {W W' : World} {n : Nat} {x0 x1 x2 x3 : Value} (hW : (((W.setCell ⟨n, 0, none⟩ x0).setCell ⟨n, 1, none⟩ x1).setCell ⟨n, 2, none⟩ x2).setCell ⟨n, 3, none⟩ x3 = W') :
    (∀ {α : Type} {d : Kd α} {e base : Nat} {v : Value} {xs : List α}, Rb d e W base v xs → n < base → Rb d e W' base v xs) ∧
    (∀ {w0 w : World} {g : Nat} {B : List Int} {i : Int} {g1 g2 g3 g4 g5 : Nat} {us ts fs os : Array Value}, VS w0 w W g B i g1 g2 g3 g4 g5 us ts fs os → g5 < n → VS w0 w W' g B i g1 g2 g3 g4 g5 us ts fs os) ∧
    (∀ {w : World} {g : Nat}, KeepBut w W g none → w.heap.size ≤ n → KeepBut w W' g none) ∧
    (∀ {a b c d : Value} {t : TypeId}, W.heap[n]? = some (.cells #[a, b, c, d] t (0, 0)) → W'.heap[n]? = some (.cells #[x0, x1, x2, x3] t (0, 0))) := by
  subst hW
  refine ⟨fun h hn => ?_, fun h hn => ?_, fun h hn => ?_, fun h => ?_⟩
  · exact Rb.set (p := ⟨n, 3, none⟩) (Rb.set (p := ⟨n, 2, none⟩) (Rb.set (p := ⟨n, 1, none⟩) (Rb.set (p := ⟨n, 0, none⟩) h hn x0) hn x1) hn x2) hn x3
  · exact (((h.far hn 0 x0).far hn 1 x1).far hn 2 x2).far hn 3 x3
  · exact keep_set (keep_set (keep_set (keep_set h (p := ⟨n, 0, none⟩) hn x0) (p := ⟨n, 1, none⟩) hn x1) (p := ⟨n, 2, none⟩) hn x2) (p := ⟨n, 3, none⟩) hn x3
  · exact blk_set (blk_set (blk_set (blk_set h 0 x0) 1 x1) 2 x2) 3 x3
theorem VS.drawn {w0 w W W' : World} {g : Nat} {B : List Int} {i : Int} {g1 g2 g3 g4 g5 n : Nat} {us ts fs os : Array Value} (h : VS w0 w W g B i g1 g2 g3 g4 g5 us ts fs os) (e : W.drewN n = W') : VS w0 w W' g B i g1 g2 g3 g4 g5 us ts fs os := by
  subst e; exact h.below (Drawn0.below ⟨⟨_, rfl⟩⟩)
/-- What the fields that were made so far are like. -/
structure KOk (st : List S31) (en : List S61) (root : Int) (left n : Nat) (fs : List S28) (j jk : Int) (k : Nat) (kids : List S39) : Prop where
  len : kids.length = k
  fit : ((fs.take k).zip kids).all (fun p => fitsB st en root left p.1.f1.f0 p.1.f1.f1 p.1.f1.f2 p.2) = true
  rg : rngs kids
  adv : j ≤ jk ∧ jk ≤ n
  wts : (Mk.wts kids : Int) ≤ k + 21 * (jk - j)
theorem KOk.snoc {st : List S31} {en : List S61} {root : Int} {left n : Nat} {fs : List S28} {j jk jl : Int} {k : Nat} {kids : List S39} {v : S39} (h : KOk st en root left n fs j jk k kids) (hk : k < fs.length)
    (hv : VOk st en root n left fs[k].f1.f0 fs[k].f1.f1 fs[k].f1.f2 false jk jl v) : KOk st en root left n fs j jl (k + 1) (kids ++ [v]) where
  len := by rw [List.length_append, h.len]; rfl
  fit := by
    rw [List.take_succ_eq_append_getElem hk, List.zip_append (by rw [List.length_take, h.len]; omega), List.all_append, h.fit]
    simp [hv.fit]
  rg := by rw [rngs_append]; exact ⟨h.rg, hv.rg, trivial⟩
  adv := ⟨by have := h.adv; have := hv.adv; omega, hv.adv.2⟩
  wts := by
    have h1 := h.wts
    have h2 := h.adv
    have h3 := hv.adv
    rw [wts_append]; simp only [Mk.wts]
    rcases Int.lt_or_le jk n with e | e
    · have := (hv.run e).2; omega
    · have := (hv.fin (by omega)).2 rfl; omega
set_option maxHeartbeats 12800000 in
set_option maxRecDepth 100000 in
theorem value_there {st : List S31} {en : List S61} {root : Int} {B : List Int} {tr : Bool} (hSch : SchOk en st.length tr st) (l : Nat) (hl12 : l ≤ 1000) (q : Nat) (hq : q < st.length) (f : S28) (sure : Bool) (i c j : Int) (us : Value) (w0 w : World) (g : Nat) (i0 : 0 ≤ i) (i1 : i ≤ B.length)
    (hc : transomhand05_Source_next.f B i = some (c, j)) (c0 : 0 ≤ c) (hj : i ≤ j ∧ j ≤ B.length) (hrun : i < B.length → j = i + 1)
    (hgo : sure = true ∨ (sure = false ∧ Int.tmod c 3 ≠ 0 ∧ j < (B.length : Int)))
    (hs : IsS84 w0 w g B i) (hb : Below w0.heap.size w0 w) (hS : IsS w0 st en root us)
    (hIH : ∀ (W : World) (jk : Int) (fd : S28), FOk en st.length tr q fd → 0 ≤ jk → jk ≤ B.length → IsS84 w0 W g B jk → Below w0.heap.size w0 W → KeepBut w W g none →
      Calls Try.prog 23 #[us, tyV fd.f1.f0 fd.f1.f1 fd.f1.f2, .pointer (some ⟨g, 0, none⟩), .int .i64 l, fV fd, .bool false] W (VPost st en root B l fd.f1.f0 fd.f1.f1 fd.f1.f2 false jk w0 W g)) :
    Calls Try.prog 23 #[us, tyV 13 q 0, .pointer (some ⟨g, 0, none⟩), .int .i64 ((l : Int) + 1), fV f, .bool sure] w (VPost st en root B (l + 1) 13 q 0 sure i w0 w g) := by
  obtain ⟨A0, z0, A1, z1, rfl, hz0, hz1, hC0, -, -⟩ := isS_all hS hb hs.ge
  obtain ⟨ad, A4, c4, rfl, x0', x1', hF1, hF2⟩ := at_T31 hC0 (q : Int) (Int.natCast_nonneg _) (by omega)
  rw [show ((q : Int)).toNat = q from rfl] at x0' x1'
  have HIH := Aside0.mk hIH
  obtain ⟨g1, e1⟩ : ∃ g1, w.heap.size = g1 := ⟨_, rfl⟩
  obtain ⟨g2, e2⟩ : ∃ g2, g1 + 1 = g2 := ⟨_, rfl⟩
  obtain ⟨g3, e3⟩ : ∃ g3, g2 + 1 = g3 := ⟨_, rfl⟩
  obtain ⟨g4, e4⟩ : ∃ g4, g3 + 1 = g4 := ⟨_, rfl⟩
  obtain ⟨g5, e5⟩ : ∃ g5, g4 + 1 = g5 := ⟨_, rfl⟩
  obtain ⟨w1, hw1⟩ : ∃ w1, (((((w.alloc (.cells #[.slice (some ad) st.length z0, .slice A1 en.length z1, .int .i64 root] 35)).alloc (.cells #[.int .u8 13, .int .i64 (q : Int), .int .i64 0] 25)).alloc (.cells #[.string f.f0, .int .u8 f.f1.f0, .int .i64 f.f1.f1, .int .i64 f.f1.f2, .int .u64 f.f2] 28)).alloc (.cells #[.int .u64 0, .slice none 0 0, .slice none 0 0, .bool false] 39)).alloc (.cells #[.int .u64 0, .slice none 0 0, .slice none 0 0, .bool false] 39)) = w1 := ⟨_, rfl⟩
  have HV1 := Aside0.mk (vs_new w0 w g B i _ _ _ hs hb e1 e2 e3 e4 e5 hw1)
  have HEQ := Aside0.mk (And.intro e1 (And.intro e2 (And.intro e3 (And.intro e4 (And.intro e5 hw1)))))
  have HN := Aside0.mk (transomhand05_Source_next.calls g B i c j w0 w1 HV1.out.src HV1.out.bel hc)
  have hR := hSch.fs q (rd_T31 st (q : Int)) (by unfold rd_T31; rw [show ((q : Int)).toNat = q from rfl, List.getD_eq_getElem?_getD, List.getElem?_eq_getElem hq]; rfl)
  obtain ⟨R, hRR⟩ : ∃ R, rd_T31 st (q : Int) = R := ⟨_, rfl⟩
  rw [hRR] at hR x0' x1' hF1 hF2
  have HR := Aside0.mk hR
  have HX : Aside0 (w0.cell? (ad.add (q * 2)) = some (.string R.f0) ∧ w0.cell? ⟨(ad.add (q * 2)).block, (ad.add (q * 2)).off + 1, none⟩ = some (.slice A4 R.f1.length c4)) := ⟨x0', x1'⟩
  have HRR := Aside0.mk hRR
  have HF1 := Aside0.mk hF1
  have HF2 := Aside0.mk hF2
  have HJ : Aside0 (0 ≤ i ∧ i ≤ j ∧ j ≤ B.length ∧ (i < B.length → j = i + 1) ∧ (sure = false → j < B.length)) := ⟨i0, hj.1, hj.2, hrun, fun h => by rcases hgo with h' | ⟨_, _, h'⟩; rw [h] at h'; cases h'; exact h'⟩
  have l1 : decide ((l : Int) + 1 < 1) = false := decide_eq_false (by omega)
  have hl0 : (l : Int) ≤ 1000 := by omega
  have q0 : (0 : Int) ≤ (q : Int) := Int.natCast_nonneg _
  have q1 : (q : Int) < (st.length : Int) := by omega
  obtain ⟨r, hr⟩ : ∃ r, Int.tmod c 3 = r := ⟨_, rfl⟩
  rw [hr] at hgo
  have ways : sure = true ∨ (sure = false ∧ (r == 0) = false ∧ decide ((B.length : Int) ≤ j) = false) := by
    rcases hgo with h | ⟨h, h2, h3⟩
    · exact .inl h
    · exact .inr ⟨h, by simp [h2], decide_eq_false (by omega)⟩
  clear hc hj hrun e1 e2 e3 e4 e5 hw1 hs hb i0 i1 hS hz0 hz1 hgo c0 hR hRR hIH hSch hl12 hC0 x0' x1' hF1 hF2
  have WAYS := Aside0.mk ways
  clear ways
  go_enter Try.func23, Try.ntmps23
  go_upto_region 2 with (fail)
  rw [HEQ.out.1, HEQ.out.2.1, HEQ.out.2.2.1, HEQ.out.2.2.2.1, HEQ.out.2.2.2.2.1, HEQ.out.2.2.2.2.2]
  go_upto_region 8 with (go_at_call 32; (with_reducible refine HN.out.mono ?_); rintro e w2 ⟨rfl, hs2, hb2, hk2⟩; have HV2 := Aside0.mk (HV1.out.call hs2 hb2 hk2); clear hs2 hb2 hk2)
  have t0 : w2.cell? ⟨g2, 0, none⟩ = some (.int .u8 13) := (blk_cell HV2.out.t 0).trans rfl
  have t2 : w2.cell? ⟨g2, 2, none⟩ = some (.int .i64 0) := (blk_cell HV2.out.t 2).trans rfl
  go_upto_region 20 with (fail)
  go_cut [124] from 102 to 124 (fun v124 wc => v124 = .bool false ∧ Aside0 (VS w0 w wc g B j g1 g2 g3 g4 g5 #[.slice (some ad) st.length z0, .slice A1 en.length z1, .int .i64 root] #[.int .u8 13, .int .i64 (q : Int), .int .i64 0] #[.string f.f0, .int .u8 f.f1.f0, .int .i64 f.f1.f1, .int .i64 f.f1.f2, .int .u64 f.f2] #[.int .u64 0, .slice none 0 0, .slice none 0 0, .bool false]))
  case first =>
    obtain ⟨As, cs, hsb, -, -⟩ := HV2.out.src
    have b0 := cellS84_0 hsb
    have b1 := cellS84_1 hsb
    clear hsb
    rcases WAYS.out with rfl | ⟨rfl, p3, p4⟩
    all_goals
      go_quiet (fail)
      go_wp2_with (fail)
      go_meet
      exact ⟨rfl, ⟨HV2.out.drawn rfl⟩⟩
  obtain ⟨rfl, HV3⟩ := hcut
  clear t0 t2
  generalize wc = w3 at *
  have o3 : w3.cell? ⟨g5, 3, none⟩ = some (.bool false) := (blk_cell HV3.out.o 3).trans rfl
  have y3 := blk_frozen HV3.out.o 3
  go_upto_region 23 with (fail)
  have HV4 : Aside0 (VS w0 w (w3.setCell ⟨g5, 3, none⟩ (.bool true)) g B j g1 g2 g3 g4 g5 #[.slice (some ad) st.length z0, .slice A1 en.length z1, .int .i64 root] #[.int .u8 13, .int .i64 (q : Int), .int .i64 0] #[.string f.f0, .int .u8 f.f1.f0, .int .i64 f.f1.f1, .int .i64 f.f1.f2, .int .u64 f.f2] #[.int .u64 0, .slice none 0 0, .slice none 0 0, .bool true]) := ⟨HV3.out.set 3 _⟩
  generalize w3.setCell ⟨g5, 3, none⟩ (.bool true) = w4 at HV4 ⊢
  clear o3 y3
  have x0 := pw_cell_below HV4.out.bel HX.out.1
  have x1 := pw_cell_below HV4.out.bel HX.out.2
  have s0 : w4.cell? ⟨g1, 0, none⟩ = some (.slice (some ad) st.length z0) := (blk_cell HV4.out.s 0).trans rfl
  have t1 : w4.cell? ⟨g2, 1, none⟩ = some (.int .i64 (q : Int)) := (blk_cell HV4.out.t 1).trans rfl
  go_upto_region 24 with (fail)
  have HBR0 := Aside0.mk (heap_alloc_new w4 (.cells #[.string R.f0, .slice A4 R.f1.length c4] 31))
  have HV50 : Aside0 (VS w0 w (w4.alloc (.cells #[.string R.f0, .slice A4 R.f1.length c4] 31)) g B j g1 g2 g3 g4 g5 #[.slice (some ad) st.length z0, .slice A1 en.length z1, .int .i64 root] #[.int .u8 13, .int .i64 (q : Int), .int .i64 0] #[.string f.f0, .int .u8 f.f1.f0, .int .i64 f.f1.f1, .int .i64 f.f1.f2, .int .u64 f.f2] #[.int .u64 0, .slice none 0 0, .slice none 0 0, .bool true]) := ⟨HV4.out.below (below_alloc (Below.refl _ _) _)⟩
  have HGR0 := Aside0.mk HV4.out.size
  obtain ⟨gr, hgr⟩ : ∃ gr, w4.heap.size = gr := ⟨_, rfl⟩
  obtain ⟨w5, hw5⟩ : ∃ w5, w4.alloc (.cells #[.string R.f0, .slice A4 R.f1.length c4] 31) = w5 := ⟨_, rfl⟩
  rw [hgr] at HGR0
  rw [hw5, hgr] at HBR0
  rw [hw5] at HV50
  rw [hw5, hgr]
  clear hw5 hgr x0 x1 s0 t1
  have HBR := HBR0
  have HV5 := HV50
  have HGR := HGR0
  clear HBR0 HV50 HGR0
  go_wp2_with (fail)
  go_loopg [20] 17 (fun kq v20 wr => ∃ (k : Nat) (jk : Int) (kids : List S39) (vk : Value), v20 = .int .i64 k ∧ Aside0 (k ≤ R.f1.length) ∧ Aside0 (R.f1.length < kq + k) ∧ Aside0 (KOk st en root l B.length R.f1 j jk k kids) ∧
    Aside0 (VS w0 w wr g B jk g1 g2 g3 g4 g5 #[.slice (some ad) st.length z0, .slice A1 en.length z1, .int .i64 root] #[.int .u8 13, .int .i64 (q : Int), .int .i64 0] #[.string f.f0, .int .u8 f.f1.f0, .int .i64 f.f1.f1, .int .i64 f.f1.f2, .int .u64 f.f2] #[.int .u64 0, .slice none 0 0, vk, .bool true]) ∧ Aside0 (Rb k39 39 wr (gr + 1) vk kids) ∧ Aside0 (wr.heap[gr]? = some (.cells #[.string R.f0, .slice A4 R.f1.length c4] 31 (0, 0))))
  case atStart => exact ⟨0, j, [], .slice none 0 0, rfl, ⟨Nat.zero_le _⟩, ⟨by have := HR.out.2.1; omega⟩, ⟨⟨rfl, by simp, by simp [rngs], ⟨by omega, HJ.out.2.2.1⟩, by simp [Mk.wts]⟩⟩, HV5, ⟨Rb.nil _ _ _ _⟩, HBR⟩
  case round =>
    obtain ⟨k, jk, kids, vk, rfl, HK, HKQ, HO, HV, HKR, HB⟩ := hrel
    obtain ⟨n, rfl⟩ : ∃ n, gk = n + 1 := ⟨gk - 1, by have := HKQ.out; have := HK.out; omega⟩
    obtain ⟨Ak, ck, rfl, -, -⟩ := HKR.out.slice
    by_cases p : k < R.f1.length
    · have p1 : decide (k < R.f1.length) = true := decide_eq_true p
      have p2 : decide ((k : Int) < (R.f1.length : Int)) = true := decide_eq_true (by omega)
      have k0 : (0 : Int) ≤ (k : Int) := Int.natCast_nonneg _
      have k1 : (k : Int) < (R.f1.length : Int) := by omega
      have k16 : k ≤ 16 := by have := HR.out.2.1; omega
      obtain ⟨af, rfl, m0, m1, m2, m3, m4⟩ := at_T28 HF2.out (k : Int) k0 k1
      obtain ⟨fd, hfd⟩ : ∃ fd, rd_T28 R.f1 (k : Int) = fd := ⟨_, rfl⟩
      have hfk : R.f1[k] = fd := by rw [← hfd]; unfold rd_T28; rw [show ((k : Int)).toNat = k from rfl, List.getD_eq_getElem?_getD, List.getElem?_eq_getElem p]; rfl
      have HFK : Aside0 (∃ p : k < R.f1.length, R.f1[k] = fd) := ⟨⟨p, hfk⟩⟩
      have HFD : Aside0 (FOk en st.length tr q fd) := ⟨by rw [← hfk]; exact HR.out.2.2 _ (List.getElem_mem p)⟩
      rw [hfd] at m0 m1 m2 m3 m4
      rw [show ((k : Int)).toNat = k from rfl] at m0 m1 m2 m3 m4
      have HM := Aside0.mk (And.intro m0 (And.intro m1 (And.intro m2 (And.intro m3 m4))))
      clear m0 m1 m2 m3 m4 hfd p hfk
      have s0 : wr.cell? ⟨g1, 0, none⟩ = some (.slice (some ad) st.length z0) := (blk_cell HV.out.s 0).trans rfl
      have s1 : wr.cell? ⟨g1, 1, none⟩ = some (.slice A1 en.length z1) := (blk_cell HV.out.s 1).trans rfl
      have s2 : wr.cell? ⟨g1, 2, none⟩ = some (.int .i64 root) := (blk_cell HV.out.s 2).trans rfl
      have b1 : wr.cell? ⟨gr, 1, none⟩ = some (.slice (some af) R.f1.length c4) := (blk_cell HB.out 1).trans rfl
      have m0 := pw_cell_below HV.out.bel HM.out.1
      have m1 := pw_cell_below HV.out.bel HM.out.2.1
      have m2 := pw_cell_below HV.out.bel HM.out.2.2.1
      have m3 := pw_cell_below HV.out.bel HM.out.2.2.2.1
      have m4 := pw_cell_below HV.out.bel HM.out.2.2.2.2
      have HCALL : Aside0 (∀ W, Below wr.heap.size wr W → Calls Try.prog 23 #[.agg #[.slice (some ad) st.length z0, .slice A1 en.length z1, .int .i64 root], tyV fd.f1.f0 fd.f1.f1 fd.f1.f2, .pointer (some ⟨g, 0, none⟩), .int .i64 l, fV fd, .bool false] W (VPost st en root B l fd.f1.f0 fd.f1.f1 fd.f1.f2 false jk w0 W g)) := ⟨fun W hW => by
        have h6 := HV.out.below hW
        exact HIH.out W jk fd HFD.out (by have := HO.out.adv; have := HJ.out; omega) HO.out.adv.2 h6.src h6.bel h6.kp⟩
      have HNQ : Aside0 (g1 ≠ wr.heap.size ∧ gr ≠ wr.heap.size ∧ (af.add (k * 5)).block ≠ wr.heap.size) := ⟨by have := HV.out.ne; have := HV.out.size; omega, by have := blk_lt HB.out; omega, by have := World.block_lt_of_cell? _ _ HM.out.1; have := HV.out.bel.size; omega⟩
      have wl : IntKind.i64.wrap (l : Int) = (l : Int) := by rw [IntKind.wrap_i64]; omega
      go_upto_region 27 with (fail)
      go_cut [21] from 133 to 161 (fun v21 wc => ∃ (gn : Nat) (v : S39) (jl : Int) (A5 : Option Addr) (c5 : Nat) (A6 : Option Addr) (c6 hz : Nat), v21 = .pointer (some ⟨gn, 0, none⟩) ∧ Aside0 (VS w0 w wc g B jl g1 g2 g3 g4 g5 #[.slice (some ad) st.length z0, .slice A1 en.length z1, .int .i64 root] #[.int .u8 13, .int .i64 (q : Int), .int .i64 0] #[.string f.f0, .int .u8 f.f1.f0, .int .i64 f.f1.f1, .int .i64 f.f1.f2, .int .u64 f.f2] #[.int .u64 0, .slice none 0 0, .slice Ak kids.length ck, .bool true]) ∧
        Aside0 (Rb k39 39 wc (gr + 1) (.slice Ak kids.length ck) kids) ∧ Aside0 (wc.heap[gr]? = some (.cells #[.string R.f0, .slice (some af) R.f1.length c4] 31 (0, 0))) ∧ Aside0 (wc.heap[gn]? = some (.cells #[.int .u64 v.f0, .slice A5 v.f1.length c5, .slice A6 v.f2.length c6, .bool v.f3] 39 (0, 0))) ∧
        Aside0 (k39.M wc (gr + 1) (fun x => hz ≤ x) v [.int .u64 v.f0, .slice A5 v.f1.length c5, .slice A6 v.f2.length c6, .bool v.f3]) ∧ Aside0 (∀ x, hz ≤ x → True ∧ some x ≠ (Value.slice Ak kids.length ck).ownBlock) ∧ Aside0 (VOk st en root B.length l fd.f1.f0 fd.f1.f1 fd.f1.f2 false jk jl v))
      case first =>
        go_region_held3 (fun W => W.cell? ⟨g1, 0, none⟩ = some (.slice (some ad) st.length z0) ∧ W.cell? ⟨g1, 1, none⟩ = some (.slice A1 en.length z1) ∧ W.cell? ⟨g1, 2, none⟩ = some (.int .i64 root) ∧ W.cell? ⟨gr, 1, none⟩ = some (.slice (some af) R.f1.length c4) ∧ W.cell? (af.add (k * 5)) = some (.string fd.f0) ∧ W.cell? ⟨(af.add (k * 5)).block, (af.add (k * 5)).off + 1, none⟩ = some (.int .u8 fd.f1.f0) ∧ W.cell? ⟨(af.add (k * 5)).block, (af.add (k * 5)).off + 2, none⟩ = some (.int .i64 fd.f1.f1) ∧ W.cell? ⟨(af.add (k * 5)).block, (af.add (k * 5)).off + 3, none⟩ = some (.int .i64 fd.f1.f2) ∧ W.cell? ⟨(af.add (k * 5)).block, (af.add (k * 5)).off + 4, none⟩ = some (.int .u64 fd.f2))
          (first | with_reducible exact ⟨kk0, kk1, kk2, kk3, kk4, kk5, kk6, kk7, kk8⟩ | with_reducible exact ⟨set4_cell kk0 HNQ.out.1, set4_cell kk1 HNQ.out.1, set4_cell kk2 HNQ.out.1, set4_cell kk3 HNQ.out.2.1, set4_cell kk4 HNQ.out.2.2, set4_cell kk5 HNQ.out.2.2, set4_cell kk6 HNQ.out.2.2, set4_cell kk7 HNQ.out.2.2, set4_cell kk8 HNQ.out.2.2⟩ | go_keep)
          (first
            | (go_at_call 23; (with_reducible refine (HCALL.out _ (below_drew (Below.refl wr.heap.size wr))).mono ?_); rintro e w7 hp; obtain ⟨v, jl, v1, v2, rfl, hr1, hr2, hs7, hb7, hk7, hok⟩ := hp; obtain ⟨A5, c5, rfl, -, -⟩ := hr1.slice; obtain ⟨A6, c6, rfl, -, -⟩ := hr2.slice; have hw6 := below_drew (Below.refl wr.heap.size wr); have HV7 := Aside0.mk ((HV.out.below hw6).call hs7 hb7 hk7); have HKR7 := Aside0.mk ((HKR.out.below hw6).keep hk7 (by have := HV.out.ne; have := HGR.out; omega)); have HB7 := Aside0.mk (hk7.blk ((hw6.block _ (blk_lt HB.out)).trans HB.out) (by have := HV.out.ne; have := HGR.out; omega) (by simp)); have HR1 := Aside0.mk hr1; have HR2 := Aside0.mk hr2; have HOK := Aside0.mk hok; have HK7 := Aside0.mk hk7; have kk0 : w7.cell? ⟨g1, 0, none⟩ = some (.slice (some ad) st.length z0) := (blk_cell HV7.out.s 0).trans rfl; have kk1 : w7.cell? ⟨g1, 1, none⟩ = some (.slice A1 en.length z1) := (blk_cell HV7.out.s 1).trans rfl; have kk2 : w7.cell? ⟨g1, 2, none⟩ = some (.int .i64 root) := (blk_cell HV7.out.s 2).trans rfl; have kk3 : w7.cell? ⟨gr, 1, none⟩ = some (.slice (some af) R.f1.length c4) := (blk_cell HB7.out 1).trans rfl; have kk4 := pw_cell_below HV7.out.bel HM.out.1; have kk5 := pw_cell_below HV7.out.bel HM.out.2.1; have kk6 := pw_cell_below HV7.out.bel HM.out.2.2.1; have kk7 := pw_cell_below HV7.out.bel HM.out.2.2.2.1; have kk8 := pw_cell_below HV7.out.bel HM.out.2.2.2.2; clear hr1 hr2 hs7 hb7 hk7 hok hw6)
            | (go_at_call 23; (with_reducible refine (HCALL.out _ (below_drew (below_alloc (Below.refl wr.heap.size wr) (.cells #[.int .u64 0, .slice none 0 0, .slice none 0 0, .bool false] 39)))).mono ?_); rintro e w7 hp; obtain ⟨v, jl, v1, v2, rfl, hr1, hr2, hs7, hb7, hk7, hok⟩ := hp; obtain ⟨A5, c5, rfl, -, -⟩ := hr1.slice; obtain ⟨A6, c6, rfl, -, -⟩ := hr2.slice; have hw6 := below_drew (below_alloc (Below.refl wr.heap.size wr) (.cells #[.int .u64 0, .slice none 0 0, .slice none 0 0, .bool false] 39)); have HV7 := Aside0.mk ((HV.out.below hw6).call hs7 hb7 hk7); have HKR7 := Aside0.mk ((HKR.out.below hw6).keep hk7 (by have := HV.out.ne; have := HGR.out; omega)); have HB7 := Aside0.mk (hk7.blk ((hw6.block _ (blk_lt HB.out)).trans HB.out) (by have := HV.out.ne; have := HGR.out; omega) (by simp)); have HR1 := Aside0.mk hr1; have HR2 := Aside0.mk hr2; have HOK := Aside0.mk hok; have HK7 := Aside0.mk hk7; have kk0 : w7.cell? ⟨g1, 0, none⟩ = some (.slice (some ad) st.length z0) := (blk_cell HV7.out.s 0).trans rfl; have kk1 : w7.cell? ⟨g1, 1, none⟩ = some (.slice A1 en.length z1) := (blk_cell HV7.out.s 1).trans rfl; have kk2 : w7.cell? ⟨g1, 2, none⟩ = some (.int .i64 root) := (blk_cell HV7.out.s 2).trans rfl; have kk3 : w7.cell? ⟨gr, 1, none⟩ = some (.slice (some af) R.f1.length c4) := (blk_cell HB7.out 1).trans rfl; have kk4 := pw_cell_below HV7.out.bel HM.out.1; have kk5 := pw_cell_below HV7.out.bel HM.out.2.1; have kk6 := pw_cell_below HV7.out.bel HM.out.2.2.1; have kk7 := pw_cell_below HV7.out.bel HM.out.2.2.2.1; have kk8 := pw_cell_below HV7.out.bel HM.out.2.2.2.2; have HN7 := Aside0.mk (hk7.blk (o := .cells #[.int .u64 0, .slice none 0 0, .slice none 0 0, .bool false] 39 (0, 0)) (heap_alloc_new wr (.cells #[.int .u64 0, .slice none 0 0, .slice none 0 0, .bool false] 39)) (by have := HV.out.ne; have := HV.out.size; omega) (by simp)); have nn0 := (blk_cell HN7.out 0).trans rfl; have nn1 := (blk_cell HN7.out 1).trans rfl; have nn2 := (blk_cell HN7.out 2).trans rfl; have nn3 := (blk_cell HN7.out 3).trans rfl; have yn0 := blk_frozen HN7.out 0; have yn1 := blk_frozen HN7.out 1; have yn2 := blk_frozen HN7.out 2; have yn3 := blk_frozen HN7.out 3; clear hr1 hr2 hs7 hb7 hk7 hok hw6))
        · clear kk0 kk1 kk2 kk3 kk4 kk5 kk6 kk7 kk8
          go_wp2_with (fail)
          go_meet
          have hbn := below_alloc (Below.refl w7.heap.size w7) (.cells #[.int .u64 v.f0, .slice A5 v.f1.length c5, .slice A6 v.f2.length c6, .bool v.f3] 39)
          have hgr : gr + 1 ≤ wr.drew.heap.size := blk_lt HB.out
          exact ⟨w7.heap.size, v, jl, A5, c5, A6, c6, wr.drew.heap.size, rfl, ⟨HV7.out.below hbn⟩, ⟨HKR7.out.below hbn⟩, ⟨(hbn.block _ (blk_lt HB7.out)).trans HB7.out⟩, ⟨heap_alloc_new w7 _⟩,
            ⟨k39_mkM _ (gr + 1) _ v (Kd.R_below (Kd.R_lower (Rb.from HR1.out) hgr) hbn) (Kd.R_below (Kd.R_lower (Rb.from HR2.out) hgr) hbn)⟩, ⟨fun x hx => ⟨trivial, fun e => by have := (HKR.out.bas x e.symm).2; have hx' : wr.heap.size ≤ x := hx; omega⟩⟩, HOK⟩
        · clear kk0 kk1 kk2 kk3 kk4 kk5 kk6 kk7 kk8 nn0 nn1 nn2 nn3 yn0 yn1 yn2 yn3
          go_wp2_with (fail)
          go_meet
          obtain ⟨wz, hwz⟩ : ∃ wz, (((w7.setCell ⟨wr.heap.size, 0, none⟩ (.int .u64 v.f0)).setCell ⟨wr.heap.size, 1, none⟩ (.slice A5 v.f1.length c5)).setCell ⟨wr.heap.size, 2, none⟩ (.slice A6 v.f2.length c6)).setCell ⟨wr.heap.size, 3, none⟩ (.bool v.f3) = wz := ⟨_, rfl⟩
          rw [hwz]
          obtain ⟨q1, q2, q3, q4⟩ := set4_all hwz
          have hgr : gr + 1 ≤ wr.heap.size + 1 := by have := blk_lt HB.out; omega
          have hsz : (wr.alloc (.cells #[.int .u64 0, .slice none 0 0, .slice none 0 0, .bool false] 39)).drew.heap.size = wr.heap.size + 1 := by show (wr.alloc (.cells #[.int .u64 0, .slice none 0 0, .slice none 0 0, .bool false] 39)).heap.size = _; simp
          have hr1 := HR1.out
          have hr2 := HR2.out
          rw [hsz] at hr1 hr2
          have hk := q3 (keep_trans (KeepBut.of_below (below_drew (below_alloc (Below.refl wr.heap.size wr) (.cells #[.int .u64 0, .slice none 0 0, .slice none 0 0, .bool false] 39))) g none) HK7.out) (Nat.le_refl _)
          exact ⟨wr.heap.size, v, jl, A5, c5, A6, c6, wr.heap.size + 1, rfl, ⟨q2 HV7.out HV.out.size⟩, ⟨HKR.out.keep hk (by have := HV.out.ne; have := HGR.out; omega)⟩, ⟨hk.blk HB.out (by have := HV.out.ne; have := HGR.out; omega) (by simp)⟩, ⟨q4 HN7.out⟩,
            ⟨k39_mkM _ (gr + 1) _ v (Kd.R_lower (Rb.from (q1 hr1 (Nat.lt_succ_self _))) hgr) (Kd.R_lower (Rb.from (q1 hr2 (Nat.lt_succ_self _))) hgr)⟩, ⟨fun x hx => ⟨trivial, fun e => by have := (HKR.out.bas x e.symm).2; omega⟩⟩, HOK⟩
      obtain ⟨gn, v, jl, A5, c5, A6, c6, hz, rfl, HV8, HKR8, HB8, HNB, HM8, HNE, HOK⟩ := hcut
      have o2 : wc.cell? ⟨g5, 2, none⟩ = some (.slice Ak kids.length ck) := (blk_cell HV8.out.o 2).trans rfl
      have n0 : wc.cell? ⟨gn, 0, none⟩ = some (.int .u64 v.f0) := (blk_cell HNB.out 0).trans rfl
      have n1 : wc.cell? ⟨gn, 1, none⟩ = some (.slice A5 v.f1.length c5) := (blk_cell HNB.out 1).trans rfl
      have n2 : wc.cell? ⟨gn, 2, none⟩ = some (.slice A6 v.f2.length c6) := (blk_cell HNB.out 2).trans rfl
      have n3 : wc.cell? ⟨gn, 3, none⟩ = some (.bool v.f3) := (blk_cell HNB.out 3).trans rfl
      go_wp2_with ((with_reducible refine gate_builtin (b := .append) (xs := #[.tmp 157, .tmp 159]) rfl ?_); at_builtin; refine Kd.R_append k39 (w0 := wc) (W := wc) (gr + 1) rfl (.tmp 157) (.tmp 159) 37 39 (.agg #[.int .u64 0, .slice none 0 0, .slice none 0 0, .bool false]) 64 rfl Try.underlying37 info39 rfl (by decide) (by decide) (.slice Ak kids.length ck) kids v [.int .u64 v.f0, .slice A5 v.f1.length c5, .slice A6 v.f2.length c6, .bool v.f3] (fun _ => True) (fun x => hz ≤ x) rfl rfl HM8.out HNE.out (fun _ _ => trivial) HKR8.out (Below.refl _ _) (blk_lt HB8.out) (by have := HO.out.len; have := HK.out; have := HR.out.2.1; omega) ?_)
      intro v9 w9 hr9 _ hg9 _
      obtain ⟨A9, c9, e9, -, -⟩ := Rb.slice hr9
      rw [List.length_append, List.length_singleton] at e9
      subst e9
      have HG9 : Aside0 (∀ x, (Value.slice Ak kids.length ck).ownBlock = some x → gr + 1 ≤ x) := ⟨fun x hx => (HKR8.out.bas x hx).1⟩
      have HV9 := Aside0.mk (HV8.out.grown hg9 (fun x hx => by have := HG9.out x hx; have := HGR.out; omega))
      have HR9 := Aside0.mk hr9
      have HB9 := Aside0.mk (blk_grown HB8.out hg9 (fun e => by have := HG9.out gr e.symm; omega))
      have o9 : w9.cell? ⟨g5, 2, none⟩ = some (.slice Ak kids.length ck) := (blk_cell HV9.out.o 2).trans rfl
      have f9 := blk_frozen HV9.out.o 2
      have HNE5 : Aside0 (gr ≠ g5) := ⟨by have := HGR.out; omega⟩
      clear hr9 hg9 o2 n0 n1 n2 n3
      go_wp2_with (fail)
      go_roundg n
      case measure => omega
      case rel =>
        exact ⟨k + 1, jl, kids ++ [v], .slice A9 (kids.length + 1) c9, by go_num, ⟨by obtain ⟨p, _⟩ := HFK.out; omega⟩, ⟨by have := HKQ.out; omega⟩, ⟨by obtain ⟨p, hfk⟩ := HFK.out; exact HO.out.snoc p (by rw [hfk]; exact HOK.out)⟩,
          ⟨HV9.out.set 2 (.slice A9 (kids.length + 1) c9)⟩, ⟨Rb.set (p := ⟨g5, 2, none⟩) HR9.out (by show g5 < gr + 1; have := HGR.out; omega) _⟩, ⟨blk_far HB9.out (p := ⟨g5, 2, none⟩) HNE5.out _⟩⟩
    · have p1 : decide (k < R.f1.length) = false := decide_eq_false p
      have p2 : decide ((k : Int) < (R.f1.length : Int)) = false := decide_eq_false (by omega)
      have hkR : k = R.f1.length := by have := HK.out; omega
      have HKE := Aside0.mk hkR
      clear p hkR
      have b1 : wr.cell? ⟨gr, 1, none⟩ = some (.slice A4 R.f1.length c4) := (blk_cell HB.out 1).trans rfl
      have o0 : wr.cell? ⟨g5, 0, none⟩ = some (.int .u64 0) := (blk_cell HV.out.o 0).trans rfl
      have o1 : wr.cell? ⟨g5, 1, none⟩ = some (.slice none 0 0) := (blk_cell HV.out.o 1).trans rfl
      have o2 : wr.cell? ⟨g5, 2, none⟩ = some (.slice Ak kids.length ck) := (blk_cell HV.out.o 2).trans rfl
      have o3 : wr.cell? ⟨g5, 3, none⟩ = some (.bool true) := (blk_cell HV.out.o 3).trans rfl
      have r0 : wr.cell? ⟨g4, 0, none⟩ = some (.int .u64 0) := (blk_cell HV.out.r 0).trans rfl
      have r1 : wr.cell? ⟨g4, 1, none⟩ = some (.slice none 0 0) := (blk_cell HV.out.r 1).trans rfl
      have r2 : wr.cell? ⟨g4, 2, none⟩ = some (.slice none 0 0) := (blk_cell HV.out.r 2).trans rfl
      have r3 : wr.cell? ⟨g4, 3, none⟩ = some (.bool false) := (blk_cell HV.out.r 3).trans rfl
      have y0 := blk_frozen HV.out.r 0
      have y1 := blk_frozen HV.out.r 1
      have y2 := blk_frozen HV.out.r 2
      have y3 := blk_frozen HV.out.r 3
      go_wp2_with (fail)
      clear o0 o1 o2 o3 r0 r1 r2 r3 y0 y1 y2 y3 b1
      obtain ⟨wz, hwz⟩ : ∃ wz, (((wr.setCell ⟨g4, 0, none⟩ (.int .u64 0)).setCell ⟨g4, 1, none⟩ (.slice none 0 0)).setCell ⟨g4, 2, none⟩ (.slice Ak kids.length ck)).setCell ⟨g4, 3, none⟩ (.bool true) = wz := ⟨_, rfl⟩
      rw [hwz]
      obtain ⟨⟨z0', z1', z2', z3'⟩, ⟨hs, hb, hk⟩, hrows⟩ := vs_end HV.out hwz
      refine bodyPost_ret (v := .agg #[.int .u64 0, .slice none 0 0, .slice Ak kids.length ck, .bool true]) (by simp [results, Try.results23, go_sem, z0', z1', z2', z3']) rfl ⟨⟨0, [], kids, true⟩, jk, _, _, rfl, Rb.nil _ _ _ _, hrows (HKR.out.lower (by have := HGR.out; omega)), hs, hb, hk, ?_⟩
      have h1 := HJ.out
      have h2 := HO.out
      have h3 := HR.out
      have hkR := HKE.out
      subst hkR
      refine ⟨?_, fun _ _ _ _ => rfl, ?_, by have := h2.adv; omega, fun h => ?_, fun h => ?_⟩
      · have hf := h2.fit
        rw [List.take_length] at hf
        unfold fitsB
        rw [if_neg (by decide), if_pos rfl, if_neg (by simp), HRR.out, if_neg (by simp [h2.len])]
        exact hf
      · simp only [rng]; exact ⟨⟨by decide, by decide⟩, (fun _ h => by cases h), h2.rg⟩
      · simp only [wt]; have := h1.2.2.2.1 h; have := h2.wts; have := h2.adv; simp only [List.length_nil]; omega
      · simp only [wt]; have := h2.wts; have := h2.adv; simp only [List.length_nil]; exact ⟨by omega, fun hf => by have := h1.2.2.2.2 hf; omega⟩
end Go.Proofs.Ythilhndejhnlnaa.Hand
end
