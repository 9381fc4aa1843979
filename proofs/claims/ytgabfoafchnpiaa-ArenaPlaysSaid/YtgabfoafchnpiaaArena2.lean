/- The arena of layer 2: Put, Num, Align, Set; of none, and the fixed facts. -/
import Derived.Test.YtgabfoafchnpiaaArena
import Derived.Test.YtgabfoafchnpiaaWalkWireBack
namespace Go.Proofs.Ytgabfoafchnpiaa.Hand
open Go.RowKit Go.Proofs.Ytgabfoafchnpiaa.QAll Go.Proofs.YtgabfoafchnpiaaW.PrintWords Go.Proofs.YtgabfoafchnpiaaW.PrintLast Go.Proofs.YtgabfoafchnpiaaW.PrintMore Go.Proofs.Ytgabfoafchnpiaa.Nums
set_option linter.unusedVariables false
set_option linter.unusedSimpArgs false

set_option maxHeartbeats 800000 in
theorem put_nilptr (v : Value) (A : Option Addr) (n c : Nat) (w : World) : Calls Try.prog 14 #[.pointer none, .slice A n c] w fun e w' => e = .returned (.tuple #[.int .i64 0, .bool false]) ∧ w = w' := by
  go_enter Try.func14, Try.ntmps14
  go_wp2_with (go_at_call 13; (with_reducible refine (room_nil _ _).mono ?_); rintro e w2 ⟨rfl, rfl⟩)
  go_ret2
  exact ⟨rfl, rfl⟩
set_option maxHeartbeats 800000 in
theorem num_nilptr (s n : Int) (w : World) : Calls Try.prog 15 #[.pointer none, .int .i64 s, .int .u64 n] w fun e w' => e = .returned (.tuple #[.int .i64 0, .bool false]) ∧ Drawn0 w w' := by
  have HS := Aside0.mk (sized_f s)
  cases hs : sizedB s with
  | false =>
    rw [hs] at HS
    clear hs
    go_enter Try.func15, Try.ntmps15
    go_wp2_with (first
      | (go_at_call 43; (with_reducible refine (wire_Sized.calls _ _ _ HS.out).mono ?_); rintro e w2 ⟨rfl, ⟨nd, rfl⟩⟩)
      | (go_at_call 13; (with_reducible refine (room_nil _ _).mono ?_); rintro e w2 ⟨rfl, rfl⟩))
    go_ret2
    exact ⟨rfl, ⟨_, rfl⟩⟩
  | true =>
    rw [hs] at HS
    clear hs
    go_enter Try.func15, Try.ntmps15
    go_wp2_with (first
      | (go_at_call 43; (with_reducible refine (wire_Sized.calls _ _ _ HS.out).mono ?_); rintro e w2 ⟨rfl, ⟨nd, rfl⟩⟩)
      | (go_at_call 13; (with_reducible refine (room_nil _ _).mono ?_); rintro e w2 ⟨rfl, rfl⟩))
    go_ret2
    exact ⟨rfl, ⟨_, rfl⟩⟩
set_option maxHeartbeats 800000 in
theorem align_nilptr (n : Int) (w : World) : Calls Try.prog 19 #[.pointer none, .int .i64 n] w fun e w' => e = .returned (.bool false) ∧ w = w' := by
  go_enter Try.func19, Try.ntmps19
  go_wp2
  go_ret
  exact ⟨rfl, rfl⟩
set_option maxHeartbeats 800000 in
theorem set_nilptr (a s n : Int) (w : World) : Calls Try.prog 20 #[.pointer none, .int .i64 a, .int .i64 s, .int .u64 n] w fun e w' => e = .returned (.bool false) ∧ w = w' := by
  go_enter Try.func20, Try.ntmps20
  go_wp2
  go_ret
  exact ⟨rfl, rfl⟩

theorem block_add (a : Addr) (n : Nat) : (a.add n).block = a.block := by unfold Addr.add; split <;> rfl
theorem C_stays {w w' : World} {g n : Nat} {v v' : Value} {A : Option Addr} {bs : List Int} (hs : Stays w w' g v v') (hr : Kd.C (Kd.int .u8) w A n bs) (hA : ∀ ad, A = some ad → 0 < n → ad.block ≠ g ∧ some ad.block ≠ v.ownBlock) :
    Kd.C (Kd.int .u8) w' A n bs := by
  have hR := Kd.reads_of_C (enc := Value.int .u8) (d := (0 : Int)) (h1 := fun _ => rfl) hr
  refine Kd.C_of_reads (enc := Value.int .u8) (d := (0 : Int)) (h1 := fun _ => rfl) ⟨hR.1, hR.2.1, fun hp => ?_⟩
  obtain ⟨ad, e, hc⟩ := hR.2.2 hp
  obtain ⟨h1, h2⟩ := hA ad e hp
  refine ⟨ad, e, fun j hj => ?_⟩
  have hb := World.block_lt_of_cell? w _ (hc j hj)
  rw [block_add] at hb
  rw [← hc j hj]
  exact World.cell?_of_block (by rw [block_add]; exact hs.block ad.block hb h1 h2)

theorem put_zeros (l bs : List Int) : put_ (l ++ List.replicate bs.length 0) l.length bs = l ++ bs := by
  unfold put_
  rw [List.take_left', List.drop_of_length_le (by simp), List.append_nil]
  rfl

set_option maxHeartbeats 1600000 in
theorem put_yes {base : Nat} {g : Nat} {v : Value} {l bs : List Int} {most : Int} (A : Option Addr) (c : Nat) (w : World) (h : Arn base w g v l most false) (hbase : base ≤ w.heap.size)
    (hr : Kd.C (Kd.int .u8) w A bs.length bs) (hA : ∀ ad, A = some ad → 0 < bs.length → ad.block ≠ g ∧ some ad.block ≠ v.ownBlock)
    (hlim : l.length + bs.length ≤ 140737488355328) (hN : wire_Next.f 2 (l.length : Int) (bs.length : Int) most = some ((l.length : Int) + (bs.length : Int), true)) :
    Calls Try.prog 14 #[.pointer (some ⟨g, 0, none⟩), .slice A bs.length c] w fun e w' => e = .returned (.tuple #[.int .i64 l.length, .bool true]) ∧ ∃ v', Arn base w' g v' (l ++ bs) most false ∧ Stays w w' g v v' := by
  have H := Aside0.mk h
  have HN := Aside0.mk hN
  have HB := Aside0.mk hbase
  have HL := Aside0.mk hlim
  have HR := Aside0.mk hr
  have HA := Aside0.mk hA
  clear h hN hbase hlim hr hA
  go_enter Try.func14, Try.ntmps14
  go_upto_region 3 with (go_at_call 13; (with_reducible refine (room_yes bs.length _ H.out HB.out HL.out HN.out).mono ?_); rintro e w2 ⟨rfl, v2, ha2, hs2⟩; have HA2 := Aside0.mk ha2; have HS2 := Aside0.mk hs2; clear ha2 hs2)
  have hR2 := C_stays HS2.out HR.out HA.out
  have hll : (l ++ List.replicate bs.length (0 : Int)).length = l.length + bs.length := by simp
  have c0 := HA2.out.c0
  have hinfo : (Try.prog.info? 5).map (·.size) = some 1 := by
    obtain ⟨i0, h0, _, h1, _⟩ := info_parts info5
    rw [h0]; simp [h1]
  rcases Nat.eq_zero_or_pos bs.length with h0 | hp
  · obtain rfl : bs = [] := List.eq_nil_of_length_eq_zero h0
    obtain ⟨A2, k2, rfl⟩ := HA2.out.slice
    rw [hll] at c0
    obtain ⟨A3, c3, t1, _, _⟩ := cut_drop A2 k2 (l ++ List.replicate 0 0) (l.length + 0) hll l.length (l.length : Int) rfl [] (by simp) (by omega) (by have := own_cap HA2.out.2.2; rw [hll] at this; exact this)
    have hcp : ∀ W : World, (Builtin.copy_ #[23, 23] 3 #[.slice A3 0 c3, .slice A 0 c]).run Try.prog W = .ok (.int .i64 0) W := fun W => run_copy_none W 23 23 3 5 A3 A 0 c3 0 c Try.underlying23 hinfo rfl
    simp only [List.length_nil, Nat.add_zero] at c0 t1
    go_wp2
    go_ret2
    exact ⟨rfl, _, HA2.out, HS2.out⟩
  · obtain ⟨gb, cap, cur, rfl, hgb, hgl, hgc, hgm, hgh, hcl, hct⟩ := own_open HA2.out.2.2 (by rw [hll]; omega)
    have ho2 := HA2.out.2.2
    have HO2 := Aside0.mk ho2
    obtain ⟨w3, hcp, ho3, hg3⟩ := copy_mid ho2 l.length (by rw [hll]; exact Nat.le_refl _) A c (cap - l.length) (some ⟨gb, l.length, none⟩) (fun _ => rfl) hR2
    rw [put_zeros] at ho3
    have HO3 := Aside0.mk ho3
    have HG3 := Aside0.mk hg3
    have hlc : l.length + bs.length ≤ cap := by rw [hll] at hgc; exact hgc
    have HGB := Aside0.mk (And.intro hgb hgl)
    rw [hll] at c0 hcp HA2 HS2 HO3
    rw [Nat.add_sub_cancel_left] at hcp
    have hne : ¬ (cap = l.length) := by omega
    clear ho2 ho3 hg3 hgb hgl hgc hgm hgh hcl hct hR2 hll
    go_wp2
    go_ret2
    have hgne : g ≠ gb := fun e => HA2.out.ne (by rw [e]; rfl)
    refine ⟨rfl, .slice (some ⟨gb, 0, none⟩) (l.length + bs.length) cap, ⟨blk_grown HA2.out.1 HG3.out (fun e => hgne (by injection e)), HA2.out.2.1, ?_⟩, ?_⟩
    · rw [List.length_append]; exact HO3.out
    · exact HS2.out.trans ⟨HG3.out.os, HG3.out.tape, HG3.out.output, HG3.out.size, fun k hk _ hv => HG3.out.block k hk hv, .inl rfl⟩

set_option maxHeartbeats 1600000 in
theorem put_over {base : Nat} {g : Nat} {v : Value} {l : List Int} {most : Int} (A : Option Addr) (n c : Nat) (w : World) (h : Arn base w g v l most true) :
    Calls Try.prog 14 #[.pointer (some ⟨g, 0, none⟩), .slice A n c] w fun e w' => e = .returned (.tuple #[.int .i64 0, .bool false]) ∧ w = w' := by
  have H := Aside0.mk h
  clear h
  go_enter Try.func14, Try.ntmps14
  go_wp2_with (go_at_call 13; (with_reducible refine (room_over _ _ H.out).mono ?_); rintro e w2 ⟨rfl, rfl⟩)
  go_ret2
  exact ⟨rfl, rfl⟩
set_option maxHeartbeats 1600000 in
theorem put_no {base : Nat} {g : Nat} {v : Value} {l : List Int} {most : Int} (A : Option Addr) (n c : Nat) (w : World) (h : Arn base w g v l most false)
    (hN : wire_Next.f 2 (l.length : Int) (n : Int) most = some (0, false)) :
    Calls Try.prog 14 #[.pointer (some ⟨g, 0, none⟩), .slice A n c] w fun e w' => e = .returned (.tuple #[.int .i64 0, .bool false]) ∧ Arn base w' g v l most true ∧ Stays w w' g v v := by
  have H := Aside0.mk h
  have HN := Aside0.mk hN
  clear h hN
  go_enter Try.func14, Try.ntmps14
  go_wp2_with (go_at_call 13; (with_reducible refine (room_no _ _ H.out HN.out).mono ?_); rintro e w2 ⟨rfl, ha, hs⟩; have HA := Aside0.mk ha; have HS := Aside0.mk hs; clear ha hs)
  go_ret2
  exact ⟨rfl, HA.out, HS.out⟩

set_option maxHeartbeats 1600000 in
theorem set_over {base : Nat} {g : Nat} {v : Value} {l : List Int} {most : Int} (a s n : Int) (w : World) (h : Arn base w g v l most true) :
    Calls Try.prog 20 #[.pointer (some ⟨g, 0, none⟩), .int .i64 a, .int .i64 s, .int .u64 n] w fun e w' => e = .returned (.bool false) ∧ w = w' := by
  have c2 := h.c2
  clear h
  go_enter Try.func20, Try.ntmps20
  go_wp2
  go_ret
  exact ⟨rfl, rfl⟩
theorem storeV_length (l : List Int) (a s n : Int) : (storeV l a s n).2.length = l.length := by
  unfold storeV
  by_cases h : (sizedB s && withinB l.length a s) = true
  · rw [if_pos h]
    simp only [Bool.and_eq_true] at h
    obtain ⟨h1, h2⟩ := h
    obtain ⟨a0, s0, hle⟩ := (withinB_iff _ _ _).1 h2
    simp only [List.length_append, List.length_take, List.length_drop, leB_length]; omega
  · rw [if_neg h]
set_option maxHeartbeats 1600000 in
theorem set_some {w0 : World} {g : Nat} {v : Value} {l : List Int} {most : Int} (a s n : Int) (w : World) (h : Arn w0.heap.size w g v l most false) (hB : Below w0.heap.size w0 w) (hl : l.length < 4611686018427387904) :
    Calls Try.prog 20 #[.pointer (some ⟨g, 0, none⟩), .int .i64 a, .int .i64 s, .int .u64 n] w fun e w' => e = .returned (.bool (storeV l a s n).1) ∧ Arn w0.heap.size w' g v (storeV l a s n).2 most false ∧ Stays w w' g v v := by
  have c0 := h.c0
  have c2 := h.c2
  have H := Aside0.mk h
  have HB := Aside0.mk hB
  have HL := Aside0.mk hl
  obtain ⟨A, c, rfl⟩ := h.slice
  have HR : Aside0 (Kd.R (Kd.int .u8) 5 w w0.heap.size (fun k => some k = (Value.slice A l.length c).ownBlock) (.slice A l.length c) l) := ⟨Kd.R_of_own (enc := Value.int .u8) (h1 := fun _ => rfl) h.2.2 (fun k hk => hk.symm)⟩
  clear h hB hl
  go_enter Try.func20, Try.ntmps20
  go_wp2_with (go_at_call 28; (with_reducible refine (store_any (fun k => some k = (Value.slice A l.length c).ownBlock) _ l a s n w0 _ HB.out HR.out HL.out).mono ?_); rintro e w2 ⟨rfl, ho, hb, hk⟩; have HO := Aside0.mk ho; have HK := Aside0.mk hk; have HB2 := Aside0.mk hb; clear ho hb hk)
  go_ret
  have hsame : ∀ k, k < w.heap.size → some k ≠ (Value.slice A l.length c).ownBlock → w2.heap[k]? = w.heap[k]? := fun k hk hv => HK.out.2 k hk hv
  refine ⟨by simp, ⟨?_, H.out.2.1, ?_⟩, ?_⟩
  · exact (hsame g H.out.lt H.out.ne).trans H.out.1
  · exact Kd.own_of_R HO.out
  · exact ⟨HB2.out.os.trans HB.out.os.symm, HB2.out.tape.trans HB.out.tape.symm, HB2.out.output.trans HB.out.output.symm, HK.out.1, fun k hk _ hv => hsame k hk hv, .inl rfl⟩

set_option maxHeartbeats 1600000 in
theorem num_unsized (g : Nat) (s n : Int) (w : World) (hs : sizedB s = false) : Calls Try.prog 15 #[.pointer (some ⟨g, 0, none⟩), .int .i64 s, .int .u64 n] w fun e w' => e = .returned (.tuple #[.int .i64 0, .bool false]) ∧ Drawn0 w w' := by
  have HS := Aside0.mk ((sized_f s).trans (by rw [hs]))
  clear hs
  go_enter Try.func15, Try.ntmps15
  go_wp2_with (first
    | (go_at_call 43; (with_reducible refine (wire_Sized.calls _ _ _ HS.out).mono ?_); rintro e w2 ⟨rfl, ⟨nd, rfl⟩⟩))
  go_ret2
  exact ⟨rfl, ⟨_, rfl⟩⟩
set_option maxHeartbeats 1600000 in
theorem num_over {base : Nat} {g : Nat} {v : Value} {l : List Int} {most : Int} (s n : Int) (w : World) (h : Arn base w g v l most true) (hs : sizedB s = true) :
    Calls Try.prog 15 #[.pointer (some ⟨g, 0, none⟩), .int .i64 s, .int .u64 n] w fun e w' => e = .returned (.tuple #[.int .i64 0, .bool false]) ∧ Drawn0 w w' := by
  have HS := Aside0.mk ((sized_f s).trans (by rw [hs]))
  have H := Aside0.mk h
  clear hs h
  go_enter Try.func15, Try.ntmps15
  go_wp2_with (first
    | (go_at_call 43; (with_reducible refine (wire_Sized.calls _ _ _ HS.out).mono ?_); rintro e w2 ⟨rfl, ⟨nd, rfl⟩⟩)
    | (go_at_call 13; (with_reducible refine (room_over _ _ (H.out.drewN _)).mono ?_); rintro e w2 ⟨rfl, rfl⟩))
  go_ret2
  exact ⟨rfl, ⟨_, rfl⟩⟩
set_option maxHeartbeats 1600000 in
theorem num_no {base : Nat} {g : Nat} {v : Value} {l : List Int} {most : Int} (s n : Int) (w : World) (h : Arn base w g v l most false) (hs : sizedB s = true)
    (hN : wire_Next.f 2 (l.length : Int) s most = some (0, false)) :
    Calls Try.prog 15 #[.pointer (some ⟨g, 0, none⟩), .int .i64 s, .int .u64 n] w fun e w' => e = .returned (.tuple #[.int .i64 0, .bool false]) ∧ Arn base w' g v l most true ∧ Stays w w' g v v := by
  have HS := Aside0.mk ((sized_f s).trans (by rw [hs]))
  have H := Aside0.mk h
  have HN := Aside0.mk hN
  clear hs h hN
  go_enter Try.func15, Try.ntmps15
  go_wp2_with (first
    | (go_at_call 43; (with_reducible refine (wire_Sized.calls _ _ _ HS.out).mono ?_); rintro e w2 ⟨rfl, ⟨nd, rfl⟩⟩)
    | (go_at_call 13; (with_reducible refine (room_no _ _ (H.out.drewN _) HN.out).mono ?_); rintro e w2 ⟨rfl, ha, hs⟩; have HA := Aside0.mk ha; have HSS := Aside0.mk hs; clear ha hs))
  go_ret2
  exact ⟨rfl, HA.out, (Stays.of_drawn ⟨⟨_, rfl⟩⟩ g v).trans HSS.out⟩
set_option maxHeartbeats 1600000 in
theorem num_yes {w0 : World} {g : Nat} {v : Value} {l : List Int} {most : Int} (s : Nat) (n : Int) (w : World) (h : Arn w0.heap.size w g v l most false) (hB : Below w0.heap.size w0 w) (hs : sizedB (s : Int) = true)
    (hl : l.length + s ≤ 140737488355328) (hN : wire_Next.f 2 (l.length : Int) (s : Int) most = some ((l.length : Int) + (s : Int), true)) :
    Calls Try.prog 15 #[.pointer (some ⟨g, 0, none⟩), .int .i64 s, .int .u64 n] w fun e w' => e = .returned (.tuple #[.int .i64 l.length, .bool true]) ∧ ∃ v', Arn w0.heap.size w' g v' (l ++ leB n s) most false ∧ Stays w w' g v v' := by
  have HS := Aside0.mk ((sized_f (s : Int)).trans (by rw [hs]))
  have H := Aside0.mk h
  have HN := Aside0.mk hN
  have HB := Aside0.mk hB
  have HL := Aside0.mk hl
  have hV : storeV (l ++ List.replicate s 0) (l.length : Int) (s : Int) n = (true, l ++ leB n s) := by
    have hw : withinB (l ++ List.replicate s (0 : Int)).length (l.length : Int) (s : Int) = true := by rw [withinB_iff]; simp
    unfold storeV
    rw [hs, hw]
    have e := put_zeros l (leB n s)
    rw [leB_length] at e
    unfold put_ at e
    rw [leB_length] at e
    simp only [Bool.and_self, if_true, Int.toNat_natCast]
    rw [e]
  have HV := Aside0.mk hV
  clear hs h hN hB hl hV
  go_enter Try.func15, Try.ntmps15
  go_wp2_with (first
    | (go_at_call 43; (with_reducible refine (wire_Sized.calls _ _ _ HS.out).mono ?_); rintro e w2 ⟨rfl, ⟨nd, rfl⟩⟩)
    | (go_at_call 13; (with_reducible refine (room_yes s _ (H.out.drewN _) (pw_below_drewN HB.out _).size HL.out HN.out).mono ?_); rintro e w2 ⟨rfl, v2, ha, hs⟩; have HB2 := Aside0.mk ((pw_below_drewN HB.out _).trans ((H.out.drewN _).below (pw_below_drewN HB.out _).size hs)); have HA := Aside0.mk ha; have HSS := Aside0.mk hs; clear ha hs)
    | (go_at_call 20; (with_reducible refine (set_some (w0 := w0) _ _ n _ HA.out HB2.out (by have := HL.out; simp; omega)).mono ?_); rw [HV.out]; rintro e w3 ⟨rfl, ha, hs⟩; have HA3 := Aside0.mk ha; have HS3 := Aside0.mk hs; clear ha hs))
  go_ret2
  exact ⟨rfl, v2, HA3.out, ((Stays.of_drawn ⟨⟨_, rfl⟩⟩ g v).trans HSS.out).trans HS3.out⟩
end Go.Proofs.Ytgabfoafchnpiaa.Hand
