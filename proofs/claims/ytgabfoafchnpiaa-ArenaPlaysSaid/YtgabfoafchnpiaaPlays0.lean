/- ArenaPlays, ahead of the walk: the law's own bytes, and its closure 'grow'. -/
import Derived.Test.YtgabfoafchnpiaaWalkArenaNil
namespace Go.Proofs.Ytgabfoafchnpiaa.Hand
open Go.RowKit Go.Proofs.Ytgabfoafchnpiaa.QAll Go.Proofs.YtgabfoafchnpiaaW.PrintWords Go.Proofs.YtgabfoafchnpiaaW.PrintLast Go.Proofs.YtgabfoafchnpiaaW.PrintMore Go.Proofs.Ytgabfoafchnpiaa.Nums
set_option linter.unusedVariables false
set_option linter.unusedSimpArgs false

/-- A variable of its own: one cell. -/
def Var (W : World) (g : Nat) (t : TypeId) (v : Value) : Prop := W.heap[g]? = some (.cells #[v] t (0, 0))
section var
variable {W W' : World} {g : Nat} {t : TypeId} {v : Value}
theorem Var.cell (h : Var W g t v) : W.cell? ⟨g, 0, none⟩ = some v := (blk_cell h 0).trans rfl
theorem Var.lt (h : Var W g t v) : g < W.heap.size := blk_lt h
theorem Var.frozen (h : Var W g t v) : W.frozen? ⟨g, 0, none⟩ = false := by first | exact blk_frozen h 0 | simpa using blk_frozen h 0
theorem Var.set (h : Var W g t v) (u : Value) : Var (W.setCell ⟨g, 0, none⟩ u) g t u := blk_set h 0 u
theorem Var.far (h : Var W g t v) {k : Nat} (hne : g ≠ k) (u : Value) : Var (W.setCell ⟨k, 0, none⟩ u) g t v := (Below.heap_setCell W ⟨k, 0, none⟩ u g hne).trans h
theorem Var.ne {k : Nat} {t' : TypeId} {v' : Value} (h : Var W g t v) (h' : Var W k t' v') (ht : t ≠ t') : g ≠ k := by
  rintro rfl
  have := h.symm.trans h'
  injection this with e; injection e with _ e; exact ht e
theorem Var.own {base : Nat} {u : Value} {n : Nat} {xs : List Value} (h : Var W g t v) (ho : W.ownsRow base 5 1 u n xs) (ht : t ≠ 5) : some g ≠ u.ownBlock := own_ne ho h (Ne.symm ht)
end var

set_option maxHeartbeats 1600000 in
theorem grow_over (n : Int) (w : World) (go gm gb gw gi : Nat) (ho : Var w go 4 (.bool true)) :
    Calls Try.prog 39 #[.int .i64 n, .pointer (some ⟨go, 0, none⟩), .pointer (some ⟨gm, 0, none⟩), .pointer (some ⟨gb, 0, none⟩), .pointer (some ⟨gw, 0, none⟩), .pointer (some ⟨gi, 0, none⟩)] w
      fun e w' => e = .returned (.tuple #[]) ∧ w = w' := by
  have c1 := ho.cell
  clear ho
  go_enter Try.func39, Try.ntmps39
  go_wp2
  refine bodyPost_ret (results_none rfl _ _ _) rfl ?_
  exact ⟨rfl, rfl⟩
set_option maxHeartbeats 1600000 in
theorem grow_bad {base : Nat} {vb : Value} {L : List Int} {M : Int} (n : Int) (w : World) (go gm gb gw gi : Nat) (ho : Var w go 4 (.bool false)) (hm : Var w gm 3 (.int .i64 M)) (hb : Var w gb 23 vb) (hown : w.ownsRow base 5 1 vb L.length (nums .u8 L))
    (hM : 0 ≤ M ∧ M < 9223372036854775808) (hL : L.length ≤ 140737488355328) (hbad : n < 0 ∨ M - L.length < n) :
    Calls Try.prog 39 #[.int .i64 n, .pointer (some ⟨go, 0, none⟩), .pointer (some ⟨gm, 0, none⟩), .pointer (some ⟨gb, 0, none⟩), .pointer (some ⟨gw, 0, none⟩), .pointer (some ⟨gi, 0, none⟩)] w
      fun e w' => e = .returned (.tuple #[]) ∧ w' = w.setCell ⟨go, 0, none⟩ (.bool true) := by
  obtain ⟨A, c, rfl⟩ := own_slice hown
  have c1 := ho.cell
  have c2 := hm.cell
  have c3 := hb.cell
  have f1 := ho.frozen
  have wr : IntKind.i64.wrap (M - (L.length : Int)) = M - (L.length : Int) := by rw [IntKind.wrap_i64]; omega
  have two : (decide (n < (0 : Int)) = true) ∨ (decide (n < (0 : Int)) = false ∧ decide (M - (L.length : Int) < n) = true) := by simp; omega
  clear ho hm hb hown hbad
  rcases two with p1 | ⟨p1, p2⟩
  all_goals
    go_enter Try.func39, Try.ntmps39
    go_wp2
    refine bodyPost_ret (results_none rfl _ _ _) rfl ?_
    exact ⟨rfl, rfl⟩

/-- What a round's part leaves alone, beside the named blocks. -/
structure Rest (w w' : World) (ex : Nat → Prop) : Prop where
  os : w'.os = w.os
  tape : w'.tape = w.tape
  output : w'.output = w.output
  size : w.heap.size ≤ w'.heap.size
  block : ∀ k, k < w.heap.size → ¬ ex k → w'.heap[k]? = w.heap[k]?

set_option maxHeartbeats 1600000 in
theorem grow_ok {base : Nat} {vb v1 v2 : Value} {L : List Int} {M : Int} (n : Nat) (w : World) (go gm gb gw gi : Nat) (ho : Var w go 4 (.bool false)) (hm : Var w gm 3 (.int .i64 M)) (hb : Var w gb 23 vb) (hw : Var w gw 3 v1) (hi : Var w gi 4 v2)
    (hown : w.ownsRow base 5 1 vb L.length (nums .u8 L)) (hbase : base ≤ w.heap.size) (hmw : gm ≠ gw) (hoi : go ≠ gi)
    (hM : 0 ≤ M ∧ M < 9223372036854775808) (hL : L.length + n ≤ 140737488355328) (hfit : (n : Int) ≤ M - L.length) :
    Calls Try.prog 39 #[.int .i64 n, .pointer (some ⟨go, 0, none⟩), .pointer (some ⟨gm, 0, none⟩), .pointer (some ⟨gb, 0, none⟩), .pointer (some ⟨gw, 0, none⟩), .pointer (some ⟨gi, 0, none⟩)] w
      fun e w' => e = .returned (.tuple #[]) ∧ ∃ vb', Var w' gb 23 vb' ∧ Var w' gw 3 (.int .i64 L.length) ∧ Var w' gi 4 (.bool true) ∧ w'.ownsRow base 5 1 vb' (L ++ List.replicate n 0).length (nums .u8 (L ++ List.replicate n 0)) ∧
        Rest w w' (fun k => k = gb ∨ k = gw ∨ k = gi ∨ some k = vb.ownBlock) ∧ (vb'.ownBlock = vb.ownBlock ∨ ∃ k, vb'.ownBlock = some k ∧ w.heap.size ≤ k) := by
  obtain ⟨A, c, rfl⟩ := own_slice hown
  have c1 := ho.cell
  have c2 := hm.cell
  have c3 := hb.cell
  have f1 := hw.frozen
  have hwi : gw ≠ gi := hw.ne hi (by decide)
  have hbw : gb ≠ gw := hb.ne hw (by decide)
  have hbi : gb ≠ gi := hb.ne hi (by decide)
  have hi1 : Var (w.setCell ⟨gw, 0, none⟩ (.int .i64 L.length)) gi 4 v2 := hi.far (Ne.symm hwi) _
  have f2 := hi1.frozen
  have c5 := hw.cell
  have c6 := hi1.cell
  have wr : IntKind.i64.wrap (M - (L.length : Int)) = M - (L.length : Int) := by rw [IntKind.wrap_i64]; omega
  have p1 : decide ((n : Int) < (0 : Int)) = false := decide_eq_false (by omega)
  have p2 : decide (M - (L.length : Int) < (n : Int)) = false := decide_eq_false (by omega)
  obtain ⟨w2, hw2⟩ : ∃ w2, (w.setCell ⟨gw, 0, none⟩ (.int .i64 L.length)).setCell ⟨gi, 0, none⟩ (.bool true) = w2 := ⟨_, rfl⟩
  have hi2 : Var w2 gi 4 (.bool true) := by rw [← hw2]; exact hi1.set _
  have hg2 : Var w2 gw 3 (.int .i64 L.length) := by rw [← hw2]; exact (hw.set _).far hwi _
  have hb2 : Var w2 gb 23 (.slice A L.length c) := by rw [← hw2]; exact (hb.far hbw _).far hbi _
  have ho2 : w2.ownsRow base 5 1 (.slice A L.length c) L.length (nums .u8 L) := by
    rw [← hw2]
    exact own_setCell (p := ⟨gi, 0, none⟩) (own_setCell (p := ⟨gw, 0, none⟩) hown (hw.own hown (by decide)) _) (hi1.own (own_setCell (p := ⟨gw, 0, none⟩) hown (hw.own hown (by decide)) _) (by decide)) _
  have hr2 : Rest w w2 (fun k => k = gw ∨ k = gi) := by
    rw [← hw2]
    refine ⟨rfl, rfl, rfl, by simp, fun k _ hk => ?_⟩
    rw [Below.heap_setCell _ ⟨gi, 0, none⟩ _ k (fun e => hk (.inr e)), Below.heap_setCell _ ⟨gw, 0, none⟩ _ k (fun e => hk (.inl e))]
  have HI2 := Aside0.mk hi2
  have HG2 := Aside0.mk hg2
  have HB2 := Aside0.mk hb2
  have HO2 := Aside0.mk ho2
  have HR2 := Aside0.mk hr2
  have HBL := Aside0.mk (Nat.le_trans hbase hr2.size)
  have HL := Aside0.mk hL
  have HNE := Aside0.mk (And.intro hbw hbi)
  clear ho hm hb hw hi hown hfit hi1 hi2 hg2 hb2 ho2 hr2 hbase hL hmw hoi hwi hbw hbi
  go_enter Try.func39, Try.ntmps39
  go_upto_region 4 with (fail)
  clear c1 c2 c3 c5 c6 f1 f2 hw2
  have c4 := HB2.out.cell
  go_wp2_with (first
    | (at_builtin; refine Kd.R_append_zeros (Kd.int .u8) (w0 := w2) base rfl (.tmp 20) (.tmp 21) 23 3 5 (.int .u8 0) 1 rfl Try.underlying23 Try.underlying3 info5 rfl (by decide) (by omega) (.slice A L.length c) L 0 (n : Int) (fun _ => True) rfl rfl rfl (fun _ _ => trivial)
        (Kd.R_of_own (enc := Value.int .u8) (h1 := fun _ => rfl) HO2.out (fun _ _ => trivial)) (Int.natCast_nonneg _) (Below.refl base w2) HBL.out (by have := HL.out; simpa using this) ?_
       intro v1 w1 ho hb hg hat
       rw [Int.toNat_natCast] at ho
       obtain ⟨A1, k1, rfl⟩ := own_slice (Kd.own_of_R ho)
       have HO := Aside0.mk (Kd.own_of_R ho)
       have HG := Aside0.mk hg
       have HAT := Aside0.mk hat
       have hz : Var w1 gb 23 (.slice A L.length c) := blk_grown HB2.out hg (HB2.out.own HO2.out (by decide))
       have z0 := hz.cell
       have zf := hz.frozen
       have HZ := Aside0.mk hz
       clear hz ho hb hg hat))
  go_end0
  have hlen : (L ++ List.replicate n 0).length = L.length + n := by simp
  rw [hlen] at HO HAT
  have hgb : Var w1 gb 23 (.slice A L.length c) := HZ.out
  refine ⟨rfl, .slice A1 (L.length + n) k1, hgb.set _, ?_, ?_, ?_, ?_, ?_⟩
  · exact Var.far (show Var w1 gw 3 _ from blk_grown HG2.out HG.out (HG2.out.own HO2.out (by decide))) (Ne.symm HNE.out.1) _
  · exact Var.far (show Var w1 gi 4 _ from blk_grown HI2.out HG.out (HI2.out.own HO2.out (by decide))) (Ne.symm HNE.out.2) _
  · rw [hlen]
    exact own_setCell (p := ⟨gb, 0, none⟩) HO.out (hgb.own HO.out (by decide)) _
  · have h1 := HR2.out
    have h2 := HG.out
    refine ⟨h2.os.trans h1.os, h2.tape.trans h1.tape, h2.output.trans h1.output, Nat.le_trans h1.size (Nat.le_trans h2.size (by simp)), fun k hk hx => ?_⟩
    rw [Below.heap_setCell w1 ⟨gb, 0, none⟩ _ k (fun e => hx (.inl e)), h2.block k (Nat.lt_of_lt_of_le hk h1.size) (fun e => hx (.inr (.inr (.inr e)))), h1.block k hk (fun e => hx (.inr (e.elim .inl (fun e => .inr (.inl e)))))]
  · rcases HAT.out with e | ⟨b, e, hb⟩
    · exact .inl e
    · exact .inr ⟨b, e, Nat.le_trans HR2.out.size hb⟩
end Go.Proofs.Ytgabfoafchnpiaa.Hand
