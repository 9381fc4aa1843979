/- The arena of layer 2: what its calls do, told of the bytes that it holds. -/
import Derived.Test.YtgabfoafchnpiaaOwn
import Derived.Test.YtgabfoafchnpiaaQAllx5
import Derived.Lib.SliceRun
namespace Go.Proofs.Ytgabfoafchnpiaa.Hand
open Go.RowKit Go.Proofs.Ytgabfoafchnpiaa.QAll Go.Proofs.YtgabfoafchnpiaaW.PrintWords Go.Proofs.YtgabfoafchnpiaaW.PrintLast Go.Proofs.YtgabfoafchnpiaaW.PrintMore Go.Proofs.Ytgabfoafchnpiaa.Nums
set_option linter.unusedVariables false
set_option linter.unusedSimpArgs false

/-- An arena at block g: v is its bytes' slice, l the bytes. -/
def Arn (base : Nat) (W : World) (g : Nat) (v : Value) (l : List Int) (most : Int) (over : Bool) : Prop :=
  W.heap[g]? = some (.cells #[v, .int .i64 most, .bool over] 69 (0, 0)) ∧ base ≤ g ∧ W.ownsRow base 5 1 v l.length (nums .u8 l)
/-- What a call on it leaves alone. -/
structure Stays (w w' : World) (g : Nat) (v v' : Value) : Prop where
  os : w'.os = w.os
  tape : w'.tape = w.tape
  output : w'.output = w.output
  size : w.heap.size ≤ w'.heap.size
  block : ∀ k, k < w.heap.size → k ≠ g → some k ≠ v.ownBlock → w'.heap[k]? = w.heap[k]?
  own : v'.ownBlock = v.ownBlock ∨ ∃ k, v'.ownBlock = some k ∧ w.heap.size ≤ k

theorem Stays.of_drawn {w w' : World} (h : Drawn0 w w') (g : Nat) (v : Value) : Stays w w' g v v := by
  obtain ⟨n, rfl⟩ := h.out
  exact ⟨rfl, rfl, rfl, Nat.le_refl _, fun _ _ _ _ => rfl, .inl rfl⟩
theorem Stays.refl (w : World) (g : Nat) (v : Value) : Stays w w g v v := ⟨rfl, rfl, rfl, Nat.le_refl _, fun _ _ _ _ => rfl, .inl rfl⟩
theorem Stays.trans {w w1 w2 : World} {g : Nat} {v v1 v2 : Value} (h : Stays w w1 g v v1) (k : Stays w1 w2 g v1 v2) : Stays w w2 g v v2 := by
  refine ⟨k.os.trans h.os, k.tape.trans h.tape, k.output.trans h.output, Nat.le_trans h.size k.size, fun j hj hg hv => ?_, ?_⟩
  · rw [k.block j (Nat.lt_of_lt_of_le hj h.size) hg ?_, h.block j hj hg hv]
    rcases h.own with e | ⟨b, e, hb⟩
    · rw [e]; exact hv
    · rw [e]; intro he; injection he with he; omega
  · rcases k.own with e | ⟨b, e, hb⟩
    · rcases h.own with e' | ⟨b, e', hb⟩
      · exact .inl (e.trans e')
      · exact .inr ⟨b, e.trans e', hb⟩
    · exact .inr ⟨b, e, Nat.le_trans h.size hb⟩
theorem Arn.lt {base : Nat} {W : World} {g : Nat} {v : Value} {l : List Int} {most : Int} {over : Bool} (h : Arn base W g v l most over) : g < W.heap.size := blk_lt h.1
theorem Arn.below {base : Nat} {w w' : World} {g : Nat} {v v' : Value} {l : List Int} {most : Int} {over : Bool} (h : Arn base w g v l most over) (hb : base ≤ w.heap.size) (hs : Stays w w' g v v') : Below base w w' :=
  ⟨hs.os, hs.tape, hs.output, hs.size, fun k hk => hs.block k (by omega) (by have := h.2.1; omega) (fun e => by have := own_base h.2.2 k e.symm; omega)⟩
theorem Arn.drewN {base : Nat} {W : World} {g : Nat} {v : Value} {l : List Int} {most : Int} {over : Bool} (h : Arn base W g v l most over) (n : Nat) : Arn base (W.drewN n) g v l most over := h
theorem Arn.kept {base : Nat} {W W' : World} {g : Nat} {v : Value} {l : List Int} {most : Int} {over : Bool} (h : Arn base W g v l most over) (hb : Below W.heap.size W W') : Arn base W' g v l most over :=
  ⟨(hb.block g h.lt).trans h.1, h.2.1, pw_own_below h.2.2 hb⟩

section cells
variable {base : Nat} {W : World} {g : Nat} {v : Value} {l : List Int} {most : Int} {over : Bool}
theorem Arn.c0 (h : Arn base W g v l most over) : W.cell? ⟨g, 0, none⟩ = some v := (blk_cell h.1 0).trans rfl
theorem Arn.c1 (h : Arn base W g v l most over) : W.cell? ⟨g, 1, none⟩ = some (.int .i64 most) := (blk_cell h.1 1).trans rfl
theorem Arn.c2 (h : Arn base W g v l most over) : W.cell? ⟨g, 2, none⟩ = some (.bool over) := (blk_cell h.1 2).trans rfl
theorem Arn.ne (h : Arn base W g v l most over) : some g ≠ v.ownBlock := own_ne h.2.2 h.1 (by decide)
theorem Arn.slice (h : Arn base W g v l most over) : ∃ A c, v = .slice A l.length c := own_slice h.2.2
end cells

set_option maxHeartbeats 800000 in
theorem room_nil (n : Int) (w : World) : Calls Try.prog 13 #[.pointer none, .int .i64 n] w fun e w' => e = .returned (.tuple #[.int .i64 0, .bool false]) ∧ w = w' := by
  go_enter Try.func13, Try.ntmps13
  go_wp2
  go_ret2
  exact ⟨rfl, rfl⟩
set_option maxHeartbeats 800000 in
theorem room_over {base : Nat} {g : Nat} {v : Value} {l : List Int} {most : Int} (n : Int) (w : World) (h : Arn base w g v l most true) :
    Calls Try.prog 13 #[.pointer (some ⟨g, 0, none⟩), .int .i64 n] w fun e w' => e = .returned (.tuple #[.int .i64 0, .bool false]) ∧ w = w' := by
  have c2 := h.c2
  clear h
  go_enter Try.func13, Try.ntmps13
  go_wp2
  go_ret2
  exact ⟨rfl, rfl⟩
set_option maxHeartbeats 1600000 in
theorem room_no {base : Nat} {g : Nat} {v : Value} {l : List Int} {most : Int} (n : Int) (w : World) (h : Arn base w g v l most false)
    (hN : wire_Next.f 2 (l.length : Int) n most = some (0, false)) :
    Calls Try.prog 13 #[.pointer (some ⟨g, 0, none⟩), .int .i64 n] w fun e w' => e = .returned (.tuple #[.int .i64 0, .bool false]) ∧ Arn base w' g v l most true ∧ Stays w w' g v v := by
  obtain ⟨A, c, rfl⟩ := h.slice
  have c0 := h.c0
  have c1 := h.c1
  have c2 := h.c2
  have f2 := blk_frozen h.1 2
  have H := Aside0.mk h
  have HN := Aside0.mk hN
  clear h hN
  go_enter Try.func13, Try.ntmps13
  go_wp2_with (go_at_call 32; (with_reducible refine (wire_Next.calls 2 _ _ _ _ _ _ HN.out).mono ?_); rintro e w2 ⟨rfl, ⟨nd, rfl⟩⟩)
  go_ret2
  refine ⟨rfl, ⟨?_, H.out.2.1, ?_⟩, ?_⟩
  · have := blk_set (w := w.drewN nd) H.out.1 2 (.bool true)
    exact this
  · exact own_setCell (w := w.drewN nd) H.out.2.2 (p := ⟨g, 2, none⟩) H.out.ne _
  · exact ⟨rfl, rfl, rfl, by first | exact Nat.le_refl _ | simp, fun k _ hk _ => Below.heap_setCell (w.drewN nd) ⟨g, 2, none⟩ _ k hk, .inl rfl⟩
theorem own_eq_of_blocks {W W' : World} {base : Nat} {v : Value} {n : Nat} {xs : List Value} (h : W.ownsRow base 5 1 v n xs) (hk : ∀ k, v.ownBlock = some k → W'.heap[k]? = W.heap[k]?) : W'.ownsRow base 5 1 v n xs := by
  rcases h with ⟨h1, h2 | ⟨g, cap, cur, rfl, hb, hh, hr⟩⟩
  · exact ⟨h1, .inl h2⟩
  · exact ⟨h1, .inr ⟨g, cap, cur, rfl, hb, (hk g rfl).trans hh, hr⟩⟩

set_option maxHeartbeats 1600000 in
theorem room_yes {base : Nat} {g : Nat} {v : Value} {l : List Int} {most : Int} (n : Nat) (w : World) (h : Arn base w g v l most false) (hbase : base ≤ w.heap.size)
    (hlim : l.length + n ≤ 140737488355328) (hN : wire_Next.f 2 (l.length : Int) (n : Int) most = some ((l.length : Int) + (n : Int), true)) :
    Calls Try.prog 13 #[.pointer (some ⟨g, 0, none⟩), .int .i64 n] w fun e w' => e = .returned (.tuple #[.int .i64 l.length, .bool true]) ∧ ∃ v', Arn base w' g v' (l ++ List.replicate n 0) most false ∧ Stays w w' g v v' := by
  obtain ⟨A, c, rfl⟩ := h.slice
  have c0 := h.c0
  have c1 := h.c1
  have c2 := h.c2
  have f0 := blk_frozen h.1 0
  have H := Aside0.mk h
  have HN := Aside0.mk hN
  have HB := Aside0.mk hbase
  have HL := Aside0.mk hlim
  clear h hN hbase hlim
  go_enter Try.func13, Try.ntmps13
  go_wp2_with (first
    | (go_at_call 32; (with_reducible refine (wire_Next.calls 2 _ _ _ _ _ _ HN.out).mono ?_); rintro e w2 ⟨rfl, ⟨nd, rfl⟩⟩)
    | (at_builtin; refine Kd.R_append_zeros (Kd.int .u8) (w0 := w) base rfl (.tmp 41) (.tmp 42) 23 3 5 (.int .u8 0) 1 rfl Try.underlying23 Try.underlying3 info5 rfl (by decide) (by omega) (.slice A l.length c) l 0 (n : Int) (fun _ => True) rfl rfl rfl (fun _ _ => trivial)
        (Kd.R_of_own (enc := Value.int .u8) (h1 := fun _ => rfl) H.out.2.2 (fun _ _ => trivial)) (Int.natCast_nonneg _) (pw_below_drewN (Below.refl base w) _) HB.out (by have := HL.out; simpa using this) ?_
       intro v1 w1 ho hb hg hat
       rw [Int.toNat_natCast] at ho
       obtain ⟨A1, k1, rfl⟩ := own_slice (Kd.own_of_R ho)
       have HO := Aside0.mk (Kd.own_of_R ho)
       have HG := Aside0.mk hg
       have HAT := Aside0.mk hat
       have hz : w1.heap[g]? = some (.cells #[.slice A l.length c, .int .i64 most, .bool false] 69 (0, 0)) := blk_grown (w := w.drewN nd) H.out.1 hg H.out.ne
       have z0 : w1.cell? ⟨g, 0, none⟩ = some (.slice A l.length c) := (blk_cell hz 0).trans rfl
       have zf := blk_frozen hz 0
       have HZ := Aside0.mk hz
       clear hz ho hb hg hat))
  go_ret2
  have hlen : (l ++ List.replicate n 0).length = l.length + n := by simp
  rw [hlen] at HO HAT
  refine ⟨rfl, .slice A1 (l.length + n) k1, ⟨blk_set HZ.out 0 _, H.out.2.1, ?_⟩, ?_⟩
  · rw [hlen]
    refine own_setCell (p := ⟨g, 0, none⟩) (by exact HO.out) ?_ _
    intro he
    rcases HAT.out with e | ⟨b, e, hb⟩
    · exact H.out.ne (by rw [he, e])
    · rw [e] at he; injection he with he; have he' : g = b := he; have hlt := H.out.lt; have hb' : w.heap.size ≤ b := hb; omega
  · refine ⟨HG.out.os, HG.out.tape, HG.out.output, Nat.le_trans HG.out.size (by first | exact Nat.le_refl _ | simp), fun k hk hg hv => ?_, ?_⟩
    · exact (Below.heap_setCell w1 ⟨g, 0, none⟩ _ k hg).trans (HG.out.block k hk hv)
    · rcases HAT.out with e | ⟨b, e, hb⟩
      · exact .inl e
      · exact .inr ⟨b, e, hb⟩

set_option maxHeartbeats 800000 in
theorem len_nil (w : World) : Calls Try.prog 17 #[.pointer none] w fun e w' => e = .returned (.int .i64 0) ∧ w = w' := by
  go_enter Try.func17, Try.ntmps17
  go_wp2
  go_ret
  exact ⟨rfl, rfl⟩
set_option maxHeartbeats 800000 in
theorem len_some {base : Nat} {g : Nat} {v : Value} {l : List Int} {most : Int} {over : Bool} (w : World) (h : Arn base w g v l most over) :
    Calls Try.prog 17 #[.pointer (some ⟨g, 0, none⟩)] w fun e w' => e = .returned (.int .i64 l.length) ∧ w = w' := by
  obtain ⟨A, c, rfl⟩ := h.slice
  have c0 := h.c0
  clear h
  go_enter Try.func17, Try.ntmps17
  go_wp2
  go_ret
  exact ⟨rfl, rfl⟩
set_option maxHeartbeats 800000 in
theorem over_nil (w : World) : Calls Try.prog 18 #[.pointer none] w fun e w' => e = .returned (.bool false) ∧ w = w' := by
  go_enter Try.func18, Try.ntmps18
  go_wp2
  go_ret
  exact ⟨rfl, rfl⟩
set_option maxHeartbeats 800000 in
theorem over_some {base : Nat} {g : Nat} {v : Value} {l : List Int} {most : Int} {over : Bool} (w : World) (h : Arn base w g v l most over) :
    Calls Try.prog 18 #[.pointer (some ⟨g, 0, none⟩)] w fun e w' => e = .returned (.bool over) ∧ w = w' := by
  have c2 := h.c2
  clear h
  go_enter Try.func18, Try.ntmps18
  go_wp2
  go_ret
  exact ⟨rfl, rfl⟩

-- A clone of bytes: new memory (nil of nil).
set_option maxHeartbeats 1600000 in
theorem clone_any (A : Option Addr) (c : Nat) (l : List Int) (w : World) (hr : Kd.C (Kd.int .u8) w A l.length l) (hlim : l.length ≤ 140737488355328) :
    Calls Try.prog 45 #[.slice A l.length c] w fun e w' => ∃ (A' : Option Addr) (c' : Nat), e = .returned (.slice A' l.length c') ∧ w'.ownsRow w.heap.size 5 1 (.slice A' l.length c') l.length (nums .u8 l) ∧ Below w.heap.size w w' := by
  have HR := Aside0.mk hr
  have HL := Aside0.mk hlim
  have hlen := hr.1
  have q23 : ∀ (w : World) (a : Option Addr) (n c n' c' : Nat), (binOp .eql 23 (.slice a n c) (.slice none n' c')).run Try.prog w = .ok (.bool a.isNone) w := fun w a n c n' c' => Lib.run_eql_slice_nil w _ _ a n c n' c' Try.underlying23
  rcases A with _ | ad
  · have h0 : l = [] := by
      by_cases hp : 0 < l.length
      · obtain ⟨ad, hA, _⟩ := hr.2.2 hp; cases hA
      · exact List.eq_nil_of_length_eq_zero (by omega)
    subst h0
    clear hr hlim
    go_enter Try.func45, Try.ntmps45
    go_wp2
    go_ret
    exact ⟨none, 0, rfl, own_nil _ _ _ _, Below.refl _ _⟩
  · clear hr hlim hlen
    go_enter Try.func45, Try.ntmps45
    go_wp2_with (first
      | ((with_reducible refine gate_dst (N := 5) rfl ?_); refine Kd.R_lit (Kd.int .u8) _ 5 ?hg (N := 5) ?hd (xs := ([] : List Int)) (inner := []) (ok := fun _ => True) (okp := fun _ => True) ?hr ?hp (fun _ hk => hk) trivial (Below.refl _ _) (Nat.le_refl _) (by simp) ?_; (case hd => rfl); (case hg => rfl); (case hr => first | (go_simp; done) | (go_simp; rfl)); (case hp => exact (Reps.none _ _)); intro v5 w5 ho_ hb_ hg_ hnew_; clear hg_ hnew_; have HO5 := Aside0.mk ho_; have HB5 := Aside0.mk hb_; clear ho_ hb_)
      | ((with_reducible refine gate_builtin (b := .append) (xs := #[.tmp 5, .tmp 6]) rfl ?_); at_builtin; refine Kd.R_append_rows (Kd.int .u8) (w0 := w) w.heap.size rfl (.tmp 5) (.tmp 6) 23 5 (.int .u8 0) 1 rfl Try.underlying23 info5 rfl (by decide) (by omega) v5 [] l _ _ _ (fun _ => True) (fun _ => False) rfl rfl HO5.out (Kd.C_below HR.out HB5.out) (fun _ _ h => h) (fun _ h => h.elim) (fun _ _ => trivial) HB5.out HB5.out.size (by have := HL.out; simp; omega) ?_; intro v_ w6 ho_ hb_ hg_ hat_; clear hg_ hat_; rw [List.nil_append] at ho_; obtain ⟨A2, c2, rfl⟩ := Kd.R_slice ho_; have HO6 := Aside0.mk ho_; have HB6 := Aside0.mk hb_; clear ho_ hb_))
    go_ret
    exact ⟨A2, c2, rfl, Kd.own_of_R HO6.out, HB6.out⟩

set_option maxHeartbeats 800000 in
theorem bytes_nil (w : World) : Calls Try.prog 16 #[.pointer none] w fun e w' => e = .returned (.tuple #[.slice none 0 0, .bool false]) ∧ w = w' := by
  go_enter Try.func16, Try.ntmps16
  go_wp2
  go_ret2
  exact ⟨rfl, rfl⟩
set_option maxHeartbeats 800000 in
theorem bytes_over {base : Nat} {g : Nat} {v : Value} {l : List Int} {most : Int} (w : World) (h : Arn base w g v l most true) :
    Calls Try.prog 16 #[.pointer (some ⟨g, 0, none⟩)] w fun e w' => e = .returned (.tuple #[.slice none 0 0, .bool false]) ∧ w = w' := by
  have c2 := h.c2
  clear h
  go_enter Try.func16, Try.ntmps16
  go_wp2
  go_ret2
  exact ⟨rfl, rfl⟩
set_option maxHeartbeats 1600000 in
theorem bytes_some {base : Nat} {g : Nat} {v : Value} {l : List Int} {most : Int} (w : World) (h : Arn base w g v l most false) (hlim : l.length ≤ 140737488355328) :
    Calls Try.prog 16 #[.pointer (some ⟨g, 0, none⟩)] w fun e w' => ∃ (A' : Option Addr) (c' : Nat), e = .returned (.tuple #[.slice A' l.length c', .bool true]) ∧ w'.ownsRow w.heap.size 5 1 (.slice A' l.length c') l.length (nums .u8 l) ∧ Below w.heap.size w w' := by
  obtain ⟨A, c, rfl⟩ := h.slice
  have c0 := h.c0
  have c2 := h.c2
  have HR : Aside0 (Kd.C (Kd.int .u8) w A l.length l) := ⟨Kd.C_of_reads (d := (0 : Int)) (h1 := fun _ => rfl) (own_reads' h.2.2)⟩
  have HL := Aside0.mk hlim
  clear h hlim
  go_enter Try.func16, Try.ntmps16
  go_wp2_with (go_at_call 45; (with_reducible refine (clone_any A c l _ HR.out HL.out).mono ?_); rintro e w2 ⟨A', c', rfl, ho, hb⟩; have HO := Aside0.mk ho; have HB := Aside0.mk hb; clear ho hb)
  go_ret2
  exact ⟨A', c', rfl, HO.out, HB.out⟩

attribute [local go_sem] max2_int min2_int max_two min_two
set_option maxHeartbeats 800000 in
theorem new_arena (most : Int) (h0 : 0 ≤ most) (w : World) :
    Calls Try.prog 21 #[.int .i64 most] w fun e w' => ∃ g, e = .returned (.pointer (some ⟨g, 0, none⟩)) ∧ Arn w.heap.size w' g (.slice none 0 0) [] most false ∧ Below w.heap.size w w' := by
  have hu69 := Try.underlying69
  go_enter Try.func21, Try.ntmps21
  go_wp2
  go_ret
  exact ⟨_, rfl, ⟨by first | exact heap_alloc_new w _ | (have := heap_alloc_new w (.cells #[.slice none 0 0, .int .i64 most, .bool false] 69); simpa using this), Nat.le_refl _, own_nil _ _ _ _⟩, below_alloc (Below.refl _ _) _⟩
end Go.Proofs.Ytgabfoafchnpiaa.Hand
