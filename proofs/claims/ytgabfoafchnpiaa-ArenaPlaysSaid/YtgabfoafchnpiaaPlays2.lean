/- ArenaPlays: the calls in the middle of a round, each told of both sides. -/
import Derived.Test.YtgabfoafchnpiaaPlays1
import Derived.Test.YtgabfoafchnpiaaWalkWireLoads
namespace Go.Proofs.Ytgabfoafchnpiaa.Hand
open Go.RowKit Go.Proofs.Ytgabfoafchnpiaa.QAll Go.Proofs.YtgabfoafchnpiaaW.PrintWords Go.Proofs.YtgabfoafchnpiaaW.PrintLast Go.Proofs.YtgabfoafchnpiaaW.PrintMore Go.Proofs.Ytgabfoafchnpiaa.Nums
set_option linter.unusedVariables false
set_option linter.unusedSimpArgs false

/-- What a piece more comes to: the bytes, over, where, and whether. -/
def growF (M : Int) (L : List Int) (o : Bool) (n : Int) : List Int × Bool × Int × Bool :=
  if o = true ∨ n < 0 ∨ M - L.length < n then (L, true, 0, false) else (L ++ List.replicate n.toNat 0, false, L.length, true)
theorem growF_no {M : Int} {L : List Int} {o : Bool} {n : Int} (h : o = true ∨ n < 0 ∨ M - L.length < n) : growF M L o n = (L, true, 0, false) := if_pos h
theorem growF_yes {M : Int} {L : List Int} {n : Nat} (h : (n : Int) ≤ M - L.length) : growF M L false (n : Int) = (L ++ List.replicate n 0, false, (L.length : Int), true) := by
  unfold growF
  rw [if_neg (by intro e; rcases e with e | e | e; exact absurd e (by decide); omega; omega)]; rfl
theorem growF_two (M : Int) (L : List Int) (o : Bool) (n : Int) : growF M L o n = (L, true, 0, false) ∨ ∃ m : Nat, n = m ∧ o = false ∧ (m : Int) ≤ M - L.length ∧ growF M L o n = (L ++ List.replicate m 0, false, (L.length : Int), true) := by
  by_cases h : o = true ∨ n < 0 ∨ M - L.length < n
  · exact .inl (growF_no h)
  · have h1 : o = false := by cases o with
      | false => rfl
      | true => exact absurd (.inl rfl) h
    obtain ⟨m, rfl⟩ := Int.eq_ofNat_of_zero_le (show 0 ≤ n by omega)
    subst h1
    have h2 : (m : Int) ≤ M - L.length := by omega
    exact .inr ⟨m, rfl, rfl, h2, growF_yes h2⟩

theorem cut_at (A : Option Addr) (c n i : Nat) (hi : i ≤ n) (W : World) : (Instr.slice 23 (.slice A n c) (some (.int .i64 (i : Int))) none none).run Try.prog W = .ok (.slice (if c = i then A else A.map (·.add i)) (n - i) (c - i)) W := by
  obtain ⟨i0, hinf, _, hsz, _⟩ := info_parts info5
  have hel : Try.prog.elem 23 = 5 := by simp [Program.elem, Try.underlying23]
  have hu : Try.prog.underlying 23 = some (.slice (Try.prog.elem 23)) := by rw [hel]; exact Try.underlying23
  rw [run_slice_l W 23 A n c hu .i64 (i : Int) (Int.natCast_nonneg _) (by omega), hel]
  simp [sizeOf, typeInfo, hinf, hsz, sliced, Result.andThen]

section half
variable {w W W' : World} {g gm gb go gw gi g9 : Nat} {M : Int} {xs : Array Value} {LA : List Int} {oA : Bool} {v : Value} {LB : List Int} {oB : Bool} {vb : Value} {want : Int} {is : Bool}
theorem Half.grown (h : Half w W g gm gb go gw gi g9 M xs LA oA v LB oB vb want is) {n : Nat} {vb' : Value} (hb : Var W' gb 23 vb') (hw : Var W' gw 3 (.int .i64 LB.length)) (hi : Var W' gi 4 (.bool true))
    (ho : W'.ownsRow w.heap.size 5 1 vb' (LB ++ List.replicate n 0).length (nums .u8 (LB ++ List.replicate n 0))) (hr : Rest W W' (fun k => k = gb ∨ k = gw ∨ k = gi ∨ some k = vb.ownBlock))
    (hat : vb'.ownBlock = vb.ownBlock ∨ ∃ k, vb'.ownBlock = some k ∧ W.heap.size ≤ k) : Half w W' g gm gb go gw gi g9 M xs LA oA v (LB ++ List.replicate n 0) oB vb' LB.length true := by
  refine h.step hr hb ((hr.block go h.vo.lt ?_).trans h.vo) hw hi ho hat ?_
  · rintro (e | e | e | e)
    · exact h.vo.ne h.bx (by decide) e
    · exact h.vo.ne h.vw (by decide) e
    · exact h.far.2.1 e
    · exact own_ne h.own h.vo (by decide) e
  · rintro k (e | e | e | e)
    · exact .inl e
    · exact .inr (.inr (.inl e))
    · exact .inr (.inr (.inr (.inl e)))
    · exact .inr (.inr (.inr (.inr e)))
theorem Half.grow (h : Half w W g gm gb go gw gi g9 M xs LA oA v LB oB vb 0 false) (n : Int) (hM : 0 ≤ M ∧ M < 9223372036854775808) (hL : LB.length ≤ 1000000) (hn : n ≤ 5000 ∨ M < n) :
    Calls Try.prog 39 #[.int .i64 n, .pointer (some ⟨go, 0, none⟩), .pointer (some ⟨gm, 0, none⟩), .pointer (some ⟨gb, 0, none⟩), .pointer (some ⟨gw, 0, none⟩), .pointer (some ⟨gi, 0, none⟩)] W
      fun e w' => e = .returned (.tuple #[]) ∧ ∃ vb', Half w w' g gm gb go gw gi g9 M xs LA oA v (growF M LB oB n).1 (growF M LB oB n).2.1 vb' (growF M LB oB n).2.2.1 (growF M LB oB n).2.2.2 := by
  rcases growF_two M LB oB n with e | ⟨m, rfl, rfl, hm, e⟩
  · rw [e]
    cases oB with
    | true => exact (grow_over n W go gm gb gw gi h.vo).mono fun e w' ⟨he, hw⟩ => ⟨he, vb, by subst hw; exact h⟩
    | false =>
      have hno : n < 0 ∨ M - LB.length < n := by
        by_cases h1 : n < 0 ∨ M - LB.length < n
        · exact h1
        · obtain ⟨m, rfl⟩ := Int.eq_ofNat_of_zero_le (show 0 ≤ n by omega)
          have h2 := growF_yes (M := M) (L := LB) (n := m) (by omega)
          rw [h2] at e
          injection e with _ e; injection e with e _; exact absurd e (by decide)
      exact (grow_bad n W go gm gb gw gi h.vo h.vm h.bx h.own hM (by omega) hno).mono fun e w' ⟨he, hw⟩ => ⟨he, vb, by subst hw; exact h.over true⟩
  · rw [e]
    exact (grow_ok m W go gm gb gw gi h.vo h.vm h.bx h.vw h.vi h.own h.below.size h.far.1 h.far.2.1 hM (by omega) hm).mono fun e w' ⟨he, vb', hb, hw, hi, ho, hr, hat⟩ => ⟨he, vb', h.grown hb hw hi ho hr hat⟩
theorem next_no {M : Int} {L : List Int} {n : Int} (hM : 0 ≤ M ∧ M < 9223372036854775808) (e : growF M L false n = (L, true, 0, false)) : wire_Next.f 2 (L.length : Int) n M = some (0, false) := by
  have hno : n < 0 ∨ M - L.length < n := by
    by_cases h1 : n < 0 ∨ M - L.length < n
    · exact h1
    · obtain ⟨m, rfl⟩ := Int.eq_ofNat_of_zero_le (show 0 ≤ n by omega)
      have h2 := growF_yes (M := M) (L := L) (n := m) (by omega)
      rw [h2] at e
      injection e with _ e; injection e with e _; exact absurd e (by decide)
  exact next_bad _ _ _ (by omega)
theorem Half.room (h : Half w W g gm gb go gw gi g9 M xs LA oA v LB oB vb want is) (n : Int) (hM : 0 ≤ M ∧ M < 9223372036854775808) (hL : LA.length ≤ 1000000) (hn : n ≤ 5000 ∨ M < n) :
    Calls Try.prog 13 #[.pointer (some ⟨g, 0, none⟩), .int .i64 n] W fun e w' => e = .returned (.tuple #[.int .i64 (growF M LA oA n).2.2.1, .bool (growF M LA oA n).2.2.2]) ∧
      ∃ v', Half w w' g gm gb go gw gi g9 M xs (growF M LA oA n).1 (growF M LA oA n).2.1 v' LB oB vb want is := by
  rcases growF_two M LA oA n with e | ⟨m, rfl, rfl, hm, e⟩
  · rw [e]
    cases oA with
    | true => exact (room_over n W h.arn).mono fun e w' ⟨he, hw⟩ => ⟨he, v, by subst hw; exact h⟩
    | false => exact (room_no n W h.arn (next_no hM e)).mono fun e w' ⟨he, ha, hs⟩ => ⟨he, v, h.arena ha hs⟩
  · rw [e]
    exact (room_yes m W h.arn h.below.size (by omega) (next_good _ _ _ (by omega) (by omega) (by omega) hm hM.2)).mono fun e w' ⟨he, v', ha, hs⟩ => ⟨he, v', h.arena ha hs⟩
theorem Half.put (h : Half w W g gm gb go gw gi g9 M xs LA oA v LB oB vb want is) (A : Option Addr) (c : Nat) (D : List Int) (hr : Kd.C (Kd.int .u8) W A D.length D) (hA : ∀ ad, A = some ad → 0 < D.length → ad.block ≠ g ∧ some ad.block ≠ v.ownBlock)
    (hM : 0 ≤ M ∧ M < 9223372036854775808) (hL : LA.length ≤ 1000000) (hD : D.length ≤ 500) :
    Calls Try.prog 14 #[.pointer (some ⟨g, 0, none⟩), .slice A D.length c] W fun e w' => e = .returned (.tuple #[.int .i64 (growF M LA oA D.length).2.2.1, .bool (growF M LA oA D.length).2.2.2]) ∧
      ∃ v', Half w w' g gm gb go gw gi g9 M xs (if (growF M LA oA D.length).2.2.2 = true then LA ++ D else LA) (growF M LA oA D.length).2.1 v' LB oB vb want is := by
  rcases growF_two M LA oA D.length with e | ⟨m, hmD, rfl, hm, e⟩
  · rw [e]
    cases oA with
    | true => exact (put_over A D.length c W h.arn).mono fun e w' ⟨he, hw⟩ => ⟨he, v, by subst hw; exact h⟩
    | false => exact (put_no A D.length c W h.arn (next_no hM e)).mono fun e w' ⟨he, ha, hs⟩ => ⟨he, v, h.arena ha hs⟩
  · rw [e]
    exact (put_yes A c W h.arn h.below.size hr hA (by omega) (next_good _ _ _ (by omega) (by omega) (by omega) (by omega) hM.2)).mono fun e w' ⟨he, v', ha, hs⟩ => ⟨he, v', h.arena ha hs⟩
theorem Half.num_not (h : Half w W g gm gb go gw gi g9 M xs LA oA v LB oB vb want is) (s n : Int) (hs : sizedB s = false) :
    Calls Try.prog 15 #[.pointer (some ⟨g, 0, none⟩), .int .i64 s, .int .u64 n] W fun e w' => e = .returned (.tuple #[.int .i64 0, .bool false]) ∧ Half w w' g gm gb go gw gi g9 M xs LA oA v LB oB vb want is :=
  (num_unsized g s n W hs).mono fun e w' ⟨he, hd⟩ => ⟨he, h.kept hd.below⟩
theorem Half.num (h : Half w W g gm gb go gw gi g9 M xs LA oA v LB oB vb want is) (s : Nat) (n : Int) (hs : sizedB (s : Int) = true) (hM : 0 ≤ M ∧ M < 9223372036854775808) (hL : LA.length ≤ 1000000) :
    Calls Try.prog 15 #[.pointer (some ⟨g, 0, none⟩), .int .i64 s, .int .u64 n] W fun e w' => e = .returned (.tuple #[.int .i64 (growF M LA oA s).2.2.1, .bool (growF M LA oA s).2.2.2]) ∧
      ∃ v', Half w w' g gm gb go gw gi g9 M xs (if (growF M LA oA s).2.2.2 = true then LA ++ leB n s else LA) (growF M LA oA s).2.1 v' LB oB vb want is := by
  have hs8 := sized_le hs
  rcases growF_two M LA oA s with e | ⟨m, hmD, rfl, hm, e⟩
  · rw [e]
    cases oA with
    | true => exact (num_over s n W h.arn hs).mono fun e w' ⟨he, hd⟩ => ⟨he, v, h.kept hd.below⟩
    | false => exact (num_no s n W h.arn hs (next_no hM e)).mono fun e w' ⟨he, ha, hh⟩ => ⟨he, v, h.arena ha hh⟩
  · rw [e]
    exact (num_yes s n W h.arn h.below hs (by omega) (next_good _ _ _ (by omega) (by omega) (by omega) (by omega) hM.2)).mono fun e w' ⟨he, v', ha, hh⟩ => ⟨he, v', h.arena ha hh⟩
theorem Half.align_not (h : Half w W g gm gb go gw gi g9 M xs LA oA v LB oB vb want is) (q : Int) (hq : q < 1) :
    Calls Try.prog 19 #[.pointer (some ⟨g, 0, none⟩), .int .i64 q] W fun e w' => e = .returned (.bool false) ∧ Half w w' g gm gb go gw gi g9 M xs LA oA v LB oB vb want is :=
  (align_small g q W hq).mono fun e w' ⟨he, hw⟩ => ⟨he, by subst hw; exact h⟩
theorem Half.align (h : Half w W g gm gb go gw gi g9 M xs LA oA v LB oB vb want is) (q : Nat) (hq : 1 ≤ q) (hq2 : q < 9223372036854775808) (hM : 0 ≤ M ∧ M < 9223372036854775808) (hL : LA.length ≤ 1000000) (hn : (gap LA.length q : Int) ≤ 5000 ∨ M < gap LA.length q) :
    Calls Try.prog 19 #[.pointer (some ⟨g, 0, none⟩), .int .i64 q] W fun e w' => e = .returned (.bool (growF M LA oA (gap LA.length q)).2.2.2) ∧
      ∃ v', Half w w' g gm gb go gw gi g9 M xs (growF M LA oA (gap LA.length q)).1 (growF M LA oA (gap LA.length q)).2.1 v' LB oB vb want is := by
  rcases growF_two M LA oA (gap LA.length q) with e | ⟨m, hmD, rfl, hm, e⟩
  · rw [e]
    cases oA with
    | true => exact (align_over q W h.arn hq hq2 (by omega)).mono fun e w' ⟨he, hw⟩ => ⟨he, v, by subst hw; exact h⟩
    | false => exact (align_no q W h.arn hq hq2 (by omega) (next_no hM e)).mono fun e w' ⟨he, ha, hs⟩ => ⟨he, v, h.arena ha hs⟩
  · rw [e]
    obtain rfl : gap LA.length q = m := by omega
    exact (align_yes q W h.arn h.below.size hq hq2 (by omega) (by omega) (next_good _ _ _ (by omega) (by omega) (by omega) (by omega) hM.2)).mono fun e w' ⟨he, v', ha, hs⟩ => ⟨he, v', h.arena ha hs⟩
theorem Half.set_over_ (h : Half w W g gm gb go gw gi g9 M xs LA true v LB oB vb want is) (a s n : Int) :
    Calls Try.prog 20 #[.pointer (some ⟨g, 0, none⟩), .int .i64 a, .int .i64 s, .int .u64 n] W fun e w' => e = .returned (.bool false) ∧ Half w w' g gm gb go gw gi g9 M xs LA true v LB oB vb want is :=
  (set_over a s n W h.arn).mono fun e w' ⟨he, hw⟩ => ⟨he, by subst hw; exact h⟩
theorem Half.set_ (h : Half w W g gm gb go gw gi g9 M xs LA false v LB oB vb want is) (a s n : Int) (hL : LA.length ≤ 1000000) :
    Calls Try.prog 20 #[.pointer (some ⟨g, 0, none⟩), .int .i64 a, .int .i64 s, .int .u64 n] W fun e w' => e = .returned (.bool (storeV LA a s n).1) ∧ Half w w' g gm gb go gw gi g9 M xs (storeV LA a s n).2 false v LB oB vb want is :=
  (set_some a s n W h.arn h.below (by omega)).mono fun e w' ⟨he, ha, hs⟩ => ⟨he, h.arena ha hs⟩
theorem Half.copy {A : Option Addr} {c : Nat} (h : Half w W g gm gb go gw gi g9 M xs LA oA v LB oB (.slice A LB.length c) want is) (i : Nat) (bs : List Int) (hin : i + bs.length ≤ LB.length) (A' : Option Addr) (c' : Nat) (hr : Kd.C (Kd.int .u8) W A' bs.length bs) :
    ∃ W1, (Builtin.copy_ #[23, 23] 3 #[.slice (if c = i then A else A.map (·.add i)) (LB.length - i) (c - i), .slice A' bs.length c']).run Try.prog W = .ok (.int .i64 (bs.length : Int)) W1 ∧
      Half w W1 g gm gb go gw gi g9 M xs LA oA v (put_ LB i bs) oB (.slice A LB.length c) want is := by
  have hinfo : (Try.prog.info? 5).map (·.size) = some 1 := by
    obtain ⟨i0, h0, _, h1, _⟩ := info_parts info5
    rw [h0]; simp [h1]
  rcases Nat.eq_zero_or_pos bs.length with h0 | hp
  · obtain rfl : bs = [] := List.eq_nil_of_length_eq_zero h0
    exact ⟨W, run_copy_none W 23 23 3 5 _ A' (LB.length - i) _ 0 c' Try.underlying23 hinfo (Nat.zero_min _), by rw [put_nil]; exact h⟩
  · obtain ⟨g', cap, cur, hv, hgb, hgl, hgc, hgm, hgh, hcl, hct⟩ := own_open h.own (by omega)
    injection hv with e1 _ e2
    subst e1 e2
    have hgc' : LB.length ≤ c := hgc
    have hne : ¬ (c = i) := by omega
    obtain ⟨W1, h1, h2, h3⟩ := copy_mid h.own i hin A' c' (c - i) (if c = i then some ⟨g', 0, none⟩ else (some (⟨g', 0, none⟩ : Addr)).map (·.add i)) (fun _ => by
      rw [if_neg hne]
      show some (Addr.add _ i) = _
      unfold Addr.add
      split
      · subst_vars; rfl
      · simp) hr
    refine ⟨W1, h1, h.copied rfl ?_ h3⟩
    rw [put_length LB i bs hin]; exact h2
theorem put_len (l : List Int) (n : Nat) (bs : List Int) (h : bs.length = n) : put_ (l ++ List.replicate n 0) l.length bs = l ++ bs := by subst h; exact put_zeros l bs
end half
theorem growF_len {M : Int} {L L7 : List Int} {o o7 b7 : Bool} {n a7 : Int} (hR : growF M L o n = (L7, o7, a7, b7)) (hn : n ≤ 5000 ∨ M < n) : L7.length ≤ L.length + 5000 := by
  rcases growF_two M L o n with e | ⟨m, rfl, rfl, hm, e⟩
  · rw [e] at hR; injection hR with h1 _; subst h1; omega
  · rw [e] at hR; injection hR with h1 _; subst h1
    simp; omega
theorem growF_or {M : Int} {L L7 : List Int} {o o7 b7 : Bool} {n : Nat} {a7 : Int} (hR : growF M L o n = (L7, o7, a7, b7)) : b7 = false ∧ L7 = L ∨ b7 = true ∧ L7 = L ++ List.replicate n 0 ∧ a7 = L.length := by
  rcases growF_two M L o n with e | ⟨m, hm, _, _, e⟩
  · rw [e] at hR; injection hR with h1 h2; injection h2 with _ h2; injection h2 with _ h2
    exact .inl ⟨h2.symm, h1.symm⟩
  · obtain rfl : n = m := by omega
    rw [e] at hR; injection hR with h1 h2; injection h2 with _ h2; injection h2 with h3 h2
    exact .inr ⟨h2.symm, h1.symm, h3.symm⟩
section half2
variable {w W W' : World} {g gm gb go gw gi g9 : Nat} {M : Int} {xs : Array Value} {LA : List Int} {oA : Bool} {v : Value} {LB : List Int} {oB : Bool} {vb : Value} {want : Int} {is : Bool} {L7 : List Int} {o7 b7 : Bool} {n a7 : Int}
theorem Half.grow' (h : Half w W g gm gb go gw gi g9 M xs LA oA v LB oB vb 0 false) (hR : growF M LB oB n = (L7, o7, a7, b7)) (hM : 0 ≤ M ∧ M < 9223372036854775808) (hL : LB.length ≤ 1000000) (hn : n ≤ 5000 ∨ M < n) :
    Calls Try.prog 39 #[.int .i64 n, .pointer (some ⟨go, 0, none⟩), .pointer (some ⟨gm, 0, none⟩), .pointer (some ⟨gb, 0, none⟩), .pointer (some ⟨gw, 0, none⟩), .pointer (some ⟨gi, 0, none⟩)] W
      fun e w' => e = .returned (.tuple #[]) ∧ ∃ vb', Half w w' g gm gb go gw gi g9 M xs LA oA v L7 o7 vb' a7 b7 := by
  have := h.grow n hM hL hn
  rw [hR] at this; exact this
theorem Half.room' (h : Half w W g gm gb go gw gi g9 M xs LA oA v LB oB vb want is) (hR : growF M LA oA n = (L7, o7, a7, b7)) (hM : 0 ≤ M ∧ M < 9223372036854775808) (hL : LA.length ≤ 1000000) (hn : n ≤ 5000 ∨ M < n) :
    Calls Try.prog 13 #[.pointer (some ⟨g, 0, none⟩), .int .i64 n] W fun e w' => e = .returned (.tuple #[.int .i64 a7, .bool b7]) ∧ ∃ v', Half w w' g gm gb go gw gi g9 M xs L7 o7 v' LB oB vb want is := by
  have := h.room n hM hL hn
  rw [hR] at this; exact this
theorem Half.put' (h : Half w W g gm gb go gw gi g9 M xs LA oA v LB oB vb want is) {D : List Int} (hR : growF M LA oA D.length = (L7, o7, a7, b7)) (A : Option Addr) (c : Nat) (hr : Kd.C (Kd.int .u8) W A D.length D) (hA : ∀ ad, A = some ad → 0 < D.length → ad.block ≠ g ∧ some ad.block ≠ v.ownBlock)
    (hM : 0 ≤ M ∧ M < 9223372036854775808) (hL : LA.length ≤ 1000000) (hD : D.length ≤ 500) :
    Calls Try.prog 14 #[.pointer (some ⟨g, 0, none⟩), .slice A D.length c] W fun e w' => e = .returned (.tuple #[.int .i64 a7, .bool b7]) ∧ ∃ v', Half w w' g gm gb go gw gi g9 M xs (if b7 = true then LA ++ D else LA) o7 v' LB oB vb want is := by
  have := h.put A c D hr hA hM hL hD
  rw [hR] at this; exact this
theorem Half.num' (h : Half w W g gm gb go gw gi g9 M xs LA oA v LB oB vb want is) (s : Nat) (x : Int) (hR : growF M LA oA s = (L7, o7, a7, b7)) (hs : sizedB (s : Int) = true) (hM : 0 ≤ M ∧ M < 9223372036854775808) (hL : LA.length ≤ 1000000) :
    Calls Try.prog 15 #[.pointer (some ⟨g, 0, none⟩), .int .i64 s, .int .u64 x] W fun e w' => e = .returned (.tuple #[.int .i64 a7, .bool b7]) ∧ ∃ v', Half w w' g gm gb go gw gi g9 M xs (if b7 = true then LA ++ leB x s else LA) o7 v' LB oB vb want is := by
  have := h.num s x hs hM hL
  rw [hR] at this; exact this
theorem Half.align' (h : Half w W g gm gb go gw gi g9 M xs LA oA v LB oB vb want is) (q : Nat) (hR : growF M LA oA (gap LA.length q) = (L7, o7, a7, b7)) (hq : 1 ≤ q) (hq2 : q < 9223372036854775808) (hM : 0 ≤ M ∧ M < 9223372036854775808) (hL : LA.length ≤ 1000000) (hn : (gap LA.length q : Int) ≤ 5000 ∨ M < gap LA.length q) :
    Calls Try.prog 19 #[.pointer (some ⟨g, 0, none⟩), .int .i64 q] W fun e w' => e = .returned (.bool b7) ∧ ∃ v', Half w w' g gm gb go gw gi g9 M xs L7 o7 v' LB oB vb want is := by
  have := h.align q hq hq2 hM hL hn
  rw [hR] at this; exact this
theorem own_lt {base n k : Nat} {u : Value} {ys : List Value} (h : W.ownsRow base 5 1 u n ys) (hk : u.ownBlock = some k) : k < W.heap.size := by
  rcases h.2 with ⟨e, _⟩ | ⟨b, cap, cur, rfl, _, hh, _⟩
  · rw [e] at hk; simp [Value.ownBlock] at hk
  · have e : b = k := by simpa [Value.ownBlock] using hk
    subst e
    exact (Array.getElem?_eq_some_iff.1 hh).1
/-- What is new memory is no part of the arena. -/
theorem Half.fresh (h : Half w W g gm gb go gw gi g9 M xs LA oA v LB oB vb want is) {A : Option Addr} {n c : Nat} {ys : List Value} (ho : W'.ownsRow W.heap.size 5 1 (.slice A n c) n ys) : ∀ ad, A = some ad → 0 < n → ad.block ≠ g ∧ some ad.block ≠ v.ownBlock := by
  rintro ad rfl hp
  have h1 : W.heap.size ≤ ad.block := own_base ho ad.block (by simp [Value.ownBlock])
  have h2 := h.arn.lt
  refine ⟨by omega, fun e => ?_⟩
  have := own_lt h.arn.2.2 e.symm; omega
theorem Half.at9 (h : Half w W g gm gb go gw gi g9 M xs LA oA v LB oB vb want is) (i : Nat) {u : Value} (hu : xs[i]? = some u) : W.cell? ⟨g9, i, none⟩ = some u := (blk_cell h.x i).trans hu
end half2
end Go.Proofs.Ytgabfoafchnpiaa.Hand
