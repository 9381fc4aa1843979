/- append onto bytes that were made of a string. -/
import Derived.Test.YtonekmigcpgdeaaS20
import Derived.ArgAppend
namespace Go.Proofs.Ytonekmigcpgdeaa.Hand
open Go.RowKit Go.Proofs.Ytonekmigcpgdeaa.QAll Go.Proofs.YtonekmigcpgdeaaW.PrintWords Go.Proofs.YtonekmigcpgdeaaW.PrintLast Go.Proofs.YtonekmigcpgdeaaW.PrintMore Go.Proofs.Ytonekmigcpgdeaa.Runes
set_option linter.unusedVariables false
set_option linter.unusedSimpArgs false
theorem two_setCells (b : Nat) : ∀ (vs : List Value) (o : Nat) (w : World), Two b b w (w.setCells b o vs)
  | [], o, w => Two.refl _ _ _
  | v :: r, o, w => (Two.setg b b o w v).trans (two_setCells b r (o + 1) _)
theorem encs_at (l : List Int) (j : Nat) (u : Value) (h : (encs (Value.int .u8) l)[j]? = some u) : j < l.length ∧ u = .int .u8 (l.getD j 0) := by
  have hj : j < l.length := by
    have := (List.getElem?_eq_some_iff.1 h).1
    simpa [encs] using this
  rw [encs_get (d := (0 : Int)) l j hj] at h
  injection h with h
  exact ⟨hj, h.symm⟩
theorem append_bytes (w : World) (b l : List Int) (hb : ∀ x ∈ b, 0 ≤ x ∧ x < 256) (n : Nat) (S : ByteArray) (ty : TypeId) (hS : strOfNums b = S) (hn : b.length = n) (A : Option Addr) (c : Nat)
    (hl : Kd.C (Kd.int .u8) (Lib.bytesWorld w 5 S) A l.length l) (hm : n + l.length ≤ 1000000) :
    ∃ A' c' W', (Builtin.append_ #[24, 24] ty #[.slice (some ⟨w.heap.size, 0, none⟩) n (grownCap w n 0 5), .slice A l.length c]).run Try.prog (Lib.bytesWorld w 5 S) = .ok (.slice A' (b ++ l).length c') W' ∧
      (b ++ l).length ≤ c' ∧ Kd.C (Kd.int .u8) W' A' (b ++ l).length (b ++ l) ∧ Below w.heap.size w W' := by
  subst hS hn
  obtain ⟨i0, hi, hz0, hz1, hz2⟩ := info_parts info5
  have hcap := grownCap_ge w b.length 0 5
  have hsz : (strOfNums b).size = b.length := strOfNums_size b
  have hCb := C_bytes w b hb (by omega)
  have hnew := Lib.bytesWorld_at_new w 5 (strOfNums b)
  have hcs : (Lib.bytesCells w 5 (strOfNums b)).size = grownCap w b.length 0 5 := by
    have e : (strOfNums b).data.size = b.length := by have := hsz; rwa [ByteArray.size] at this
    unfold Lib.bytesCells
    rw [Array.size_append, Array.size_map, Array.size_replicate, hsz, e]; omega
  obtain ⟨W, hW⟩ : ∃ W, Lib.bytesWorld w 5 (strOfNums b) = W := ⟨_, rfl⟩
  have hBW : Below w.heap.size w W := by rw [← hW]; exact below_bytes w _
  rw [hW] at hl hCb hnew ⊢
  have haa : ∀ j, (⟨w.heap.size, 0, none⟩ : Addr).add j = ⟨w.heap.size, j, none⟩ := by intro j; unfold Addr.add; split <;> simp_all
  have hRb := Kd.reads_of_C (enc := Value.int .u8) (d := (0 : Int)) (h1 := fun _ => rfl) hCb
  have hcb : ∀ j, j < b.length → W.cell? ⟨w.heap.size, j, none⟩ = some (.int .u8 (b.getD j 0)) := by
    intro j hj
    obtain ⟨ad, e, hc⟩ := hRb.2.2 (by omega)
    injection e with e; subst e
    have := hc j hj
    rwa [haa] at this
  have hcell : ∀ j, W.cell? ⟨w.heap.size, j, none⟩ = (Lib.bytesCells w 5 (strOfNums b))[j]? := fun j => cell_of_row W _ j _ _ _ hnew
  cases A with
  | none =>
    have hl0 : l.length = 0 := by
      rcases Nat.eq_zero_or_pos l.length with h | h
      · exact h
      · obtain ⟨ad, e⟩ := addr_of hl h; cases e
    obtain rfl : l = [] := List.eq_nil_of_length_eq_zero hl0
    refine ⟨some ⟨w.heap.size, 0, none⟩, grownCap w b.length 0 5, W, ?_, by simpa using hcap, by simpa using hCb, hBW⟩
    simp [Builtin.append_, run_underlying Try.underlying24, sizeOf, typeInfo, hi, Builtin.lenOf, Builtin.firstCells, hcap, storeCells]
  | some ad =>
    have hRl := Kd.reads_of_C (enc := Value.int .u8) (d := (0 : Int)) (h1 := fun _ => rfl) hl
    have hnews : ∀ j u, (encs (Value.int .u8) l)[j]? = some u → W.cell? (ad.add j) = some u := by
      intro j u hu
      obtain ⟨hj, rfl⟩ := encs_at l j u hu
      obtain ⟨ad', e, hc⟩ := hRl.2.2 (by omega)
      injection e with e; subst e
      exact hc j hj
    have h1 : ∀ u ∈ encs (Value.int .u8) l, u.oneCell' = true := by
      intro u hu
      unfold encs at hu
      obtain ⟨x, _, rfl⟩ := List.mem_map.1 hu
      rfl
    have hln : (encs (Value.int .u8) l).length = l.length := encs_length l
    by_cases hr : b.length + l.length ≤ grownCap w b.length 0 5
    · have hrun := run_append_room_cells (P := Try.prog) W 24 ty 5 i0 Try.underlying24 hi w.heap.size 0 b.length (grownCap w b.length 0 5) ad l.length c (encs (Value.int .u8) l) (by rw [hln, hz1, Nat.mul_one]) hnews h1 hr
        (by
          intro j hj
          rw [hln] at hj
          rw [hz1, hcell, Array.getElem?_eq_getElem (by omega)]; rfl)
        (by
          intro j hj
          rw [hln] at hj
          rw [hz1]
          simp only [World.frozen?, hnew, hcs]
          simp; omega)
      have hT := two_setCells w.heap.size (encs (Value.int .u8) l) (0 + b.length * i0.size) W
      refine ⟨_, _, _, by rw [List.length_append]; exact hrun, by rw [List.length_append]; exact hr, ?_, hT.fresh hBW (Nat.le_refl _) (Nat.le_refl _)⟩
      refine Kd.C_of_reads (enc := Value.int .u8) (d := (0 : Int)) (h1 := fun _ => rfl) ⟨rfl, by rw [List.length_append]; omega, fun _ => ⟨_, rfl, fun j hj => ?_⟩⟩
      rw [haa, hz1]
      by_cases hjb : j < b.length
      · rw [World.cell?_setCells_out _ _ _ _ _ (fun _ _ => Or.inl (by simp; omega)), hcb j hjb]
        rw [List.getD_eq_getElem?_getD, List.getD_eq_getElem?_getD, List.getElem?_append_left hjb]
      · have hin := World.cell?_setCells_in w.heap.size (encs (Value.int .u8) l) (0 + b.length * 1) W (by
          intro j hj
          rw [hln] at hj
          rw [hcell, Array.getElem?_eq_getElem (by omega)]; rfl) (j - b.length) (by rw [hln]; rw [List.length_append] at hj; omega)
        rw [show 0 + b.length * 1 + (j - b.length) = j by omega] at hin
        rw [hin]
        congr 1
        have hj2 : j - b.length < l.length := by rw [List.length_append] at hj; omega
        simp only [encs, List.getElem_map]
        rw [List.getD_eq_getElem?_getD, List.getElem?_append_right (by omega), List.getElem?_eq_getElem hj2]; rfl
    · obtain ⟨v', w', hrun, ho, hg⟩ := run_append_arg_grows (P := Try.prog) W 24 ty 5 i0 (.int .u8 0) 1 1 Try.underlying24 hi hz0 hz1 hz2 rfl (by decide) ⟨w.heap.size, 0, none⟩ b.length (grownCap w b.length 0 5) (encs (Value.int .u8) b) (by rw [encs_length, Nat.mul_one])
        (by
          intro j u hu
          obtain ⟨hj, rfl⟩ := encs_at b j u hu
          rw [haa]; exact hcb j hj) ad l.length c (encs (Value.int .u8) l) (by rw [hln, Nat.mul_one]) hnews (by omega) (by unfold maxLen; omega) (by omega)
      have ho2 : w'.ownsRow W.heap.size 5 1 v' (b ++ l).length (encs (Value.int .u8) (b ++ l)) := by rw [encs_append, List.length_append]; exact ho
      obtain ⟨A', c', rfl, hle⟩ := own_form ho2
      refine ⟨A', c', w', by rw [List.length_append] at hrun ⊢; exact hrun, hle, own_C ho2, hBW.trans (below_from ⟨hg.os, hg.tape, hg.output, hg.size, fun k hk => hg.block k hk (by simp)⟩ hBW.size)⟩
/-- append, where its run is known. -/
theorem wpList_append_run {ops : Array Oper} {rest : List Oper} {o : Oper} {a : Act} {Q : Exit → Act → World → Prop} {W W' : World} (hgd : o.guard = none) (s x : Operand) (t : TypeId)
    (ho : o.op = .call { callee := .builtin .append, args := #[s, x], argTypes := #[t, t] }) (v u v' : Value) (hs : a.eval s = v) (hx : a.eval x = u)
    (hrun : (Builtin.append_ #[t, t] o.type #[v, u]).run Try.prog W = .ok v' W') (h : wpList Try.prog ops Q rest (a.put o.dst v') W') : wpList Try.prog ops Q (o :: rest) a W := by
  refine wpList_plain hgd fun K hK => ?_
  unfold Oper.wp execOp
  simp only [ho, resolve, invoke, builtin, Sem.run_bind, Sem.run_pure, Result.andThen_ok, List.map_toArray, List.map_cons, List.map_nil, hs, hx, hrun]
  exact hK _ _ h
end Go.Proofs.Ytonekmigcpgdeaa.Hand
