/- Texts joined: Plan. -/
import Derived.Test.YthilhndejhnlnaaZD18
import Derived.Test.YthilhndejhnlnaaZD35
import Derived.Test.YthilhndejhnlnaaZD36
section
/- A plan as the law's parameter: its data, opened. -/
namespace Go.Proofs.Ythilhndejhnlnaa.Hand
open Go.RowKit Go.Proofs.Ythilhndejhnlnaa.QAll Go.Proofs.YthilhndejhnlnaaW.PrintWords Go.Proofs.YthilhndejhnlnaaW.PrintLast Go.Proofs.YthilhndejhnlnaaW.PrintMore Go.Proofs.Ythilhndejhnlnaa.Mk
set_option linter.unusedVariables false
abbrev Plan : Type := List Int × List (List S64) × Int × Bool
abbrev KPlan : Kd Plan := Kd.pair (Kd.slice 5 (Kd.int .u8)) (Kd.pair (Kd.slice 62 (Kd.slice 64 k64)) (Kd.pair (Kd.int .u8) Kd.bool))
abbrev wf64 (x : S64) : Prop := (Lit.int .u8 x.f0).wf = true ∧ (Lit.int .u8 x.f1).wf = true ∧ (Lit.int .u8 x.f2).wf = true ∧ (Lit.int .u8 x.f3).wf = true ∧ (Lit.int .u64 x.f4).wf = true
abbrev wfPlan (p : Plan) : Prop := (p.1.length ≤ maxLen ∧ ∀ x ∈ p.1, (Lit.int .u8 x).wf = true) ∧ (p.2.1.length ≤ maxLen ∧ ∀ l ∈ p.2.1, l.length ≤ maxLen ∧ ∀ x ∈ l, wf64 x) ∧ (Lit.int .u8 p.2.2.1).wf = true ∧ True
set_option maxRecDepth 100000 in
theorem opens64 : Opn.Opens Try.prog 64 k64 wf64 :=
  Opn.opens_iso (wf := fun x : Int × Int × Int × Int × Int => (Lit.int .u8 x.1).wf = true ∧ (Lit.int .u8 x.2.1).wf = true ∧ (Lit.int .u8 x.2.2.1).wf = true ∧ (Lit.int .u8 x.2.2.2.1).wf = true ∧ (Lit.int .u64 x.2.2.2.2).wf = true) (fun x : S64 => (x.f0, x.f1, x.f2, x.f3, x.f4)) (fun p => ⟨p.1, p.2.1, p.2.2.1, p.2.2.2.1, p.2.2.2.2⟩) (fun _ => rfl)
    (Opn.opens_struct Try.underlying64 (by kernel_rfl) (Opn.fields_cons rfl (by kernel_rfl) (Opn.opens_int Try.underlying5) (Opn.fields_cons rfl (by kernel_rfl) (Opn.opens_int Try.underlying5) (Opn.fields_cons rfl (by kernel_rfl) (Opn.opens_int Try.underlying5) (Opn.fields_cons rfl (by kernel_rfl) (Opn.opens_int Try.underlying5) (Opn.fields_last rfl (by kernel_rfl) (Opn.opens_int Try.underlying26)))))))
theorem opensB : Opn.Opens Try.prog 36 (Kd.slice 5 (Kd.int .u8)) (fun l => l.length ≤ maxLen ∧ ∀ x ∈ l, (Lit.int .u8 x).wf = true) := Opn.opens_slice Try.underlying36 (by kernel_rfl) (Opn.opens_int Try.underlying5)
set_option maxRecDepth 100000 in
theorem opensPlan : Opn.Opens Try.prog 44 KPlan wfPlan := by
  have h := Opn.opens_struct (d := KPlan) Try.underlying44 (by kernel_rfl) (Opn.fields_cons rfl (by kernel_rfl) opensB (Opn.fields_cons rfl (by kernel_rfl) (Opn.opens_slice Try.underlying42 (by kernel_rfl) (Opn.opens_slice Try.underlying62 (by kernel_rfl) opens64)) (Opn.fields_cons rfl (by kernel_rfl) (Opn.opens_int Try.underlying5) (Opn.fields_last rfl (by kernel_rfl) (Opn.opens_bool Try.underlying4)))))
  exact h
theorem plan_in {cs : Array Value} {p : Plan} {w : World} (h : KPlan.K w p (Value.agg cs).cells.toList) : ∃ A0 z0 A1 z1, cs = #[.slice A0 p.1.length z0, .slice A1 p.2.1.length z1, .int .u8 p.2.2.1, .bool p.2.2.2] ∧ Kd.C (Kd.int .u8) w A0 p.1.length p.1 ∧ p.1.length ≤ z0 ∧ Kd.C (Kd.slice 64 k64) w A1 p.2.1.length p.2.1 ∧ p.2.1.length ≤ z1 := by
  obtain ⟨_, _, e, ⟨A0, z0, rfl, l0, k0⟩, _, _, rfl, ⟨A1, z1, rfl, l1, k1⟩, _, _, rfl, e2, e3⟩ := h
  have e2' : _ = [Value.int .u8 p.2.2.1] := e2
  have e3' : _ = [Value.bool p.2.2.2] := e3
  subst e2' e3'
  exact ⟨A0, z0, A1, z1, by simpa [Value.cells, ← Array.toList_inj] using e, k0, l0, k1, l1⟩
theorem bok_of {x : S64} (h : wf64 x) : BOk x := ⟨by have := U.wf_u8 h.1; omega, by have := U.wf_u8 h.2.1; omega, by have := U.wf_u8 h.2.2.1; omega, by have := U.wf_u8 h.2.2.2.1; omega, by have := U.wf_u64 h.2.2.2.2; omega⟩
end Go.Proofs.Ythilhndejhnlnaa.Hand
end
