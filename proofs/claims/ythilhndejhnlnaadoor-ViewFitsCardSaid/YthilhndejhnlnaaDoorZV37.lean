/- Texts joined: Plan0. -/
import Derived.Test.YthilhndejhnlnaaDoorZV16
import Derived.Test.YthilhndejhnlnaaDoorZV32
import Derived.Test.YthilhndejhnlnaaDoorZV36
section
/- A plan as the law's parameter: its data, opened. -/
namespace Go.Proofs.YthilhndejhnlnaaDoor.Hand
open Go.RowKit Go.Proofs.YthilhndejhnlnaaDoor.QAll Go.Proofs.YthilhndejhnlnaaDoorW.PrintWords Go.Proofs.YthilhndejhnlnaaDoorW.PrintLast Go.Proofs.YthilhndejhnlnaaDoorW.PrintMore Go.Proofs.YthilhndejhnlnaaDoor.Mk
set_option linter.unusedVariables false
abbrev Plan : Type := List Int × List (List S61) × Int × Bool
abbrev KPlan : Kd Plan := Kd.pair (Kd.slice 5 (Kd.int .u8)) (Kd.pair (Kd.slice 59 (Kd.slice 61 k61)) (Kd.pair (Kd.int .u8) Kd.bool))
abbrev wf64 (x : S61) : Prop := (Lit.int .u8 x.f0).wf = true ∧ (Lit.int .u8 x.f1).wf = true ∧ (Lit.int .u8 x.f2).wf = true ∧ (Lit.int .u8 x.f3).wf = true ∧ (Lit.int .u64 x.f4).wf = true
abbrev wfPlan (p : Plan) : Prop := (p.1.length ≤ maxLen ∧ ∀ x ∈ p.1, (Lit.int .u8 x).wf = true) ∧ (p.2.1.length ≤ maxLen ∧ ∀ l ∈ p.2.1, l.length ≤ maxLen ∧ ∀ x ∈ l, wf64 x) ∧ (Lit.int .u8 p.2.2.1).wf = true ∧ True
set_option maxRecDepth 100000 in
theorem opens64 : Opn.Opens Tryd.prog 61 k61 wf64 :=
  Opn.opens_iso (wf := fun x : Int × Int × Int × Int × Int => (Lit.int .u8 x.1).wf = true ∧ (Lit.int .u8 x.2.1).wf = true ∧ (Lit.int .u8 x.2.2.1).wf = true ∧ (Lit.int .u8 x.2.2.2.1).wf = true ∧ (Lit.int .u64 x.2.2.2.2).wf = true) (fun x : S61 => (x.f0, x.f1, x.f2, x.f3, x.f4)) (fun p => ⟨p.1, p.2.1, p.2.2.1, p.2.2.2.1, p.2.2.2.2⟩) (fun _ => rfl)
    (Opn.opens_struct Tryd.underlying61 (by kernel_rfl) (Opn.fields_cons rfl (by kernel_rfl) (Opn.opens_int Tryd.underlying5) (Opn.fields_cons rfl (by kernel_rfl) (Opn.opens_int Tryd.underlying5) (Opn.fields_cons rfl (by kernel_rfl) (Opn.opens_int Tryd.underlying5) (Opn.fields_cons rfl (by kernel_rfl) (Opn.opens_int Tryd.underlying5) (Opn.fields_last rfl (by kernel_rfl) (Opn.opens_int Tryd.underlying26)))))))
theorem opensB : Opn.Opens Tryd.prog 22 (Kd.slice 5 (Kd.int .u8)) (fun l => l.length ≤ maxLen ∧ ∀ x ∈ l, (Lit.int .u8 x).wf = true) := Opn.opens_slice Tryd.underlying22 (by kernel_rfl) (Opn.opens_int Tryd.underlying5)
set_option maxRecDepth 100000 in
theorem opensPlan : Opn.Opens Tryd.prog 25 KPlan wfPlan := by
  have h := Opn.opens_struct (d := KPlan) Tryd.underlying25 (by kernel_rfl) (Opn.fields_cons rfl (by kernel_rfl) opensB (Opn.fields_cons rfl (by kernel_rfl) (Opn.opens_slice Tryd.underlying23 (by kernel_rfl) (Opn.opens_slice Tryd.underlying59 (by kernel_rfl) opens64)) (Opn.fields_cons rfl (by kernel_rfl) (Opn.opens_int Tryd.underlying5) (Opn.fields_last rfl (by kernel_rfl) (Opn.opens_bool Tryd.underlying4)))))
  exact h
theorem plan_in {cs : Array Value} {p : Plan} {w : World} (h : KPlan.K w p (Value.agg cs).cells.toList) : ∃ A0 z0 A1 z1, cs = #[.slice A0 p.1.length z0, .slice A1 p.2.1.length z1, .int .u8 p.2.2.1, .bool p.2.2.2] ∧ Kd.C (Kd.int .u8) w A0 p.1.length p.1 ∧ p.1.length ≤ z0 ∧ Kd.C (Kd.slice 61 k61) w A1 p.2.1.length p.2.1 ∧ p.2.1.length ≤ z1 := by
  obtain ⟨_, _, e, ⟨A0, z0, rfl, l0, k0⟩, _, _, rfl, ⟨A1, z1, rfl, l1, k1⟩, _, _, rfl, e2, e3⟩ := h
  have e2' : _ = [Value.int .u8 p.2.2.1] := e2
  have e3' : _ = [Value.bool p.2.2.2] := e3
  subst e2' e3'
  exact ⟨A0, z0, A1, z1, by simpa [Value.cells, ← Array.toList_inj] using e, k0, l0, k1, l1⟩
theorem bok_of {x : S61} (h : wf64 x) : BOk x := ⟨by have := U.wf_u8 h.1; omega, by have := U.wf_u8 h.2.1; omega, by have := U.wf_u8 h.2.2.1; omega, by have := U.wf_u8 h.2.2.2.1; omega, by have := U.wf_u64 h.2.2.2.2; omega⟩
end Go.Proofs.YthilhndejhnlnaaDoor.Hand
end
