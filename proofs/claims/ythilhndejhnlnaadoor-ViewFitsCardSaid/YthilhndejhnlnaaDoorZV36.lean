/- Texts joined: H0. -/
import Derived.Test.YthilhndejhnlnaaDoorZV34
import Derived.Test.YthilhndejhnlnaaDoorZV35
section
/- A plan's schema, a source's value: words for the laws' walks. -/
namespace Go.Proofs.YthilhndejhnlnaaDoor.Hand
open Go.RowKit Go.Proofs.YthilhndejhnlnaaDoor.QAll Go.Proofs.YthilhndejhnlnaaDoorW.PrintWords Go.Proofs.YthilhndejhnlnaaDoorW.PrintLast Go.Proofs.YthilhndejhnlnaaDoorW.PrintMore Go.Proofs.YthilhndejhnlnaaDoor.Mk
set_option linter.unusedVariables false
set_option linter.unusedSimpArgs false
/-- Made, of any plan. -/
theorem made_any (E : List Int) (S : List (List S61)) (Rt : Int) (tr : Bool) (hEb : ∀ x ∈ E, 0 ≤ x ∧ x < 256) (hSb : ∀ l ∈ S, ∀ x ∈ l, BOk x) (hRt : 0 ≤ Rt ∧ Rt < 256) (A0 : Option Addr) (z0 : Nat) (A1 : Option Addr) (z1 : Nat) (w : World)
    (hE : Kd.C (Kd.int .u8) w A0 E.length E) (hEz : E.length ≤ z0) (hS : Kd.C (Kd.slice 61 k61) w A1 S.length S) (hSz : S.length ≤ z1) :
    Calls Tryd.prog 6 #[.agg #[.slice A0 E.length z0, .slice A1 S.length z1, .int .u8 Rt, .bool tr]] w (MPost S.length tr w) := by
  by_cases h : S.length < 1 ∨ 16 < S.length ∨ 8 < E.length
  · exact made_no E S Rt tr A0 z0 A1 z1 w h
  · exact made_yes E S Rt tr hEb hSb hRt A0 z0 A1 z1 w hE hEz hS hSz (by omega) (by omega) (by omega)
theorem rb_isS {w : World} {b : Nat} {st : List S50} {en : List S58} {root : Int} {v1 v2 : Value} (h1 : Rb k50 50 w b v1 st) (h2 : Rb k58 58 w b v2 en) : IsS w st en root (.agg #[v1, v2, .int .i64 root]) := by
  obtain ⟨A1, c1, rfl, l1, k1⟩ := h1.slice
  obtain ⟨A2, c2, rfl, l2, k2⟩ := h2.slice
  exact ⟨A1, c1, A2, c2, rfl, k1, l1, k2, l2⟩
theorem sch_ty {en : List S58} {tr : Bool} {st : List S50} (h : SchOk en st.length tr st) : ∀ (i : Nat) (r : S50), st[i]? = some r → ∀ f ∈ r.f1, TyG en st.length f.f1.f0 f.f1.f1 f.f1.f2 := fun i r hr f hf => ((h.fs i r hr).2.2 f hf).ty
theorem sch_good {en : List S58} {tr : Bool} {st : List S50} (h : SchOk en st.length tr st) : Good st := by
  intro r hr f hf
  obtain ⟨i, hi, e⟩ := List.mem_iff_getElem.1 hr
  have t := sch_ty h i r (by rw [List.getElem?_eq_getElem hi, e]) f hf
  exact ⟨t.str, by have := t.lr; omega⟩
end Go.Proofs.YthilhndejhnlnaaDoor.Hand
end
