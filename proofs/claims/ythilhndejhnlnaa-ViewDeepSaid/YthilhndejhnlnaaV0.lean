/- Layer 7, view: whether a value fits, in plain Lean. -/
import Derived.Test.YthilhndejhnlnaaVRunes
import Derived.Test.YthilhndejhnlnaaQAllx3
namespace Go.Proofs.Ythilhndejhnlnaa.Hand
open Go.RowKit Go.Proofs.Ythilhndejhnlnaa.QAll Go.Proofs.YthilhndejhnlnaaW.PrintWords Go.Proofs.YthilhndejhnlnaaW.PrintLast Go.Proofs.YthilhndejhnlnaaW.PrintMore Go.Proofs.Ythilhndejhnlnaa.Runes
set_option linter.unusedVariables false
set_option linter.unusedSimpArgs false

def szB (k : Int) : Int := if k = 1 ∨ k = 2 ∨ k = 6 ∨ k = 10 then 1 else if k = 3 ∨ k = 7 then 2 else if k = 4 ∨ k = 8 then 4 else if k = 5 ∨ k = 9 then 8 else 0
theorem size_f (c : Int) : wire_Size.f 6 c = some (szB c) := by
  by_cases h : 1 ≤ c ∧ c ≤ 10
  · have key : ∀ n : Fin 11, wire_Size.f 6 (n.val : Int) = some (szB (n.val : Int)) := by decide +kernel
    obtain ⟨m, rfl⟩ := Int.eq_ofNat_of_zero_le (show 0 ≤ c by omega)
    exact key ⟨m, by omega⟩
  · have n1 : c ≠ 1 := by omega
    have n2 : c ≠ 2 := by omega
    have n3 : c ≠ 3 := by omega
    have n4 : c ≠ 4 := by omega
    have n5 : c ≠ 5 := by omega
    have n6 : c ≠ 6 := by omega
    have n7 : c ≠ 7 := by omega
    have n8 : c ≠ 8 := by omega
    have n9 : c ≠ 9 := by omega
    have n10 : c ≠ 10 := by omega
    simp [wire_Size.f, wire_Size.j0, wire_Size.j1, wire_Size.j2, wire_Size.j3, szB, n1, n2, n3, n4, n5, n6, n7, n8, n9, n10]
theorem szB_or (c : Int) : szB c = 0 ∨ szB c = 1 ∨ szB c = 2 ∨ szB c = 4 ∨ szB c = 8 := by
  unfold szB; split; omega; split; omega; split; omega; split <;> omega
/-- Is a number one of its type? -/
def numB (st : List S31) (en : List S61) (root kd rf ls n : Int) : Bool := (schema_Fits.f 10 st en root kd rf ls n).getD false
theorem num_f (st : List S31) (en : List S61) (root kd rf ls n : Int) : schema_Fits.f 10 st en root kd rf ls n = some (numB st en root kd rf ls n) := by
  have : (schema_Fits.f 10 st en root kd rf ls n).isSome = true := by
    unfold schema_Fits.f
    rw [at_rounds (wire_Size.mono kd) (show 6 ≤ 10 by decide) (size_f kd)]
    simp only [Option.bind_some]
    have key : ∀ b, (schema_Fits.j0 10 n (szB kd) b st en root kd rf ls).isSome = true := by
      intro b
      have hs : ∃ b2, wire_Sign.f kd = some b2 := by unfold wire_Sign.f; split <;> exact ⟨_, rfl⟩
      obtain ⟨b2, h2⟩ := hs
      have hg : ∃ x, wire_Signed.f n (szB kd) = some x := by
        unfold wire_Signed.f
        split
        · exact ⟨_, rfl⟩
        split
        · exact ⟨_, rfl⟩
        split <;> exact ⟨_, rfl⟩
      obtain ⟨x, hx⟩ := hg
      have hw : 0 ≤ wrap64 (8 * szB kd) := by
        unfold wrap64
        rcases szB_or kd with e | e | e | e | e <;> rw [e] <;> omega
      simp only [schema_Fits.j0, h2, hx, Option.bind_some, if_pos hw]
      by_cases k0 : b = true
      · rw [if_pos k0]; rfl
      rw [if_neg k0]
      by_cases k1 : kd = 1
      · rw [if_pos k1]; rfl
      rw [if_neg k1]
      by_cases k2 : kd = 10
      · rw [if_pos k2]
        by_cases k3 : rf ≥ 0
        · rw [if_pos k3]
          by_cases k4 : rf < (en.length : Int)
          · rw [if_pos k4, if_pos k3]; rfl
          · rw [if_neg k4]; rfl
        · rw [if_neg k3]; rfl
      rw [if_neg k2]
      cases b2 with
      | true => rfl
      | false =>
        rw [if_neg (by decide)]
        split <;> rfl
    split <;> exact key _
  unfold numB
  cases h : schema_Fits.f 10 st en root kd rf ls n with
  | none => rw [h] at this; simp at this
  | some b => rfl
def textB (l : List Int) : Bool := decide (at_ (U l.length l) < 0)
theorem text_f (l : List Int) (hl : l.length ≤ 9223372036854775807) : wire_Utf8.f (l.length + 21) l = some (at_ (U l.length l)) := utf8_f l l.length _ hl (Nat.le_refl _) (by omega)
/-- A struct that is not there, and holds nothing. -/
def goneB (v : S39) : Bool := v.f0 == 0 && v.f1.length == 0 && v.f2.length == 0
def leafB (st : List S31) (en : List S61) (root kd rf ls : Int) (v : S39) : Bool :=
  if 0 < v.f2.length ∨ v.f3 = true then false else if 0 < szB kd then (v.f1.length == 0 && numB st en root kd rf ls v.f0) else (v.f0 == 0 && (kd == 12 || textB v.f1))
def lackB (kd ls : Int) (x : S39) : Bool := ls == 0 && kd == 13 && !x.f3
/-- Does a value fit a type, so deep? -/
def fitsB (st : List S31) (en : List S61) (root : Int) : Nat → Int → Int → Int → S39 → Bool
  | 0, kd, rf, ls, v =>
    if 0 < ls then (if 0 < v.f2.length ∨ v.f0 ≠ 0 ∨ 0 < v.f1.length ∨ v.f3 = true then false else true)
    else if kd = 13 then (if v.f0 ≠ 0 ∨ 0 < v.f1.length ∨ v.f3 = false then goneB v else false)
    else leafB st en root kd rf ls v
  | d + 1, kd, rf, ls, v =>
    if 0 < ls then (if v.f0 ≠ 0 ∨ 0 < v.f1.length ∨ v.f3 = true then false else v.f2.all fun x => fitsB st en root d kd rf (ls - 1) x && !lackB kd (ls - 1) x)
    else if kd = 13 then (if v.f0 ≠ 0 ∨ 0 < v.f1.length ∨ v.f3 = false then goneB v
      else if v.f2.length ≠ (rd_T31 st rf).f1.length then false else ((rd_T31 st rf).f1.zip v.f2).all fun p => fitsB st en root d p.1.f1.f0 p.1.f1.f1 p.1.f1.f2 p.2)
    else leafB st en root kd rf ls v
/-- A type that names a struct names one that is there. -/
def TyOk (st : List S31) (kd rf : Int) : Prop := kd = 13 → 0 ≤ rf ∧ rf < st.length
def Good (st : List S31) : Prop := ∀ r ∈ st, ∀ f ∈ r.f1, TyOk st f.f1.f0 f.f1.f1 ∧ f.f1.f2 ≤ 9223372036854775807

/-- A schema, a type, a value, by value. -/
def IsS (w : World) (st : List S31) (en : List S61) (root : Int) (u : Value) : Prop :=
  ∃ A0 c0 A1 c1, u = .agg #[.slice A0 st.length c0, .slice A1 en.length c1, .int .i64 root] ∧ Kd.C k31 w A0 st.length st ∧ st.length ≤ c0 ∧ Kd.C k61 w A1 en.length en ∧ en.length ≤ c1
def IsV (w : World) (v : S39) (u : Value) : Prop :=
  ∃ A1 c1 A2 c2, u = .agg #[.int .u64 v.f0, .slice A1 v.f1.length c1, .slice A2 v.f2.length c2, .bool v.f3] ∧ (Kd.int .u8).C w A1 v.f1.length v.f1 ∧ v.f1.length ≤ c1 ∧ k39.C w A2 v.f2.length v.f2 ∧ v.f2.length ≤ c2
abbrev tyV (kd rf ls : Int) : Value := .agg #[.int .u8 kd, .int .i64 rf, .int .i64 ls]
theorem IsS.below {w W : World} {st : List S31} {en : List S61} {root : Int} {u : Value} (h : IsS w st en root u) (hb : Below w.heap.size w W) : IsS W st en root u := by
  obtain ⟨A0, c0, A1, c1, rfl, h1, h2, h3, h4⟩ := h
  exact ⟨A0, c0, A1, c1, rfl, Kd.C_below h1 hb, h2, Kd.C_below h3 hb, h4⟩
theorem IsV.below {w W : World} {v : S39} {u : Value} (h : IsV w v u) (hb : Below w.heap.size w W) : IsV W v u := by
  obtain ⟨A0, c0, A1, c1, rfl, h1, h2, h3, h4⟩ := h
  exact ⟨A0, c0, A1, c1, rfl, Kd.C_below h1 hb, h2, Kd.C_below h3 hb, h4⟩
end Go.Proofs.Ythilhndejhnlnaa.Hand
