/- Texts joined: Open. -/
import Derived.Deep.Slices
import Derived.ProofKit
import Derived.Test.YthilhndejhnlnaaDoorZV10
section
/- From data that are read to lists: arguments of nested types (slices of slices, structs) opened. Of whatever program. -/
namespace Go.Proofs.YthilhndejhnlnaaDoor.Opn
open Go.RowKit Go.Deep Go.Proofs.YthilhndejhnlnaaDoorW.PrintWords Go.Proofs.YthilhndejhnlnaaDoorW.PrintLast Go.Proofs.YthilhndejhnlnaaDoorW.PrintMore

/-- Whatever reads as data of type t is told by d, and fits. -/
def Opens (P : Program) (t : TypeId) {α : Type} (d : Kd α) (wf : α → Prop) : Prop :=
  ∀ (H : Type) (enc : TypeId × Value → H) (w : World) (base : Nat) (spare : Nat → Bool) (held : Bool) (fuel : Nat) (cs : List Value) (x : DataW H × List MemPlace),
    DataW.trod enc P w base spare held fuel t cs = some x → ∃ v : α, d.K w v cs ∧ wf v

theorem opens_int {P : Program} {t : TypeId} {k : IntKind} (ht : P.underlying t = some (.int k)) : Opens P t (Kd.int k) (fun n => (Lit.int k n).wf = true) := by
  intro H enc w base spare held fuel cs x h
  obtain ⟨n, rfl, _, hw⟩ := DataW.trod_int ht h
  exact ⟨n, rfl, hw⟩
theorem opens_bool {P : Program} {t : TypeId} (ht : P.underlying t = some .bool) : Opens P t Kd.bool (fun _ => True) := by
  intro H enc w base spare held fuel cs x h
  obtain ⟨b, rfl, _⟩ := DataW.trod_bool ht h
  exact ⟨b, rfl, trivial⟩
theorem opens_slice {P : Program} {t e : TypeId} {α : Type} {d : Kd α} {wf : α → Prop} (ht : P.underlying t = some (.slice e)) (he : P.cellsOf e = d.sz) (hd : Opens P e d wf) :
    Opens P t (Kd.slice e d) (fun l => l.length ≤ maxLen ∧ ∀ x ∈ l, wf x) := by
  intro H enc w base spare held fuel cs x h
  rcases open_slice ht h with ⟨rfl, _⟩ | ⟨a, len, cap, m, n, D, Pl, rfl, _, hl, hm, hmm, _, hx⟩
  · exact ⟨[], ⟨none, 0, rfl, Nat.le_refl _, Kd.C_nil d w⟩, Nat.zero_le _, fun x hx => by cases hx⟩
  have hlm : len ≤ m := by rw [hmm]; split <;> omega
  have hmax : len ≤ 9223372036854775807 := by have h1 := Nat.le_trans hl hm; simpa [maxLen] using h1
  have key : ∀ i, i < len → ∃ (v : α), wf v ∧ ∃ c, c.length = d.sz ∧ d.K w v c ∧ ∀ j u, c[j]? = some u → w.cell? (a.add (i * d.sz + j)) = some u := by
    intro i hi
    obtain ⟨c, hc, ht⟩ := hx i (by omega)
    obtain ⟨v, hv, hwf⟩ := hd H enc w base spare held n c _ ht
    obtain ⟨_, hcl, hcc⟩ := World.cells?_some hc
    refine ⟨v, hwf, c, by rw [hcl, he], hv, fun j u hu => ?_⟩
    have hj : j < c.length := (List.getElem?_eq_some_iff.1 hu).1
    have h2 := hcc j (by omega)
    rw [hu, he] at h2
    have e3 : (a.add (i * d.sz)).add j = a.add (i * d.sz + j) := by
      unfold Addr.add
      by_cases h1 : i * d.sz = 0 <;> by_cases h2 : j = 0 <;> simp [h1, h2, Nat.add_assoc]
    rw [← e3]; exact h2
  have mk : ∀ n, n ≤ len → ∃ l : List α, l.length = n ∧ (∀ x ∈ l, wf x) ∧ ∀ j p, l[j]? = some p → ∃ c, c.length = d.sz ∧ d.K w p c ∧ ∀ i u, c[i]? = some u → w.cell? (a.add (j * d.sz + i)) = some u := by
    intro n
    induction n with
    | zero => intro _; exact ⟨[], rfl, (fun x hx => by cases hx), (fun j p hp => by simp at hp)⟩
    | succ n ih =>
      intro hn
      obtain ⟨l, h1, h2, h3⟩ := ih (by omega)
      obtain ⟨v, hwf, c, hc1, hc2, hc3⟩ := key n (by omega)
      refine ⟨l ++ [v], by simp [h1], ?_, ?_⟩
      · intro x hx
        rcases List.mem_append.1 hx with hx | hx
        · exact h2 x hx
        · rw [List.mem_singleton.1 hx]; exact hwf
      · intro j p hp
        rcases Nat.lt_or_ge j l.length with hj | hj
        · rw [List.getElem?_append_left hj] at hp; exact h3 j p hp
        · have hj' : j = n := by
            have := (List.getElem?_eq_some_iff.1 hp).1
            simp at this; omega
          subst hj'
          rw [List.getElem?_append_right hj, h1, Nat.sub_self] at hp
          simp at hp; subst hp
          exact ⟨c, hc1, hc2, hc3⟩
  obtain ⟨l, h1, h2, h3⟩ := mk len (Nat.le_refl _)
  refine ⟨l, ⟨some a, cap, by rw [h1], by rw [h1]; exact hl, rfl, by rw [h1]; exact hmax, fun _ => ⟨a, rfl, h3⟩⟩, by rw [h1]; exact Nat.le_trans hl hm, h2⟩

/-- A struct's fields from one place on. -/
def OpensFs (P : Program) (fs : List Field) (off : Nat) {α : Type} (d : Kd α) (wf : α → Prop) : Prop :=
  ∀ (H : Type) (enc : TypeId × Value → H) (w : World) (base : Nat) (spare : Nat → Bool) (held : Bool) (n : Nat) (cs : List Value),
    (∀ f ∈ fs, ∃ x, DataW.trod enc P w base spare held n f.type ((cs.drop f.offset).take (P.cellsOf f.type)) = some x) → cs.length = off + d.sz → ∃ v : α, d.K w v (cs.drop off) ∧ wf v
theorem fields_last {P : Program} {f : Field} {off : Nat} {α : Type} {d : Kd α} {wf : α → Prop} (ho : f.offset = off) (hs : P.cellsOf f.type = d.sz) (hd : Opens P f.type d wf) : OpensFs P [f] off d wf := by
  intro H enc w base spare held n cs h hl
  obtain ⟨x, hx⟩ := h f List.mem_cons_self
  obtain ⟨v, hv, hw⟩ := hd H enc w base spare held n _ x hx
  rw [ho, hs, List.take_of_length_le (by rw [List.length_drop]; omega)] at hv
  exact ⟨v, hv, hw⟩
theorem fields_cons {P : Program} {f : Field} {fs : List Field} {off : Nat} {α β : Type} {a : Kd α} {b : Kd β} {wfa : α → Prop} {wfb : β → Prop} (ho : f.offset = off) (hs : P.cellsOf f.type = a.sz)
    (ha : Opens P f.type a wfa) (hb : OpensFs P fs (off + a.sz) b wfb) : OpensFs P (f :: fs) off (Kd.pair a b) (fun v => wfa v.1 ∧ wfb v.2) := by
  intro H enc w base spare held n cs h hl
  have hl' : cs.length = off + (a.sz + b.sz) := hl
  obtain ⟨x, hx⟩ := h f List.mem_cons_self
  obtain ⟨v, hv, hw⟩ := ha H enc w base spare held n _ x hx
  obtain ⟨u, hu, hw2⟩ := hb H enc w base spare held n cs (fun g hg => h g (List.mem_cons_of_mem _ hg)) (by omega)
  rw [ho, hs] at hv
  refine ⟨(v, u), ⟨_, _, ?_, hv, hu⟩, hw, hw2⟩
  rw [← List.drop_drop, List.take_append_drop]
theorem opens_struct {P : Program} {t : TypeId} {fs : Array Field} {α : Type} {d : Kd α} {wf : α → Prop} (ht : P.underlying t = some (.struct fs)) (hs : P.cellsOf t = d.sz) (hf : OpensFs P fs.toList 0 d wf) : Opens P t d wf := by
  intro H enc w base spare held fuel cs x h
  obtain ⟨xs, n, _, _, hl, hxl, hx⟩ := DataW.trod_struct ht h
  have := hf H enc w base spare held n cs (fun f hfm => by
    obtain ⟨i, hi⟩ := List.getElem?_of_mem hfm
    have h1 : fs[i]? = some f := by rw [← Array.getElem?_toList]; exact hi
    have h2 := hx i f h1
    have h3 : i < xs.length := by
      have := (Array.getElem?_eq_some_iff.1 h1).1
      omega
    rw [List.getElem?_eq_getElem h3] at h2
    exact ⟨_, h2⟩) (by rw [hl, hs, Nat.zero_add])
  simpa using this
theorem opens_iso {P : Program} {t : TypeId} {α β : Type} {d : Kd α} {wf : α → Prop} (f : β → α) (g : α → β) (hfg : ∀ x, f (g x) = x) (h : Opens P t d wf) : Opens P t (Kd.iso d f) (fun v => wf (f v)) := by
  intro H enc w base spare held fuel cs x hx
  obtain ⟨v, hv, hw⟩ := h H enc w base spare held fuel cs x hx
  exact ⟨g v, by show d.K w (f (g v)) cs; rw [hfg]; exact hv, by show wf (f (g v)); rw [hfg]; exact hw⟩
end Go.Proofs.YthilhndejhnlnaaDoor.Opn
end
