/- Texts joined: M2 M3 M5 W1. -/
import Derived.Test.YthilhndejhnlnaaDoorZV18
import Derived.Test.YthilhndejhnlnaaDoorZV21
import Derived.Test.YthilhndejhnlnaaDoorZV22
section
/- The makers' plain law, 2: whatever the plan is, what Made makes is a schema. -/
namespace Go.Proofs.YthilhndejhnlnaaDoor.Mk
open Go.RowKit Go.Proofs.YthilhndejhnlnaaDoor.QAll Go.Proofs.YthilhndejhnlnaaDoorW.PrintWords Go.Proofs.YthilhndejhnlnaaDoorW.PrintLast Go.Proofs.YthilhndejhnlnaaDoorW.PrintMore Go.Proofs.YthilhndejhnlnaaDoor.Hand
set_option linter.unusedVariables false
set_option linter.unusedSimpArgs false
/-- A field of a schema of n structs, of the i-th one. -/
structure FOk (en : List S58) (n : Nat) (tr : Bool) (i : Nat) (f : S47) : Prop where
  kd : 1 ≤ f.f1.f0 ∧ f.f1.f0 ≤ 13
  ls : 0 ≤ f.f1.f2 ∧ f.f1.f2 ≤ 3
  enm : f.f1.f0 = 10 → 0 ≤ f.f1.f1 ∧ f.f1.f1 < en.length
  str : f.f1.f0 = 13 → 0 ≤ f.f1.f1 ∧ f.f1.f1 < n
  tree : tr = true → f.f1.f0 = 13 → (i : Int) < f.f1.f1
  num : f.f1.f2 = 0 → 0 < szB f.f1.f0 → ∀ st root, numB st en root f.f1.f0 f.f1.f1 0 f.f2 = true
  zero : ¬ (f.f1.f2 = 0 ∧ 0 < szB f.f1.f0) → f.f2 = 0
  rng : 0 ≤ f.f2 ∧ f.f2 < 18446744073709551616
structure SchOk (en : List S58) (n : Nat) (tr : Bool) (st : List S50) : Prop where
  fs : ∀ i r, st[i]? = some r → 1 ≤ r.f1.length ∧ r.f1.length ≤ 16 ∧ ∀ f ∈ r.f1, FOk en n tr i f
abbrev Res := List S50 × List S58 × Int × Bool
def MadeR (n : Nat) (tr : Bool) (r : Res) : Prop := r.2.2.2 = true → EnOk r.2.1 ∧ SchOk r.2.1 n tr r.1 ∧ r.1.length = n ∧ 1 ≤ n ∧ n ≤ 16 ∧ 0 ≤ r.2.2.1 ∧ r.2.2.1 < n
def G (g : Nat → Option Res) (Q : Res → Prop) : Prop := ∃ r, Ev g r ∧ Q r
theorem G.step {g f : Nat → Option Res} {Q : Res → Prop} (h : ∀ k, g (k + 1) = f k) (k : G f Q) : G g Q := by
  obtain ⟨r, e, q⟩ := k
  exact ⟨r, Ev.step h e, q⟩
/-- A field's plan: bytes, and a number. -/
structure BOk (x : S61) : Prop where
  b0 : 0 ≤ x.f0 ∧ x.f0 < 256
  b1 : 0 ≤ x.f1 ∧ x.f1 < 256
  b2 : 0 ≤ x.f2 ∧ x.f2 < 256
  b3 : 0 ≤ x.f3 ∧ x.f3 < 256
  b4 : 0 ≤ x.f4 ∧ x.f4 < 18446744073709551616
theorem label_some (a0 a1 : Int) (h0 : 0 ≤ a0) (h1 : a0 < 256) : ∃ t, transomhand05_label.f a0 a1 = some t := by
  unfold transomhand05_label.f
  simp only [Option.bind_some]
  rw [if_neg (by decide), w64 a0 h0 h1, tm a0 _ h0 (by decide)]
  obtain ⟨j, hj⟩ : ∃ j : Nat, a0 % 10 = j ∧ j < 10 := ⟨(a0 % 10).toNat, by omega, by omega⟩
  rw [show ((List.length [(⟨#[97]⟩ : ByteArray), ⟨#[120, 95]⟩, ⟨#[90, 101, 100]⟩, ⟨#[195, 169]⟩, ⟨#[239, 172, 128]⟩, ⟨#[240, 159, 152, 128]⟩, ⟨#[108, 105, 115, 116]⟩, ⟨#[98, 32, 99]⟩, ⟨#[115, 116, 114, 117, 99, 116]⟩, ⟨#[47]⟩] : Nat) : Int) = 10 from rfl, hj.1]
  rw [if_pos (by omega), if_pos (by omega), strOfNums_size, List.length_singleton, if_pos]
  · exact ⟨_, rfl⟩
  · obtain ⟨-, hj⟩ := hj
    match j, hj with
    | 0, _ | 1, _ | 2, _ | 3, _ | 4, _ | 5, _ | 6, _ | 7, _ | 8, _ | 9, _ => decide
section
variable {E : List Int} {S : List (List S61)} {Rt : Int} {tr : Bool} {Q : Res → Prop} {st : List S50} {en : List S58} {root : Int} {nm : ByteArray} {fs : List S47} {l : List S61} {i k n : Nat}
theorem wk (h : k < 1000) : wrap64 ((k : Int) + 1) = ((k + 1 : Nat) : Int) := by unfold wrap64; omega
theorem ref_tree (n i : Nat) (x : Int) (h : i + 1 < n) (hn : n ≤ 16) (hx : 0 ≤ x) : ∃ m q : Int, ¬ m = 0 ∧ 0 ≤ (i : Int) + 1 + q ∧ (i : Int) + 1 + q < n ∧ (i : Int) < (i : Int) + 1 + q ∧ wrap64 (wrap64 ((n : Int) - i) - 1) = m ∧ Int.tmod x m = q ∧ wrap64 (wrap64 ((i : Int) + 1) + q) = (i : Int) + 1 + q := by
  obtain ⟨m, hm⟩ : ∃ m : Nat, n = i + 1 + m := ⟨n - (i + 1), by omega⟩
  have m0 : (0 : Int) < m := by omega
  have e0 : wrap64 ((n : Int) - i) = (m : Int) + 1 := by unfold wrap64; omega
  have e1 : wrap64 ((m : Int) + 1 - 1) = m := by unfold wrap64; omega
  have q0 := Int.emod_nonneg x (b := (m : Int)) (by omega)
  have q1 := Int.emod_lt_of_pos x m0
  have e2 := tm x m hx m0
  obtain ⟨q, hq⟩ : ∃ q, x % (m : Int) = q := ⟨_, rfl⟩
  rw [hq] at q0 q1 e2
  clear hq
  have e4 : wrap64 ((i : Int) + 1) = (i : Int) + 1 := by unfold wrap64; omega
  refine ⟨m, q, by omega, by omega, by omega, by omega, by rw [e0, e1], e2, ?_⟩
  rw [e4]; unfold wrap64; omega
theorem ref_any (n : Nat) (x : Int) (h : 1 ≤ n) (hx : 0 ≤ x) : ∃ q : Int, 0 ≤ q ∧ q < n ∧ Int.tmod x (n : Int) = q :=
  ⟨x % (n : Int), Int.emod_nonneg x (by omega), Int.emod_lt_of_pos x (by omega), tm x n hx (by omega)⟩
theorem g11 (hE : EnOk en) (hk : k < l.length) (hl : l.length ≤ 16) (hb : BOk (rd_T61 l k)) (kd rf ls : Int) (h1 : 1 ≤ kd) (h2 : kd ≤ 13) (h3 : 0 ≤ ls) (h4 : ls ≤ 3) (h5 : kd = 10 → 0 ≤ rf ∧ rf < en.length)
    (h6 : kd = 13 → 0 ≤ rf ∧ rf < n) (h7 : tr = true → kd = 13 → (i : Int) < rf) (hfs : fs.length ≤ 16)
    (H : ∀ f, FOk en n tr i f → G (fun K => transomhand05_Made.l3 K i l ((k + 1 : Nat) : Int) E S Rt tr st en root nm (fs ++ [f])) Q) :
    G (fun K => transomhand05_Made.j11 K i l k E S Rt tr st en root nm fs kd rf ls) Q := by
  obtain ⟨t, ht⟩ := label_some _ (k : Int) hb.b3.1 hb.b3.2
  have hi := isnum_f kd rf ls (by omega) (by omega)
  have hw := wk (k := k) (by omega)
  by_cases c : ls = 0 ∧ 0 < szB kd
  · have hkd : kd ≤ 10 := by
      obtain ⟨-, c⟩ := c
      unfold szB at c; split at c; omega; split at c; omega; split at c; omega; split at c; omega; omega
    obtain ⟨m, hm, hn, m0, m1⟩ := number_ok hE kd rf _ h1 hkd h5 hb.b4.1 hb.b4.2 ls
    obtain ⟨r, ⟨K, hK⟩, hq⟩ := H ⟨t, ⟨kd, rf, ls⟩, m⟩ ⟨⟨h1, h2⟩, ⟨h3, h4⟩, h5, h6, h7, fun _ _ => hn, fun x => absurd c x, m0, m1⟩
    refine ⟨r, ⟨max K 7 + 1, fun j hj => ?_⟩, hq⟩
    obtain ⟨j, rfl⟩ : ∃ m, j = m + 1 := ⟨j - 1, by omega⟩
    simp only [transomhand05_Made.j11]
    rw [if_pos (by omega), if_pos (by omega), ht, at_rounds (transomref05_IsNum.mono kd rf ls) (show 6 ≤ j by omega) hi]
    simp only [Option.bind_some, decide_eq_true c, if_true]
    rw [at_rounds (transomhand05_Number.mono _ _ _ _ _ _ _) (show 7 ≤ j by omega) (hm st root)]
    simp only [Option.bind_some]
    rw [if_pos (by omega), hw]
    exact hK j (by omega)
  · obtain ⟨r, ⟨K, hK⟩, hq⟩ := H ⟨t, ⟨kd, rf, ls⟩, 0⟩ ⟨⟨h1, h2⟩, ⟨h3, h4⟩, h5, h6, h7, fun x y => absurd ⟨x, y⟩ c, fun _ => rfl, by show (0 : Int) ≤ 0; decide, by show (0 : Int) < 18446744073709551616; decide⟩
    refine ⟨r, ⟨max K 7 + 1, fun j hj => ?_⟩, hq⟩
    obtain ⟨j, rfl⟩ : ∃ m, j = m + 1 := ⟨j - 1, by omega⟩
    simp only [transomhand05_Made.j11]
    rw [if_pos (by omega), if_pos (by omega), ht, at_rounds (transomref05_IsNum.mono kd rf ls) (show 6 ≤ j by omega) hi]
    simp only [Option.bind_some, decide_eq_false c]
    rw [if_neg (by decide), if_pos (by omega), hw]
    exact hK j (by omega)
theorem g10 (hS : S.length = n) (hn0 : 1 ≤ n) (hn : n ≤ 16) (hin : i < n) (hE : EnOk en) (hk : k < l.length) (hl : l.length ≤ 16) (hb : BOk (rd_T61 l k)) (kd rf ls : Int) (h1 : 1 ≤ kd) (h2 : kd ≤ 13) (h3 : 0 ≤ ls) (h4 : ls ≤ 3) (h5 : kd = 10 → 0 ≤ rf ∧ rf < en.length)
    (h7 : tr = true → kd = 13 → i + 1 ≠ n) (hfs : fs.length ≤ 16)
    (H : ∀ f, FOk en n tr i f → G (fun K => transomhand05_Made.l3 K i l ((k + 1 : Nat) : Int) E S Rt tr st en root nm (fs ++ [f])) Q) :
    G (fun K => transomhand05_Made.j10 K i l k E S Rt tr st en root nm fs kd rf ls) Q := by
  by_cases c : kd = 13
  · have hc := c
    have a1 : (0 : Int) ≤ k := Int.natCast_nonneg _
    have a2 : (k : Int) < l.length := by omega
    have a3 : ¬ (S.length : Int) = 0 := by omega
    have hw2 : wrap64 (rd_T61 l k).f2 = (rd_T61 l k).f2 := w64 _ hb.b2.1 hb.b2.2
    cases tr with
    | true =>
      have hne := h7 rfl hc
      obtain ⟨m, q, m0, q0, q1, q2, e1, e2, e3⟩ := ref_tree n i _ (show i + 1 < n by omega) hn hb.b2.1
      rw [← hS] at e1
      refine G.step (fun K => ?_) (g11 hE hk hl hb kd ((i : Int) + 1 + q) ls h1 h2 h3 h4 (fun e => absurd (hc.symm.trans e) (by decide)) (fun _ => ⟨q0, q1⟩) (fun _ _ => q2) hfs H)
      simp only [transomhand05_Made.j10]
      rw [if_pos hc, if_pos a1, if_pos a2, if_neg a3, if_pos trivial, e1, if_neg m0, hw2, e2, e3]
    | false =>
      obtain ⟨q, q0, q1, e2⟩ := ref_any S.length (rd_T61 l k).f2 (by omega) hb.b2.1
      refine G.step (fun K => ?_) (g11 hE hk hl hb kd q ls h1 h2 h3 h4 (fun e => absurd (hc.symm.trans e) (by decide)) (fun _ => ⟨q0, by rw [← hS]; exact q1⟩) (fun e => by cases e) hfs H)
      simp only [transomhand05_Made.j10]
      rw [if_pos hc, if_pos a1, if_pos a2, if_neg a3, if_neg (by decide), hw2, e2]
  · refine G.step (fun K => ?_) (g11 hE hk hl hb kd rf ls h1 h2 h3 h4 h5 (fun e => absurd e c) (fun _ e => absurd e c) hfs H)
    simp only [transomhand05_Made.j10]
    rw [if_neg c]
theorem g8 (hS : S.length = n) (hn0 : 1 ≤ n) (hn : n ≤ 16) (hin : i < n) (hE : EnOk en) (hk : k < l.length) (hl : l.length ≤ 16) (hb : BOk (rd_T61 l k)) (kd rf ls : Int) (h1 : 1 ≤ kd) (h2 : kd ≤ 13) (h3 : 0 ≤ ls) (h4 : ls ≤ 3) (h5 : kd = 10 → 0 ≤ rf ∧ rf < en.length)
    (hfs : fs.length ≤ 16)
    (H : ∀ f, FOk en n tr i f → G (fun K => transomhand05_Made.l3 K i l ((k + 1 : Nat) : Int) E S Rt tr st en root nm (fs ++ [f])) Q) :
    G (fun K => transomhand05_Made.j8 K i l k E S Rt tr st en root nm fs kd rf ls) Q := by
  have hw : wrap64 ((i : Int) + 1) = (i : Int) + 1 := by unfold wrap64; omega
  have g9t : G (fun K => transomhand05_Made.j9 K i l k true E S Rt tr st en root nm fs kd rf ls) Q := by
    refine G.step (fun K => ?_) (g10 hS hn0 hn hin hE hk hl hb 11 rf ls (by decide) (by decide) h3 h4 (fun e => by omega) (fun _ e => by omega) hfs H)
    simp only [transomhand05_Made.j9, if_true]
  have g9f : (tr = true → kd = 13 → i + 1 ≠ n) → G (fun K => transomhand05_Made.j9 K i l k false E S Rt tr st en root nm fs kd rf ls) Q := fun h => by
    refine G.step (fun K => ?_) (g10 hS hn0 hn hin hE hk hl hb kd rf ls h1 h2 h3 h4 h5 h hfs H)
    simp only [transomhand05_Made.j9]
    rw [if_neg (by decide)]
  by_cases c : kd = 13
  · cases tr with
    | true =>
      by_cases e : i + 1 = n
      · have : (wrap64 ((i : Int) + 1) == (S.length : Int)) = true := by rw [hw]; simp; omega
        refine G.step (fun K => ?_) g9t
        simp only [transomhand05_Made.j8]
        rw [if_pos c, if_pos trivial, this]
      · have : (wrap64 ((i : Int) + 1) == (S.length : Int)) = false := by rw [hw]; simp; omega
        refine G.step (fun K => ?_) (g9f fun _ _ => e)
        simp only [transomhand05_Made.j8]
        rw [if_pos c, if_pos trivial, this]
    | false =>
      refine G.step (fun K => ?_) (g9f fun e => by cases e)
      simp only [transomhand05_Made.j8]
      rw [if_pos c, if_neg (by decide)]
  · refine G.step (fun K => ?_) (g9f fun _ e => absurd e c)
    simp only [transomhand05_Made.j8]
    rw [if_neg c]
theorem g7 (hS : S.length = n) (hn0 : 1 ≤ n) (hn : n ≤ 16) (hin : i < n) (hE : EnOk en) (hk : k < l.length) (hl : l.length ≤ 16) (hb : BOk (rd_T61 l k)) (kd ls : Int) (h1 : 1 ≤ kd) (h2 : kd ≤ 13) (h3 : 0 ≤ ls) (h4 : ls ≤ 3) (h5 : kd = 10 → 0 < en.length)
    (hfs : fs.length ≤ 16)
    (H : ∀ f, FOk en n tr i f → G (fun K => transomhand05_Made.l3 K i l ((k + 1 : Nat) : Int) E S Rt tr st en root nm (fs ++ [f])) Q) :
    G (fun K => transomhand05_Made.j7 K i l k E S Rt tr st en root nm fs kd 0 ls) Q := by
  by_cases c : kd = 10
  · have h6 := h5 c
    have a1 : (0 : Int) ≤ k := Int.natCast_nonneg _
    have a2 : (k : Int) < l.length := by omega
    have a3 : ¬ (en.length : Int) = 0 := by omega
    have hw2 : wrap64 (rd_T61 l k).f2 = (rd_T61 l k).f2 := w64 _ hb.b2.1 hb.b2.2
    obtain ⟨q, b0, b1, e2⟩ := ref_any en.length (rd_T61 l k).f2 h6 hb.b2.1
    refine G.step (fun K => ?_) (g8 hS hn0 hn hin hE hk hl hb kd q ls h1 h2 h3 h4 (fun _ => ⟨b0, b1⟩) hfs H)
    simp only [transomhand05_Made.j7]
    rw [if_pos c, if_pos a1, if_pos a2, if_neg a3, hw2, e2]
  · refine G.step (fun K => ?_) (g8 hS hn0 hn hin hE hk hl hb kd 0 ls h1 h2 h3 h4 (fun e => absurd e c) hfs H)
    simp only [transomhand05_Made.j7]
    rw [if_neg c]
theorem g6 (hS : S.length = n) (hn0 : 1 ≤ n) (hn : n ≤ 16) (hin : i < n) (hE : EnOk en) (hk : k < l.length) (hl : l.length ≤ 16) (hb : BOk (rd_T61 l k)) (kd ls : Int) (h1 : 1 ≤ kd) (h2 : kd ≤ 13) (h3 : 0 ≤ ls) (h4 : ls ≤ 3) (b : Bool) (h5 : b = false → kd = 10 → 0 < en.length)
    (hfs : fs.length ≤ 16)
    (H : ∀ f, FOk en n tr i f → G (fun K => transomhand05_Made.l3 K i l ((k + 1 : Nat) : Int) E S Rt tr st en root nm (fs ++ [f])) Q) :
    G (fun K => transomhand05_Made.j6 K i l k b E S Rt tr st en root nm fs kd 0 ls) Q := by
  cases b with
  | true =>
    refine G.step (fun K => ?_) (g7 hS hn0 hn hin hE hk hl hb 7 ls (by decide) (by decide) h3 h4 (fun e => by omega) hfs H)
    simp only [transomhand05_Made.j6, if_true]
  | false =>
    refine G.step (fun K => ?_) (g7 hS hn0 hn hin hE hk hl hb kd ls h1 h2 h3 h4 (h5 rfl) hfs H)
    simp only [transomhand05_Made.j6]
    rw [if_neg (by decide)]
end
end Go.Proofs.YthilhndejhnlnaaDoor.Mk
end

section
/- The makers' plain law, 3: Made whole. -/
namespace Go.Proofs.YthilhndejhnlnaaDoor.Mk
open Go.RowKit Go.Proofs.YthilhndejhnlnaaDoor.QAll Go.Proofs.YthilhndejhnlnaaDoorW.PrintWords Go.Proofs.YthilhndejhnlnaaDoorW.PrintLast Go.Proofs.YthilhndejhnlnaaDoorW.PrintMore Go.Proofs.YthilhndejhnlnaaDoor.Hand
set_option linter.unusedVariables false
set_option linter.unusedSimpArgs false
section
variable {E : List Int} {S : List (List S61)} {Rt : Int} {tr : Bool} {Q : Res → Prop} {st : List S50} {en : List S58} {root : Int} {nm : ByteArray} {l : List S61} {i n : Nat}
theorem g3 (hS : S.length = n) (hn0 : 1 ≤ n) (hn : n ≤ 16) (hin : i < n) (hE : EnOk en) (hl1 : 1 ≤ l.length) (hl : l.length ≤ 16) (hb : ∀ x ∈ l, BOk x) (hst : st.length ≤ 16)
    (H2 : ∀ fs, 1 ≤ fs.length → fs.length ≤ 16 → (∀ f ∈ fs, FOk en n tr i f) → G (fun K => transomhand05_Made.l2 K ((i + 1 : Nat) : Int) E S Rt tr (st ++ [⟨nm, fs⟩]) en root) Q) :
    ∀ (d k : Nat) (fs : List S47), k + d = l.length → fs.length = k → (∀ f ∈ fs, FOk en n tr i f) → G (fun K => transomhand05_Made.l3 K i l k E S Rt tr st en root nm fs) Q := by
  intro d
  induction d with
  | zero =>
    intro k fs hk hf hF
    refine G.step (fun K => ?_) (H2 fs (by omega) (by omega) hF)
    simp only [transomhand05_Made.l3]
    rw [if_neg (by omega), if_pos (by omega), wk (by omega)]
  | succ d ih =>
    intro k fs hk hf hF
    have hkl : k < l.length := by omega
    have hx : BOk (rd_T61 l k) := by
      have e : rd_T61 l (k : Int) = l[k] := by unfold rd_T61; rw [show ((k : Int)).toNat = k from rfl, List.getD_eq_getElem?_getD, List.getElem?_eq_getElem hkl]; rfl
      rw [e]; exact hb _ (List.getElem_mem hkl)
    have next : ∀ f, FOk en n tr i f → G (fun K => transomhand05_Made.l3 K i l ((k + 1 : Nat) : Int) E S Rt tr st en root nm (fs ++ [f])) Q := fun f h =>
      ih (k + 1) (fs ++ [f]) (by omega) (by simp [hf]) (fun g hg => by
        rcases List.mem_append.1 hg with e | e
        · exact hF g e
        · rw [List.mem_singleton] at e; exact e ▸ h)
    have e1 : Int.tmod (rd_T61 l k).f0 13 = (rd_T61 l k).f0 % 13 := tm _ _ hx.b0.1 (by decide)
    have e2 : Int.tmod (rd_T61 l k).f1 4 = (rd_T61 l k).f1 % 4 := tm _ _ hx.b1.1 (by decide)
    have e3 : wrap64 ((rd_T61 l k).f1 % 4) = (rd_T61 l k).f1 % 4 := w64 _ (by omega) (by omega)
    have e4 : ((rd_T61 l k).f0 % 13 + 1) % 256 = (rd_T61 l k).f0 % 13 + 1 := by omega
    by_cases c : (rd_T61 l k).f0 % 13 + 1 = 10
    · refine G.step (fun K => ?_) (g6 hS hn0 hn hin hE hkl hl hx ((rd_T61 l k).f0 % 13 + 1) ((rd_T61 l k).f1 % 4) (by omega) (by omega) (by omega) (by omega) ((en.length : Int) == 0) (fun e _ => by have e5 := beq_eq_false_iff_ne.1 e; omega) (by omega) next)
      simp only [transomhand05_Made.l3]
      rw [if_pos (by omega), if_pos (by omega), e1, e2, e3, e4, if_pos c]
    · refine G.step (fun K => ?_) (g6 hS hn0 hn hin hE hkl hl hx ((rd_T61 l k).f0 % 13 + 1) ((rd_T61 l k).f1 % 4) (by omega) (by omega) (by omega) (by omega) false (fun _ e => absurd e c) (by omega) next)
      simp only [transomhand05_Made.l3]
      rw [if_pos (by omega), if_pos (by omega), e1, e2, e3, e4, if_neg c]
theorem bad : MadeR n tr (([] : List S50), ([] : List S58), 0, false) := fun h => by cases h
theorem g2 (hS : S.length = n) (hn0 : 1 ≤ n) (hn : n ≤ 16) (hE : EnOk en) (hb : ∀ l ∈ S, ∀ x ∈ l, BOk x) (hr0 : 0 ≤ root) (hr1 : root < n) :
    ∀ (d i : Nat) (st : List S50), i + d = n → st.length = i → SchOk en n tr st → G (fun K => transomhand05_Made.l2 K i E S Rt tr st en root) (MadeR n tr) := by
  intro d
  induction d with
  | zero =>
    intro i st hi hs hF
    refine G.step (f := fun _ => some (st, en, root, true)) (fun K => ?_) ⟨_, Ev.now _, fun _ => ⟨hE, hF, by show st.length = n; omega, hn0, hn, hr0, hr1⟩⟩
    simp only [transomhand05_Made.l2]
    rw [if_neg (by omega)]
  | succ d ih =>
    intro i st hi hs hF
    have hiS : i < S.length := by omega
    have hl : rd_L14 S (i : Int) = S[i] := by unfold rd_L14; rw [show ((i : Int)).toNat = i from rfl, List.getD_eq_getElem?_getD, List.getElem?_eq_getElem hiS]; rfl
    have hbl : ∀ x ∈ rd_L14 S (i : Int), BOk x := by rw [hl]; exact hb _ (List.getElem_mem hiS)
    obtain ⟨l, hll⟩ : ∃ l, rd_L14 S (i : Int) = l := ⟨_, rfl⟩
    rw [hll] at hbl
    have four : ∀ b, (b = false → 1 ≤ l.length ∧ l.length ≤ 16) → G (fun K => transomhand05_Made.j4 K i l b E S Rt tr st en root) (MadeR n tr) := by
      intro b hb4
      cases b with
      | true =>
        refine G.step (f := fun _ => some (([] : List S50), ([] : List S58), 0, false)) (fun K => ?_) ⟨_, Ev.now _, bad⟩
        simp only [transomhand05_Made.j4, if_true]
      | false =>
        obtain ⟨l1, l2⟩ := hb4 rfl
        refine G.step (fun K => ?_) (g3 (nm := (⟨#[83]⟩ : ByteArray) ++ strOfNums [(wrap64 (97 + (i : Int))) % 256]) hS hn0 hn (show i < n by omega) hE l1 l2 hbl (by omega) (fun fs f1 f2 hf => ih (i + 1) (st ++ [⟨(⟨#[83]⟩ : ByteArray) ++ strOfNums [(wrap64 (97 + (i : Int))) % 256], fs⟩]) (by omega) (by simp [hs]) ⟨fun j r hj => by
          rcases Nat.lt_or_ge j st.length with e | e
          · rw [List.getElem?_append_left e] at hj; exact hF.fs j r hj
          · rw [List.getElem?_append_right e] at hj
            have : j - st.length = 0 := by
              rcases Nat.eq_zero_or_pos (j - st.length) with z | z
              · exact z
              · rw [List.getElem?_eq_none (by simp; omega)] at hj; cases hj
            rw [this] at hj; simp at hj; subst hj
            obtain rfl : j = i := by omega
            exact ⟨f1, f2, hf⟩⟩) l.length 0 [] (by omega) rfl (fun _ h => by cases h))
        simp only [transomhand05_Made.j4, Option.bind_some]
        rw [if_neg (by decide), strOfNums_size, if_pos (by simp)]
        rfl
    by_cases c : l.length < 1
    · refine G.step (fun K => ?_) (four true (fun e => by cases e))
      simp only [transomhand05_Made.l2]
      rw [if_pos (by omega), if_pos (by omega), hll, if_pos (by omega)]
    · refine G.step (fun K => ?_) (four (decide ((l.length : Int) > 16)) (fun e => by simp at e; omega))
      simp only [transomhand05_Made.l2]
      rw [if_pos (by omega), if_pos (by omega), hll, if_neg (by omega)]
theorem g1 {j : Nat} (hE : ∀ x ∈ E, 0 ≤ x ∧ x < 256) (hj : j < E.length) (hlen : E.length ≤ 8) (hen : en.length ≤ 8)
    (H0 : ∀ ns : List ByteArray, 1 ≤ ns.length → ns.length ≤ 32 → G (fun K => transomhand05_Made.l0 K ((j + 1 : Nat) : Int) E S Rt tr (en ++ [⟨nm, ns⟩]) root) Q) :
    ∀ (d k : Nat) (ns : List ByteArray), (k : Int) + d = rd E j % 32 + 1 → ns.length = k → G (fun K => transomhand05_Made.l1 K j k E S Rt tr en root nm ns) Q := by
  have hx : 0 ≤ rd E (j : Int) ∧ rd E (j : Int) < 256 := by
    have e : rd E (j : Int) = E[j] := by unfold rd; rw [show ((j : Int)).toNat = j from rfl, List.getD_eq_getElem?_getD, List.getElem?_eq_getElem hj]; rfl
    rw [e]; exact hE _ (List.getElem_mem hj)
  have e1 : Int.tmod (wrap64 (rd E (j : Int))) 32 = rd E (j : Int) % 32 := by rw [w64 _ hx.1 hx.2]; exact tm _ _ hx.1 (by decide)
  intro d
  induction d with
  | zero =>
    intro k ns hk hs
    refine G.step (fun K => ?_) (H0 ns (by omega) (by omega))
    simp only [transomhand05_Made.l1]
    rw [if_pos (by omega), if_pos (by omega), e1, if_neg (by omega), if_pos (by omega), wk (by omega)]
  | succ d ih =>
    intro k ns hk hs
    refine G.step (fun K => ?_) (ih (k + 1) (ns ++ [(⟨#[118]⟩ : ByteArray) ++ strOfNums [(wrap64 (97 + (Int.tmod (k : Int) 26))) % 256, (wrap64 (97 + (wrap64 (Int.tdiv (k : Int) 26)))) % 256]]) (by omega) (by simp [hs]))
    simp only [transomhand05_Made.l1, Option.bind_some]
    rw [if_pos (by omega), if_pos (by omega), e1, if_pos (by omega), strOfNums_size, if_pos (by simp), if_pos (by omega), wk (by omega)]
theorem g0 (hE : ∀ x ∈ E, 0 ≤ x ∧ x < 256) (hlen : E.length ≤ 8) (hS : S.length = n) (hn0 : 1 ≤ n) (hn : n ≤ 16) (hb : ∀ l ∈ S, ∀ x ∈ l, BOk x) (hr0 : 0 ≤ root) (hr1 : root < n) :
    ∀ (d j : Nat) (en : List S58), j + d = E.length → en.length = j → (∀ c ∈ en, 1 ≤ c.f1.length ∧ c.f1.length ≤ 32) → G (fun K => transomhand05_Made.l0 K j E S Rt tr en root) (MadeR n tr) := by
  intro d
  induction d with
  | zero =>
    intro j en hj hs hc
    refine G.step (fun K => ?_) (g2 (E := E) (Rt := Rt) (tr := tr) hS hn0 hn (⟨by omega, hc⟩ : EnOk en) hb hr0 hr1 n 0 [] (by omega) rfl ⟨fun i r h => by simp at h⟩)
    simp only [transomhand05_Made.l0]
    rw [if_neg (by omega)]
    rfl
  | succ d ih =>
    intro j en hj hs hc
    have hjE : j < E.length := by omega
    have hx : 0 ≤ rd E (j : Int) ∧ rd E (j : Int) < 256 := by
      have e : rd E (j : Int) = E[j] := by unfold rd; rw [show ((j : Int)).toNat = j from rfl, List.getD_eq_getElem?_getD, List.getElem?_eq_getElem hjE]; rfl
      rw [e]; exact hE _ (List.getElem_mem hjE)
    refine G.step (fun K => ?_) (g1 (nm := (⟨#[69]⟩ : ByteArray) ++ strOfNums [(wrap64 (97 + (j : Int))) % 256]) hE hjE hlen (show en.length ≤ 8 by omega) (fun ns n1 n2 => ih (j + 1) (en ++ [⟨_, ns⟩]) (by omega) (by simp [hs]) (fun c hcm => by
      rcases List.mem_append.1 hcm with e | e
      · exact hc c e
      · rw [List.mem_singleton] at e; subst e; exact ⟨n1, n2⟩)) (rd E (j : Int) % 32 + 1).toNat 0 [] (by omega) rfl)
    simp only [transomhand05_Made.l0, Option.bind_some]
    rw [if_pos (by omega), strOfNums_size, if_pos (by simp)]
    rfl
end
end Go.Proofs.YthilhndejhnlnaaDoor.Mk
end

section
/- The makers' plain law, 5: how large a value is; what a value that is made is like. -/
namespace Go.Proofs.YthilhndejhnlnaaDoor.Mk
open Go.RowKit Go.Proofs.YthilhndejhnlnaaDoor.QAll Go.Proofs.YthilhndejhnlnaaDoorW.PrintWords Go.Proofs.YthilhndejhnlnaaDoorW.PrintLast Go.Proofs.YthilhndejhnlnaaDoorW.PrintMore Go.Proofs.YthilhndejhnlnaaDoor.Hand Go.Proofs.YthilhndejhnlnaaDoor.Runes
set_option linter.unusedVariables false
/-- One sign of UTF-8. -/
def Sg (s : List Int) : Prop := s ≠ [] ∧ ∀ t, wsign (s ++ t) = s.length
def SgL (l : List Int) : Prop := ∃ S : List (List Int), l = S.flatten ∧ ∀ s ∈ S, Sg s
theorem SgL.nil : SgL [] := ⟨[], rfl, fun _ h => by cases h⟩
theorem SgL.one {s : List Int} (h : Sg s) : SgL s := ⟨[s], by simp, fun x hx => by rw [List.mem_singleton] at hx; exact hx ▸ h⟩
theorem SgL.append {a b : List Int} (h : SgL a) (k : SgL b) : SgL (a ++ b) := by
  obtain ⟨S, rfl, hS⟩ := h
  obtain ⟨T, rfl, hT⟩ := k
  exact ⟨S ++ T, by simp, fun x hx => (List.mem_append.1 hx).elim (hS x) (hT x)⟩
/-- The pieces of texts. -/
def pcs : List ByteArray := [⟨#[97]⟩, ⟨#[]⟩, ⟨#[34]⟩, ⟨#[92]⟩, ⟨#[10]⟩, ⟨#[1]⟩, ⟨#[195, 169]⟩, ⟨#[226, 130, 172]⟩, ⟨#[240, 159, 152, 128]⟩, ⟨#[0]⟩, ⟨#[47]⟩, ⟨#[127]⟩]
mutual
/-- How much a value is: parts, and bytes. -/
def wt : S29 → Nat
  | ⟨_, b, ks, _⟩ => 1 + b.length + wts ks
def wts : List S29 → Nat
  | [] => 0
  | x :: xs => wt x + wts xs
end
mutual
/-- Numbers and bytes are in their ranges. -/
def rng : S29 → Prop
  | ⟨n, b, ks, _⟩ => (0 ≤ n ∧ n < 18446744073709551616) ∧ (∀ x ∈ b, 0 ≤ x ∧ x < 256) ∧ rngs ks
def rngs : List S29 → Prop
  | [] => True
  | x :: xs => rng x ∧ rngs xs
end
theorem wts_append (xs ys : List S29) : wts (xs ++ ys) = wts xs + wts ys := by
  induction xs with
  | nil => simp [wts]
  | cons a t ih => simp only [List.cons_append, wts, ih]; omega
theorem rngs_iff (xs : List S29) : rngs xs ↔ ∀ x ∈ xs, rng x := by
  induction xs with
  | nil => simp [rngs]
  | cons a t ih => simp only [rngs, ih, List.mem_cons, forall_eq_or_imp]
theorem rngs_append (xs ys : List S29) : rngs (xs ++ ys) ↔ rngs xs ∧ rngs ys := by
  rw [rngs_iff, rngs_iff, rngs_iff]; simp only [List.mem_append]
  exact ⟨fun h => ⟨fun x hx => h x (.inl hx), fun x hx => h x (.inr hx)⟩, fun h x hx => hx.elim (h.1 x) (h.2 x)⟩
/-- A type of a schema of n structs. -/
structure TyG (en : List S58) (n : Nat) (kd rf ls : Int) : Prop where
  kr : 1 ≤ kd ∧ kd ≤ 13
  lr : 0 ≤ ls ∧ ls ≤ 3
  enm : kd = 10 → 0 ≤ rf ∧ rf < en.length
  str : kd = 13 → 0 ≤ rf ∧ rf < n
theorem FOk.ty {en : List S58} {n : Nat} {tr : Bool} {i : Nat} {f : S47} (h : FOk en n tr i f) : TyG en n f.f1.f0 f.f1.f1 f.f1.f2 := ⟨h.kd, h.ls, h.enm, h.str⟩
theorem TyG.elem {en : List S58} {n : Nat} {kd rf ls : Int} (h : TyG en n kd rf ls) (hl : 0 < ls) : TyG en n kd rf (ls - 1) := ⟨h.kr, by have := h.lr; omega, h.enm, h.str⟩
/-- What a value that is made is like: of a source of n bytes, from place i to place j. -/
structure VOk (st : List S50) (en : List S58) (root : Int) (n : Nat) (left : Nat) (kd rf ls : Int) (sure : Bool) (i j : Int) (v : S29) : Prop where
  fit : fitsB st en root left kd rf ls v = true
  has : sure = true → ls = 0 → kd = 13 → 1 ≤ left → v.f3 = true
  rg : rng v
  adv : i ≤ j ∧ j ≤ n
  run : i < n → i < j ∧ (wt v : Int) ≤ 21 * (j - i)
  fin : i = n → (wt v : Int) ≤ 17 ∧ (sure = false → wt v = 1)
end Go.Proofs.YthilhndejhnlnaaDoor.Mk
end

section
/- The document's answer on numbers of a type is the program's. -/
namespace Go.Proofs.YthilhndejhnlnaaDoor.Hand
open Go.RowKit Go.Proofs.YthilhndejhnlnaaDoor.QAll Go.Proofs.YthilhndejhnlnaaDoorW.PrintWords Go.Proofs.YthilhndejhnlnaaDoorW.PrintLast Go.Proofs.YthilhndejhnlnaaDoorW.PrintMore Go.Proofs.YthilhndejhnlnaaDoor.Mk
set_option linter.unusedVariables false
set_option linter.unusedSimpArgs false
theorem reffits_f (st : List S50) (en : List S58) (root kd rf n : Int) (h1 : 1 ≤ kd) (h2 : kd ≤ 10) (n0 : 0 ≤ n) (n1 : n < 18446744073709551616) : transomref05_Fits.f 6 st en root kd rf 0 n = some (numB st en root kd rf 0 n) := by
  have hsz : 0 < szB kd := by have := szB_in kd h1 h2; omega
  have hi : transomref05_IsNum.f 6 kd rf 0 = some true := by rw [isnum_f kd rf 0 (by omega) (by omega)]; simp [hsz]
  have hz : transomref01_Size.f 6 (wrap64 kd) = some (szB kd) := by rw [w64 kd (by omega) (by omega)]; exact rsize_f kd (by omega) (by omega)
  have hf := fits_at st en root kd rf n h1 h2
  rw [num_f] at hf
  rw [hf]
  unfold transomref05_Fits.f
  rw [hi]; simp only [Option.bind_some, if_true]
  rw [hz]; simp only [Option.bind_some, schema_Fits.j0]
  rw [if_neg (show ¬ (false = true) by decide)]
  by_cases k1 : kd = 1
  · rw [if_pos k1, if_pos k1]; exact congrArg some (decide_eq_decide.2 (by omega))
  rw [if_neg k1, if_neg k1]
  by_cases k10 : kd = 10
  · rw [if_pos k10, if_pos k10]
  rw [if_neg k10, if_neg k10]
  have hsg : transomref01_Sign.f (wrap64 kd) = some (decide (2 ≤ kd ∧ kd ≤ 5)) := by
    rw [w64 kd (by omega) (by omega)]; unfold transomref01_Sign.f
    rw [if_pos (show kd ≥ 2 by omega)]; congr 1; simp; omega
  have hsw : wire_Sign.f kd = some (decide (2 ≤ kd ∧ kd ≤ 5)) := by
    unfold wire_Sign.f
    rw [if_pos (show kd ≥ 2 by omega)]; congr 1; simp; omega
  rw [hsg, hsw]; simp only [Option.bind_some]
  by_cases hs : 2 ≤ kd ∧ kd ≤ 5
  · rw [decide_eq_true hs, if_pos (show true = true from rfl), if_pos (show true = true from rfl), signed_one n n0 n1 (szB kd) 5]
  · rw [decide_eq_false hs, if_neg (show ¬ (false = true) by decide), if_neg (show ¬ (false = true) by decide)]
    by_cases h8 : szB kd = 8
    · rw [if_pos h8, if_pos h8]
    · rw [if_neg h8, if_neg h8]
      have hw : (0 : Int) ≤ wrap64 (8 * szB kd) := by unfold wrap64; rcases szB_or kd with e | e | e | e | e <;> rw [e] <;> decide
      rw [if_pos hw, if_pos hw]
      have key : ∀ (M W : Int), wrap64 (8 * szB kd) = W → shl .u64 1 W = M → shr .u64 n W = n / M → 0 < M → some (decide (n < shl .u64 1 (wrap64 (8 * szB kd)))) = some (shr .u64 n (wrap64 (8 * szB kd)) == 0) := by
        intro M W e1 e2 e3 hM
        rw [e1, e2, e3]; congr 1
        rw [Bool.eq_iff_iff, decide_eq_true_iff, beq_iff_eq]
        constructor
        · intro h; exact Int.ediv_eq_zero_of_lt n0 h
        · intro h
          have := Int.emod_add_mul_ediv n M
          have := Int.emod_lt_of_pos n hM
          rw [h] at *; simp at *; omega
      rcases szB_in kd h1 h2 with (e | e | e) | e
      · exact key 256 8 (by rw [e]; unfold wrap64; omega) (by decide +kernel) rfl (by decide)
      · exact key 65536 16 (by rw [e]; unfold wrap64; omega) (by decide +kernel) rfl (by decide)
      · exact key 4294967296 32 (by rw [e]; unfold wrap64; omega) (by decide +kernel) rfl (by decide)
      · exact absurd e h8
end Go.Proofs.YthilhndejhnlnaaDoor.Hand
end
